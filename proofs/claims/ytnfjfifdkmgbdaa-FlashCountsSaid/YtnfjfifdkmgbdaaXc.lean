/- The walk of Take. -/
import Derived.Test.YtnfjfifdkmgbdaaXb
import Derived.BigRegion
namespace Go.Proofs.Ytnfjfifdkmgbdaa
open Go.RowKit Go.Shelf
namespace Fl
/-- What Take answers: the memory, the counter, the number, the error. -/
def takeP (m : Mem) (c : Ctr) : Mem × Ctr × Int × Int :=
  if (reserveP m c).2.2 ≠ 0 then (none_, noCtr, 0, (reserveP m c).2.2)
  else ((if (reserveP m c).2.1 ≠ c.limit then (putP m c.key (reserveP m c).2.1).1 else m), ⟨c.key, c.step, (reserveP m c).1 + 1, (reserveP m c).2.1⟩, (reserveP m c).1, 0)
theorem reserveP_ok {m : Mem} {c : Ctr} (h : (reserveP m c).2.2 = 0) : validP m = true ∧ ctrOk c = true ∧ (reserveP m c).1 = c.next ∧ (c.next < c.limit ∨ c.limit + c.step ≤ 1099511627775) := by
  unfold reserveP at h ⊢
  cases h1 : validP m <;> cases h2 : ctrOk c <;> simp [h1, h2] at h ⊢
  by_cases h3 : c.next < c.limit
  · simp [h3]
  · simp only [h3, if_false, false_or] at h ⊢
    by_cases h4 : 1099511627775 < c.limit + c.step
    · simp [h4] at h
    · refine ⟨?_, by omega⟩
      simp [h4] at h ⊢
      by_cases h5 : (stepsRes m c.key (c.limit + c.step)).2 = 0
      · simp [h5]
      · simp [h5] at h
end Fl
/-- What a function leaves that answers a memory, a counter, a number and an error. -/
def TPost (r : Fl.Mem × Fl.Ctr × Int × Int) (w : World) (e : Ending) (w' : World) : Prop := ∃ (sz' : Int) (pa' : Option Addr) (pn' pc' : Nat) (ea' : Option Addr) (en' ec' : Nat),
  e = .returned (.tuple #[.agg #[.int .i64 sz', .slice pa' pn' pc', .slice ea' en' ec'], ctrV r.2.1, .int .i64 r.2.2.1, .int .i64 r.2.2.2]) ∧ (∀ W : World, (∀ k, w.heap.size ≤ k → W.heap[k]? = w'.heap[k]?) → FRep W sz' pa' pn' ea' en' r.1) ∧ Below w.heap.size w w'
theorem TPost.mk {m : Fl.Mem} {c : Fl.Ctr} {n er : Int} {w w' : World} {e : Ending} {sz' : Int} {pa' : Option Addr} {pn' pc' : Nat} {ea' : Option Addr} {en' ec' : Nat} (h1 : e = .returned (.tuple #[.agg #[.int .i64 sz', .slice pa' pn' pc', .slice ea' en' ec'], ctrV c, .int .i64 n, .int .i64 er])) (h2 : ∀ W : World, (∀ k, w.heap.size ≤ k → W.heap[k]? = w'.heap[k]?) → FRep W sz' pa' pn' ea' en' m) (h3 : Below w.heap.size w w') : TPost (m, c, n, er) w e w' := ⟨_, _, _, _, _, _, _, h1, h2, h3⟩
/-- A memory in rows that a call has made. -/
theorem copied_rep {w w' : World} {m : Fl.Mem} {pa ea : Option Addr} {pc ec : Nat} {vs : List Value} (hp : OwnP w' w.heap.size (.slice pa m.pages.length pc) vs m.pages) (he : w'.ownsRow w.heap.size 3 1 (.slice ea m.erased.length ec) m.erased.length (m.erased.map (Value.int .i64))) (hv : Fl.validP m = true) :
    ∀ W : World, (∀ k, w.heap.size ≤ k → k < w'.heap.size → W.heap[k]? = w'.heap[k]?) → FRep W m.size pa m.pages.length ea m.erased.length m := by
  intro W hW
  have V := vfacts hv
  have tb := V.tb
  have hs := V.size
  have hpg := V.pages
  have hln := V.lens
  have hp2 : OwnP W w.heap.size (.slice pa m.pages.length pc) vs m.pages := hp.keep (fun g hg => hW g (own_lt hp.row hg).2.1 (own_lt hp.row hg).1) (fun i g hi hg => hW g (own_lt (hp.each i hi) hg).2.1 (own_lt (hp.each i hi) hg).1)
  have he2 := own_keep (w' := W) he (fun g hg => hW g (own_lt he hg).2.1 (own_lt he hg).1)
  refine ⟨rfl, ⟨rfl, by omega, fun i hi => ?_⟩, ⟨rfl, by omega, fun i hi => ?_⟩, by omega⟩
  · have hlv := hp2.len
    have hrow := hp2.row
    rw [hlv] at hrow
    obtain ⟨g, cap, hg, _, _⟩ := World.ownsRow.form hrow (by omega)
    simp only [Value.slice.injEq] at hg
    obtain ⟨rfl, _, rfl⟩ := hg
    have hc := World.ownsRow.cellAt hrow i (by omega)
    have hb := hp2.each i (by omega)
    obtain ⟨a', cap', e, hbs⟩ := hb.bs
    refine ⟨g, 0, a', _, cap', rfl, ?_, hbs⟩
    rw [Nat.zero_add, hc]
    rw [List.getD_eq_getElem?_getD, List.getElem?_eq_getElem (by omega)] at e
    rw [List.getElem?_eq_getElem (by omega)]
    simpa using e
  · obtain ⟨g, cap, hg, _, _⟩ := World.ownsRow.form he2 (by omega)
    simp only [Value.slice.injEq] at hg
    obtain ⟨rfl, _, rfl⟩ := hg
    have hc := World.ownsRow.cellAt he2 i (by omega)
    have := tb.lo i
    have := tb.hi i
    refine ⟨g, 0, rfl, ?_, by omega, by omega⟩
    rw [Nat.zero_add, hc]
    simp [List.getElem?_eq_getElem hi]
theorem below_drew {B : Nat} {a w : World} (h : Below B a w) : Below B a w.drew := ⟨h.os, h.tape, h.output, h.size, h.block⟩
/-- A memory and a counter are stored. -/
theorem put34 {w2 : World} {b c : Nat} {x0 y0 z0 p0 q0 r0 s0 : Value} (hB : w2.heap[b]? = some (.cells #[x0, y0, z0] 32 (0, 0))) (hC : w2.heap[c]? = some (.cells #[p0, q0, r0, s0] 49 (0, 0))) (hbc : b ≠ c) (x y z p q r s : Value) (W : World)
    (hW : W = ((((((w2.setCell ⟨b, 0, none⟩ x).setCell ⟨b, 1, none⟩ y).setCell ⟨b, 2, none⟩ z).setCell ⟨c, 0, none⟩ p).setCell ⟨c, 1, none⟩ q).setCell ⟨c, 2, none⟩ r).setCell ⟨c, 3, none⟩ s) :
    W.heap[b]? = some (.cells #[x, y, z] 32 (0, 0)) ∧ W.heap[c]? = some (.cells #[p, q, r, s] 49 (0, 0)) ∧ (∀ k, k ≠ b → k ≠ c → W.heap[k]? = w2.heap[k]?) ∧ (∀ (n : Nat) (w : World), n ≤ b → n ≤ c → Below n w w2 → Below n w W) := by
  refine ⟨?_, ?_, fun k h1 h2 => ?_, fun n w h1 h2 h => ?_⟩
  · rw [hW, Below.heap_setCell _ _ _ _ hbc, Below.heap_setCell _ _ _ _ hbc, Below.heap_setCell _ _ _ _ hbc, Below.heap_setCell _ _ _ _ hbc, set_arr (set_arr (set_arr hB 0 x) 1 y) 2 z]; simp
  · rw [hW, set_arr (set_arr (set_arr (set_arr (set_other (set_other (set_other hC (Ne.symm hbc)) (Ne.symm hbc)) (Ne.symm hbc)) 0 p) 1 q) 2 r) 3 s]; simp
  · rw [hW, Below.heap_setCell _ _ _ _ h2, Below.heap_setCell _ _ _ _ h2, Below.heap_setCell _ _ _ _ h2, Below.heap_setCell _ _ _ _ h2, Below.heap_setCell _ _ _ _ h1, Below.heap_setCell _ _ _ _ h1, Below.heap_setCell _ _ _ _ h1]
  · rw [hW]; exact ((((((h.setCell h1 _).setCell h1 _).setCell h1 _).setCell h2 _).setCell h2 _).setCell h2 _).setCell h2 _
theorem three_cells' {w : World} {b : Nat} {x0 y0 z0 : Value} (h : w.heap[b]? = some (.cells #[x0, y0, z0] 32 (0, 0))) (x y z : Value) (w' : World) (hw : w' = ((w.setCell ⟨b, 0, none⟩ x).setCell ⟨b, 1, none⟩ y).setCell ⟨b, 2, none⟩ z) :
    w'.heap[b]? = some (.cells #[x, y, z] 32 (0, 0)) := by
  rw [hw, set_arr (set_arr (set_arr h 0 x) 1 y) 2 z]; simp
set_option maxHeartbeats 3200000 in
theorem take_any (sz : Int) (pa : Option Addr) (pn pc : Nat) (ea : Option Addr) (en ec : Nat) (ck cs cn cl : Int) (m : Fl.Mem) (w : World) (h : FRep w sz pa pn ea en m)
    (cl2 : cl ≤ 9223372036854775807) :
    Calls Try.prog 30 #[.agg #[.int .i64 sz, .slice pa pn pc, .slice ea en ec], .agg #[.int .i64 ck, .int .i64 cs, .int .i64 cn, .int .i64 cl]] w (TPost (Fl.takeP m ⟨ck, cs, cn, cl⟩) w) := by
  have P1 : Below w.heap.size w ((((w.alloc (.cells #[.int .i64 sz, .slice pa pn pc, .slice ea en ec] 32)).alloc (.cells #[.int .i64 ck, .int .i64 cs, .int .i64 cn, .int .i64 cl] 49)).alloc (.cells #[.int .i64 0, .slice none 0 0, .slice none 0 0] 32)).alloc (.cells #[.int .i64 0, .int .i64 0, .int .i64 0, .int .i64 0] 49)) := (((pure_alloc _ _).alloc (by simp) _).alloc (by simp; omega) _).alloc (by simp; omega) _
  have B0 : ((((w.alloc (.cells #[.int .i64 sz, .slice pa pn pc, .slice ea en ec] 32)).alloc (.cells #[.int .i64 ck, .int .i64 cs, .int .i64 cn, .int .i64 cl] 49)).alloc (.cells #[.int .i64 0, .slice none 0 0, .slice none 0 0] 32)).alloc (.cells #[.int .i64 0, .int .i64 0, .int .i64 0, .int .i64 0] 49)).heap[w.heap.size]? = some (.cells #[.int .i64 sz, .slice pa pn pc, .slice ea en ec] 32 (0, 0)) := alloc_keep (alloc_keep (alloc_keep (alloc_new _ _)))
  have B1 : ((((w.alloc (.cells #[.int .i64 sz, .slice pa pn pc, .slice ea en ec] 32)).alloc (.cells #[.int .i64 ck, .int .i64 cs, .int .i64 cn, .int .i64 cl] 49)).alloc (.cells #[.int .i64 0, .slice none 0 0, .slice none 0 0] 32)).alloc (.cells #[.int .i64 0, .int .i64 0, .int .i64 0, .int .i64 0] 49)).heap[w.heap.size + 1]? = some (.cells #[.int .i64 ck, .int .i64 cs, .int .i64 cn, .int .i64 cl] 49 (0, 0)) := alloc_keep (alloc_keep (alloc_new' _ _ _ (by simp)))
  have B2 : ((((w.alloc (.cells #[.int .i64 sz, .slice pa pn pc, .slice ea en ec] 32)).alloc (.cells #[.int .i64 ck, .int .i64 cs, .int .i64 cn, .int .i64 cl] 49)).alloc (.cells #[.int .i64 0, .slice none 0 0, .slice none 0 0] 32)).alloc (.cells #[.int .i64 0, .int .i64 0, .int .i64 0, .int .i64 0] 49)).heap[w.heap.size + 1 + 1]? = some (.cells #[.int .i64 0, .slice none 0 0, .slice none 0 0] 32 (0, 0)) := alloc_keep (alloc_new' _ _ _ (by simp))
  have B3 : ((((w.alloc (.cells #[.int .i64 sz, .slice pa pn pc, .slice ea en ec] 32)).alloc (.cells #[.int .i64 ck, .int .i64 cs, .int .i64 cn, .int .i64 cl] 49)).alloc (.cells #[.int .i64 0, .slice none 0 0, .slice none 0 0] 32)).alloc (.cells #[.int .i64 0, .int .i64 0, .int .i64 0, .int .i64 0] 49)).heap[w.heap.size + 1 + 1 + 1]? = some (.cells #[.int .i64 0, .int .i64 0, .int .i64 0, .int .i64 0] 49 (0, 0)) := alloc_new' _ _ _ (by simp)
  have T0 : Hid ((Fl.takeP m ⟨ck, cs, cn, cl⟩) = if (Fl.reserveP m ⟨ck, cs, cn, cl⟩).2.2 ≠ 0 then (Fl.none_, Fl.noCtr, 0, (Fl.reserveP m ⟨ck, cs, cn, cl⟩).2.2) else ((if (Fl.reserveP m ⟨ck, cs, cn, cl⟩).2.1 ≠ cl then (Fl.putP m ck (Fl.reserveP m ⟨ck, cs, cn, cl⟩).2.1).1 else m), ⟨ck, cs, (Fl.reserveP m ⟨ck, cs, cn, cl⟩).1 + 1, (Fl.reserveP m ⟨ck, cs, cn, cl⟩).2.1⟩, (Fl.reserveP m ⟨ck, cs, cn, cl⟩).1, 0)) := rfl
  have RO := Lib.hid (@Fl.reserveP_ok m ⟨ck, cs, cn, cl⟩)
  go_enter Try.func30, Try.ntmps30
  go_upto_region 1 with fail
  generalize ((((w.alloc (.cells #[.int .i64 sz, .slice pa pn pc, .slice ea en ec] 32)).alloc (.cells #[.int .i64 ck, .int .i64 cs, .int .i64 cn, .int .i64 cl] 49)).alloc (.cells #[.int .i64 0, .slice none 0 0, .slice none 0 0] 32)).alloc (.cells #[.int .i64 0, .int .i64 0, .int .i64 0, .int .i64 0] 49)) = w1 at *
  have HF := Lib.hid (h.below P1)
  have c1 := cell_of_arr B0 0
  have c2 := cell_of_arr B0 1
  have c3 := cell_of_arr B0 2
  simp at c1 c2 c3
  have k1 := cell_of_arr B1 0
  have k2 := cell_of_arr B1 1
  have k3 := cell_of_arr B1 2
  have k4 := cell_of_arr B1 3
  simp at k1 k2 k3 k4
  have HP1 := Lib.hid P1
  have HB0 := Lib.hid B0
  have HB1 := Lib.hid B1
  have HB2 := Lib.hid B2
  have HB3 := Lib.hid B3
  clear P1 B0 B1 B2 B3 h
  go_wp2_with fail
  refine (reserve_any sz pa pn pc ea en ec ck cs cn cl m w1 HF.out cl2).mono ?_
  rintro e w2 ⟨rfl, hw2⟩
  have HP2 := Lib.hid (pure_trans HP1.out hw2)
  have HF2 := Lib.hid (HF.out.below hw2)
  have B0 := Below.keep hw2 HB0.out (lt_of_block HB0.out)
  have B1 := Below.keep hw2 HB1.out (lt_of_block HB1.out)
  have B2 := Below.keep hw2 HB2.out (lt_of_block HB2.out)
  have B3 := Below.keep hw2 HB3.out (lt_of_block HB3.out)
  clear hw2 HB0 HB1 HB2 HB3 HP1 HF c1 c2 c3 k1 k2 k3 k4
  by_cases he : (Fl.reserveP m ⟨ck, cs, cn, cl⟩).2.2 = 0
  rotate_left
  · have R1 : Hid ((Fl.takeP m ⟨ck, cs, cn, cl⟩) = (Fl.none_, Fl.noCtr, 0, (Fl.reserveP m ⟨ck, cs, cn, cl⟩).2.2)) := by show _ = _; rw [T0.out, if_pos he]
    clear T0 RO
    generalize (Fl.reserveP m ⟨ck, cs, cn, cl⟩).2.2 = er at *
    generalize (Fl.reserveP m ⟨ck, cs, cn, cl⟩).2.1 = lm at *
    generalize (Fl.reserveP m ⟨ck, cs, cn, cl⟩).1 = nx at *
    have d1 := cell_of_arr B2 0
    have d2 := cell_of_arr B2 1
    have d3 := cell_of_arr B2 2
    simp at d1 d2 d3
    have f1 := frozen_of_arr B2 0
    have f2 := frozen_of_arr B2 1
    have f3 := frozen_of_arr B2 2
    have e1 := cell_of_arr B3 0
    have e2 := cell_of_arr B3 1
    have e3 := cell_of_arr B3 2
    have e4 := cell_of_arr B3 3
    simp at e1 e2 e3 e4
    have i1 := frozen_of_arr B3 0
    have i2 := frozen_of_arr B3 1
    have i3 := frozen_of_arr B3 2
    have i4 := frozen_of_arr B3 3
    have HB2 := Lib.hid B2
    have HB3 := Lib.hid B3
    clear B0 B1 B2 B3
    go_wp2_with fail
    obtain ⟨S2, S3, S4, S5⟩ := put34 HB2.out HB3.out (by omega) (.int .i64 0) (.slice none 0 0) (.slice none 0 0) (.int .i64 0) (.int .i64 0) (.int .i64 0) (.int .i64 0) _ rfl
    have p1 := cell_of_arr S2 0
    have p2 := cell_of_arr S2 1
    have p3 := cell_of_arr S2 2
    simp at p1 p2 p3
    have q1 := cell_of_arr S3 0
    have q2 := cell_of_arr S3 1
    have q3 := cell_of_arr S3 2
    have q4 := cell_of_arr S3 3
    simp at q1 q2 q3 q4
    refine bodyPost_ret (v := .tuple #[.agg #[.int .i64 0, .slice none 0 0, .slice none 0 0], ctrV Fl.noCtr, .int .i64 0, .int .i64 er]) (by simp [results, Try.results30, go_sem, p1, p2, p3, q1, q2, q3, q4, ctrV, Fl.noCtr]) rfl ?_
    rw [R1.out]
    exact TPost.mk rfl (fun W _ => frep_none W) (S5 _ _ (by omega) (by omega) HP2.out)
  obtain ⟨hv, hco, hnx, hbn⟩ := RO.out he
  have T1 : Hid ((Fl.takeP m ⟨ck, cs, cn, cl⟩) = ((if (Fl.reserveP m ⟨ck, cs, cn, cl⟩).2.1 ≠ cl then (Fl.putP m ck (Fl.reserveP m ⟨ck, cs, cn, cl⟩).2.1).1 else m), ⟨ck, cs, cn + 1, (Fl.reserveP m ⟨ck, cs, cn, cl⟩).2.1⟩, cn, 0)) := by
    show _ = _; rw [T0.out, if_neg (by simpa using he), hnx]
  have hcn : 0 ≤ cn ∧ cn ≤ 9223372036854775806 := by simp [Fl.ctrOk] at hco; omega
  clear T0 RO hco hbn
  obtain ⟨hcn1, hcn2⟩ := hcn
  rw [he, hnx]
  clear he hnx
  generalize (Fl.reserveP m ⟨ck, cs, cn, cl⟩).2.1 = lm at *
  have V := vfacts hv
  have hlen : ∀ i, i < pn → (m.pages.getD i []).length ≤ 1000 := fun i hi => by
    have h1 := HF2.out.pages.1
    have h2 := rows_len _ _ i V.rows (by omega)
    have h3 := V.size
    omega
  have hpn : pn ≤ 1000 := by have h1 := HF2.out.pages.1; have h2 := V.pages; omega
  have hen : en ≤ 1000 := by have h1 := HF2.out.erased.1; have h2 := V.pages; have h3 := V.lens; omega
  have HCP := Lib.hid (copied_any sz pa pn pc ea en ec m w2 HF2.out hpn hen hlen)
  clear hlen hpn hen V
  have c1 := cell_of_arr B0 0
  have c2 := cell_of_arr B0 1
  have c3 := cell_of_arr B0 2
  simp at c1 c2 c3
  have k1 := cell_of_arr B1 0
  have k2 := cell_of_arr B1 1
  have k3 := cell_of_arr B1 2
  have k4 := cell_of_arr B1 3
  simp at k1 k2 k3 k4
  have HB0 := Lib.hid B0
  have HB1 := Lib.hid B1
  have HB2 := Lib.hid B2
  have HB3 := Lib.hid B3
  clear B0 B1 B2 B3
  go_wp2_with fail
  refine HCP.out.mono ?_
  rintro e w3 ⟨pv, ev, vs, rfl, hpv, hev, hw3⟩
  have V := vfacts hv
  have hrow := hpv.row
  rw [hpv.len] at hrow
  obtain ⟨pg, pc3, rfl, _, _⟩ := World.ownsRow.form hrow (by have := V.pages; omega)
  obtain ⟨eg, ec3, rfl, _, _⟩ := World.ownsRow.form hev (by have := V.pages; have := V.lens; omega)
  have HREP := Lib.hid (copied_rep hpv hev hv)
  have hsz2 := HF2.out.size
  have HP3 := Lib.hid (pure_trans HP2.out hw3)
  have HF3 := Lib.hid (HF2.out.below hw3)
  have C0 := Below.keep hw3 HB0.out (lt_of_block HB0.out)
  have C1 := Below.keep hw3 HB1.out (lt_of_block HB1.out)
  have C2 := Below.keep hw3 HB2.out (lt_of_block HB2.out)
  have C3 := Below.keep hw3 HB3.out (lt_of_block HB3.out)
  have hl3 := lt_of_block C3
  have hl2 := lt_of_block HB3.out
  have hs23 := hw3.size
  clear hrow hpv hev V hw3 HCP c1 c2 c3 k1 k2 k3 k4 HB0 HB1 HB2 HB3
  have HSZ := Lib.hid hsz2
  clear hsz2
  have PA := pure_alloc w3 (.cells #[.int .i64 sz, .slice (some ⟨pg, 0, none⟩) m.pages.length pc3, .slice (some ⟨eg, 0, none⟩) m.erased.length ec3] 32)
  have N4 := alloc_new w3 (.cells #[.int .i64 sz, .slice (some ⟨pg, 0, none⟩) m.pages.length pc3, .slice (some ⟨eg, 0, none⟩) m.erased.length ec3] 32)
  have E0 := Below.keep PA C0 (lt_of_block C0)
  have D1 := Below.keep PA C1 (lt_of_block C1)
  have D2 := Below.keep PA C2 (lt_of_block C2)
  have D3 := Below.keep PA C3 (lt_of_block C3)
  have HP4 := Lib.hid (pure_trans HP3.out PA)
  have HF4 := Lib.hid (HF3.out.below PA)
  have hs34 := lt_of_block N4
  have REP4 : Hid (∀ W : World, (∀ k, w2.heap.size ≤ k → k < w3.heap.size → W.heap[k]? = (w3.alloc (.cells #[.int .i64 sz, .slice (some ⟨pg, 0, none⟩) m.pages.length pc3, .slice (some ⟨eg, 0, none⟩) m.erased.length ec3] 32)).heap[k]?) → FRep W m.size (some ⟨pg, 0, none⟩) m.pages.length (some ⟨eg, 0, none⟩) m.erased.length m) := by
    show ∀ W : World, _ → _
    exact fun W hW => HREP.out W (fun k h1 h2 => (hW k h1 h2).trans (PA.block k h2))
  go_upto_region 5 with fail
  generalize w3.alloc (.cells #[.int .i64 sz, .slice (some ⟨pg, 0, none⟩) m.pages.length pc3, .slice (some ⟨eg, 0, none⟩) m.erased.length ec3] 32) = w4 at *
  clear PA C0 C1 C2 C3 HREP HP3 HF3 HF2
  by_cases hlm : lm = cl
  · have T2 : Hid ((Fl.takeP m ⟨ck, cs, cn, cl⟩) = (m, ⟨ck, cs, cn + 1, lm⟩, cn, 0)) := by show _ = _; rw [T1.out, if_neg (by simpa using hlm)]
    have hlm' : (lm != cl) = false := by simpa using hlm
    clear T1 hlm E0
    have N5 := N4
    clear N4
    have x1 := cell_of_arr N5 0
    have x2 := cell_of_arr N5 1
    have x3 := cell_of_arr N5 2
    simp at x1 x2 x3
    have k1 := cell_of_arr D1 0
    have k2 := cell_of_arr D1 1
    have k3 := cell_of_arr D1 2
    have k4 := cell_of_arr D1 3
    simp at k1 k2 k3 k4
    have u1 := frozen_of_arr D1 0
    have u2 := frozen_of_arr D1 1
    have u3 := frozen_of_arr D1 2
    have u4 := frozen_of_arr D1 3
    have d1 := cell_of_arr D2 0
    have d2 := cell_of_arr D2 1
    have d3 := cell_of_arr D2 2
    simp at d1 d2 d3
    have f1 := frozen_of_arr D2 0
    have f2 := frozen_of_arr D2 1
    have f3 := frozen_of_arr D2 2
    have e1 := cell_of_arr D3 0
    have e2 := cell_of_arr D3 1
    have e3 := cell_of_arr D3 2
    have e4 := cell_of_arr D3 3
    simp at e1 e2 e3 e4
    have i1 := frozen_of_arr D3 0
    have i2 := frozen_of_arr D3 1
    have i3 := frozen_of_arr D3 2
    have i4 := frozen_of_arr D3 3
    have HN5 := Lib.hid N5
    have HD1 := Lib.hid D1
    have HD2 := Lib.hid D2
    have HD3 := Lib.hid D3
    clear N5 D1 D2 D3
    go_upto_region 8 with fail
    have G1 : ((w4.setCell ⟨w.heap.size + 1, 2, none⟩ (.int .i64 (cn + 1))).setCell ⟨w.heap.size + 1, 3, none⟩ (.int .i64 lm)).heap[w.heap.size + 1]? = some (.cells #[.int .i64 ck, .int .i64 cs, .int .i64 (cn + 1), .int .i64 lm] 49 (0, 0)) := by rw [set_arr (set_arr HD1.out 2 _) 3 _]; simp
    have G2 : ((w4.setCell ⟨w.heap.size + 1, 2, none⟩ (.int .i64 (cn + 1))).setCell ⟨w.heap.size + 1, 3, none⟩ (.int .i64 lm)).heap[w.heap.size + 1 + 1]? = some (.cells #[.int .i64 0, .slice none 0 0, .slice none 0 0] 32 (0, 0)) := set_other (set_other HD2.out (by dsimp only; omega)) (by dsimp only; omega)
    have G3 : ((w4.setCell ⟨w.heap.size + 1, 2, none⟩ (.int .i64 (cn + 1))).setCell ⟨w.heap.size + 1, 3, none⟩ (.int .i64 lm)).heap[w.heap.size + 1 + 1 + 1]? = some (.cells #[.int .i64 0, .int .i64 0, .int .i64 0, .int .i64 0] 49 (0, 0)) := set_other (set_other HD3.out (by dsimp only; omega)) (by dsimp only; omega)
    have G4 : ((w4.setCell ⟨w.heap.size + 1, 2, none⟩ (.int .i64 (cn + 1))).setCell ⟨w.heap.size + 1, 3, none⟩ (.int .i64 lm)).heap[w3.heap.size]? = some (.cells #[.int .i64 sz, .slice (some ⟨pg, 0, none⟩) m.pages.length pc3, .slice (some ⟨eg, 0, none⟩) m.erased.length ec3] 32 (0, 0)) := set_other (set_other HN5.out (by dsimp only; omega)) (by dsimp only; omega)
    have G5 : Below w.heap.size w ((w4.setCell ⟨w.heap.size + 1, 2, none⟩ (.int .i64 (cn + 1))).setCell ⟨w.heap.size + 1, 3, none⟩ (.int .i64 lm)) := (HP4.out.setCell (by simp) _).setCell (by simp) _
    have G6 : ∀ k, k ≠ w.heap.size + 1 → ((w4.setCell ⟨w.heap.size + 1, 2, none⟩ (.int .i64 (cn + 1))).setCell ⟨w.heap.size + 1, 3, none⟩ (.int .i64 lm)).heap[k]? = w4.heap[k]? := fun k hk => by rw [Below.heap_setCell _ _ _ _ (by simpa using hk), Below.heap_setCell _ _ _ _ (by simpa using hk)]
    generalize ((w4.setCell ⟨w.heap.size + 1, 2, none⟩ (.int .i64 (cn + 1))).setCell ⟨w.heap.size + 1, 3, none⟩ (.int .i64 lm)) = w5 at *
    clear x1 x2 x3 k1 k2 k3 k4 u1 u2 u3 u4 d1 d2 d3 f1 f2 f3 e1 e2 e3 e4 i1 i2 i3 i4 HD1 HD2 HD3 HN5
    have x1 := cell_of_arr G4 0
    have x2 := cell_of_arr G4 1
    have x3 := cell_of_arr G4 2
    simp at x1 x2 x3
    have k1 := cell_of_arr G1 0
    have k2 := cell_of_arr G1 1
    have k3 := cell_of_arr G1 2
    have k4 := cell_of_arr G1 3
    simp at k1 k2 k3 k4
    have d1 := cell_of_arr G2 0
    have d2 := cell_of_arr G2 1
    have d3 := cell_of_arr G2 2
    simp at d1 d2 d3
    have f1 := frozen_of_arr G2 0
    have f2 := frozen_of_arr G2 1
    have f3 := frozen_of_arr G2 2
    have e1 := cell_of_arr G3 0
    have e2 := cell_of_arr G3 1
    have e3 := cell_of_arr G3 2
    have e4 := cell_of_arr G3 3
    simp at e1 e2 e3 e4
    have i1 := frozen_of_arr G3 0
    have i2 := frozen_of_arr G3 1
    have i3 := frozen_of_arr G3 2
    have i4 := frozen_of_arr G3 3
    have HG2 := Lib.hid G2
    have HG3 := Lib.hid G3
    have HG5 := Lib.hid G5
    have HG6 := Lib.hid G6
    clear G1 G2 G3 G4 G5 G6
    go_region
    go_wp2_with fail
    have Q := put34 HG2.out HG3.out (by omega) (.int .i64 sz) (.slice (some ⟨pg, 0, none⟩) m.pages.length pc3) (.slice (some ⟨eg, 0, none⟩) m.erased.length ec3) (.int .i64 ck) (.int .i64 cs) (.int .i64 (cn + 1)) (.int .i64 lm) _ rfl
    generalize (((((((w5.setCell ⟨w.heap.size + 1 + 1, 0, none⟩ (.int .i64 sz)).setCell ⟨w.heap.size + 1 + 1, 1, none⟩ (.slice (some ⟨pg, 0, none⟩) m.pages.length pc3)).setCell ⟨w.heap.size + 1 + 1, 2, none⟩ (.slice (some ⟨eg, 0, none⟩) m.erased.length ec3)).setCell ⟨w.heap.size + 1 + 1 + 1, 0, none⟩ (.int .i64 ck)).setCell ⟨w.heap.size + 1 + 1 + 1, 1, none⟩ (.int .i64 cs)).setCell ⟨w.heap.size + 1 + 1 + 1, 2, none⟩ (.int .i64 (cn + 1))).setCell ⟨w.heap.size + 1 + 1 + 1, 3, none⟩ (.int .i64 lm)) = w7 at Q ⊢
    obtain ⟨S2, S3, S4, S5⟩ := Q
    have p1 := cell_of_arr S2 0
    have p2 := cell_of_arr S2 1
    have p3 := cell_of_arr S2 2
    simp at p1 p2 p3
    have q1 := cell_of_arr S3 0
    have q2 := cell_of_arr S3 1
    have q3 := cell_of_arr S3 2
    have q4 := cell_of_arr S3 3
    simp at q1 q2 q3 q4
    refine bodyPost_ret (v := .tuple #[.agg #[.int .i64 sz, .slice (some ⟨pg, 0, none⟩) m.pages.length pc3, .slice (some ⟨eg, 0, none⟩) m.erased.length ec3], .agg #[.int .i64 ck, .int .i64 cs, .int .i64 (cn + 1), .int .i64 lm], .int .i64 cn, .int .i64 0]) (by simp [results, Try.results30, go_sem, p1, p2, p3, q1, q2, q3, q4]) rfl ?_
    rw [T2.out]
    refine TPost.mk rfl (fun W hW => ?_) (below_drew (S5 _ _ (by omega) (by omega) HG5.out))
    rw [HSZ.out]
    refine REP4.out W (fun k h1 h2 => ?_)
    refine (hW k (by omega)).trans ?_
    refine Eq.trans (S4 k (by omega) (by omega)) (HG6.out k (by omega))
  · have T2 : Hid ((Fl.takeP m ⟨ck, cs, cn, cl⟩) = ((Fl.putP m ck lm).1, ⟨ck, cs, cn + 1, lm⟩, cn, 0)) := by show _ = _; rw [T1.out, if_pos hlm]
    have hlm' : (lm != cl) = true := by simpa using hlm
    clear T1 hlm
    have c1 := cell_of_arr E0 0
    have c2 := cell_of_arr E0 1
    have c3 := cell_of_arr E0 2
    simp at c1 c2 c3
    have k1 := cell_of_arr D1 0
    have k2 := cell_of_arr D1 1
    have k3 := cell_of_arr D1 2
    have k4 := cell_of_arr D1 3
    simp at k1 k2 k3 k4
    have HPUT := Lib.hid (put_any sz pa pn pc ea en ec ck lm m w4 HF4.out)
    have HN4 := Lib.hid N4
    have HD1 := Lib.hid D1
    have HD2 := Lib.hid D2
    have HD3 := Lib.hid D3
    clear E0 N4 D1 D2 D3
    generalize Fl.putP m ck lm = pv at *
    obtain ⟨mm, er6⟩ := pv
    dsimp only at T2
    go_wp2_with fail
    refine HPUT.out.mono ?_
    rintro e w5 ⟨sz6, pa6, pn6, pc6, ea6, en6, ec6, rfl, hF5, hw5⟩
    dsimp only at hF5 ⊢
    have HF5 := Lib.hid hF5
    have HP5 := Lib.hid (pure_trans HP4.out hw5)
    have N5 := Below.keep hw5 HN4.out (lt_of_block HN4.out)
    have D1 := Below.keep hw5 HD1.out (lt_of_block HD1.out)
    have D2 := Below.keep hw5 HD2.out (lt_of_block HD2.out)
    have D3 := Below.keep hw5 HD3.out (lt_of_block HD3.out)
    clear hF5 hw5 HPUT HN4 HD1 HD2 HD3 c1 c2 c3 k1 k2 k3 k4 HP4 HF4 REP4
    have x1 := cell_of_arr N5 0
    have x2 := cell_of_arr N5 1
    have x3 := cell_of_arr N5 2
    simp at x1 x2 x3
    have y1 := frozen_of_arr N5 0
    have y2 := frozen_of_arr N5 1
    have y3 := frozen_of_arr N5 2
    go_upto_region 7 with fail
    have N6 := three_cells' N5 (.int .i64 sz6) (.slice pa6 pn6 pc6) (.slice ea6 en6 ec6) _ rfl
    have E1 : (((w5.setCell ⟨w3.heap.size, 0, none⟩ (.int .i64 sz6)).setCell ⟨w3.heap.size, 1, none⟩ (.slice pa6 pn6 pc6)).setCell ⟨w3.heap.size, 2, none⟩ (.slice ea6 en6 ec6)).heap[w.heap.size + 1]? = some (.cells #[.int .i64 ck, .int .i64 cs, .int .i64 cn, .int .i64 cl] 49 (0, 0)) := set_other (set_other (set_other D1 (by dsimp only; omega)) (by dsimp only; omega)) (by dsimp only; omega)
    have E2 : (((w5.setCell ⟨w3.heap.size, 0, none⟩ (.int .i64 sz6)).setCell ⟨w3.heap.size, 1, none⟩ (.slice pa6 pn6 pc6)).setCell ⟨w3.heap.size, 2, none⟩ (.slice ea6 en6 ec6)).heap[w.heap.size + 1 + 1]? = some (.cells #[.int .i64 0, .slice none 0 0, .slice none 0 0] 32 (0, 0)) := set_other (set_other (set_other D2 (by dsimp only; omega)) (by dsimp only; omega)) (by dsimp only; omega)
    have E3 : (((w5.setCell ⟨w3.heap.size, 0, none⟩ (.int .i64 sz6)).setCell ⟨w3.heap.size, 1, none⟩ (.slice pa6 pn6 pc6)).setCell ⟨w3.heap.size, 2, none⟩ (.slice ea6 en6 ec6)).heap[w.heap.size + 1 + 1 + 1]? = some (.cells #[.int .i64 0, .int .i64 0, .int .i64 0, .int .i64 0] 49 (0, 0)) := set_other (set_other (set_other D3 (by dsimp only; omega)) (by dsimp only; omega)) (by dsimp only; omega)
    have P6 : Below w.heap.size w (((w5.setCell ⟨w3.heap.size, 0, none⟩ (.int .i64 sz6)).setCell ⟨w3.heap.size, 1, none⟩ (.slice pa6 pn6 pc6)).setCell ⟨w3.heap.size, 2, none⟩ (.slice ea6 en6 ec6)) := ((HP5.out.setCell (by dsimp only; omega) _).setCell (by dsimp only; omega) _).setCell (by dsimp only; omega) _
    have K6 : ∀ k, w4.heap.size ≤ k → (((w5.setCell ⟨w3.heap.size, 0, none⟩ (.int .i64 sz6)).setCell ⟨w3.heap.size, 1, none⟩ (.slice pa6 pn6 pc6)).setCell ⟨w3.heap.size, 2, none⟩ (.slice ea6 en6 ec6)).heap[k]? = w5.heap[k]? := fun k hk => by rw [Below.heap_setCell _ _ _ _ (by dsimp only; omega), Below.heap_setCell _ _ _ _ (by dsimp only; omega), Below.heap_setCell _ _ _ _ (by dsimp only; omega)]
    generalize (((w5.setCell ⟨w3.heap.size, 0, none⟩ (.int .i64 sz6)).setCell ⟨w3.heap.size, 1, none⟩ (.slice pa6 pn6 pc6)).setCell ⟨w3.heap.size, 2, none⟩ (.slice ea6 en6 ec6)) = w6 at *
    clear N5 D1 D2 D3 x1 x2 x3 y1 y2 y3
    have HK6 := Lib.hid K6
    have HP6 := Lib.hid P6
    have N5 := N6
    have D1 := E1
    have D2 := E2
    have D3 := E3
    clear N6 E1 E2 E3 P6 K6
    have x1 := cell_of_arr N5 0
    have x2 := cell_of_arr N5 1
    have x3 := cell_of_arr N5 2
    simp at x1 x2 x3
    have k1 := cell_of_arr D1 0
    have k2 := cell_of_arr D1 1
    have k3 := cell_of_arr D1 2
    have k4 := cell_of_arr D1 3
    simp at k1 k2 k3 k4
    have u1 := frozen_of_arr D1 0
    have u2 := frozen_of_arr D1 1
    have u3 := frozen_of_arr D1 2
    have u4 := frozen_of_arr D1 3
    have d1 := cell_of_arr D2 0
    have d2 := cell_of_arr D2 1
    have d3 := cell_of_arr D2 2
    simp at d1 d2 d3
    have f1 := frozen_of_arr D2 0
    have f2 := frozen_of_arr D2 1
    have f3 := frozen_of_arr D2 2
    have e1 := cell_of_arr D3 0
    have e2 := cell_of_arr D3 1
    have e3 := cell_of_arr D3 2
    have e4 := cell_of_arr D3 3
    simp at e1 e2 e3 e4
    have i1 := frozen_of_arr D3 0
    have i2 := frozen_of_arr D3 1
    have i3 := frozen_of_arr D3 2
    have i4 := frozen_of_arr D3 3
    have HN5 := Lib.hid N5
    have HD1 := Lib.hid D1
    have HD2 := Lib.hid D2
    have HD3 := Lib.hid D3
    clear N5 D1 D2 D3
    go_upto_region 8 with fail
    have G1 : ((w6.setCell ⟨w.heap.size + 1, 2, none⟩ (.int .i64 (cn + 1))).setCell ⟨w.heap.size + 1, 3, none⟩ (.int .i64 lm)).heap[w.heap.size + 1]? = some (.cells #[.int .i64 ck, .int .i64 cs, .int .i64 (cn + 1), .int .i64 lm] 49 (0, 0)) := by rw [set_arr (set_arr HD1.out 2 _) 3 _]; simp
    have G2 : ((w6.setCell ⟨w.heap.size + 1, 2, none⟩ (.int .i64 (cn + 1))).setCell ⟨w.heap.size + 1, 3, none⟩ (.int .i64 lm)).heap[w.heap.size + 1 + 1]? = some (.cells #[.int .i64 0, .slice none 0 0, .slice none 0 0] 32 (0, 0)) := set_other (set_other HD2.out (by dsimp only; omega)) (by dsimp only; omega)
    have G3 : ((w6.setCell ⟨w.heap.size + 1, 2, none⟩ (.int .i64 (cn + 1))).setCell ⟨w.heap.size + 1, 3, none⟩ (.int .i64 lm)).heap[w.heap.size + 1 + 1 + 1]? = some (.cells #[.int .i64 0, .int .i64 0, .int .i64 0, .int .i64 0] 49 (0, 0)) := set_other (set_other HD3.out (by dsimp only; omega)) (by dsimp only; omega)
    have G4 : ((w6.setCell ⟨w.heap.size + 1, 2, none⟩ (.int .i64 (cn + 1))).setCell ⟨w.heap.size + 1, 3, none⟩ (.int .i64 lm)).heap[w3.heap.size]? = some (.cells #[.int .i64 sz6, .slice pa6 pn6 pc6, .slice ea6 en6 ec6] 32 (0, 0)) := set_other (set_other HN5.out (by dsimp only; omega)) (by dsimp only; omega)
    have G5 : Below w.heap.size w ((w6.setCell ⟨w.heap.size + 1, 2, none⟩ (.int .i64 (cn + 1))).setCell ⟨w.heap.size + 1, 3, none⟩ (.int .i64 lm)) := (HP6.out.setCell (by simp) _).setCell (by simp) _
    have G6 : ∀ k, k ≠ w.heap.size + 1 → ((w6.setCell ⟨w.heap.size + 1, 2, none⟩ (.int .i64 (cn + 1))).setCell ⟨w.heap.size + 1, 3, none⟩ (.int .i64 lm)).heap[k]? = w6.heap[k]? := fun k hk => by rw [Below.heap_setCell _ _ _ _ (by simpa using hk), Below.heap_setCell _ _ _ _ (by simpa using hk)]
    generalize ((w6.setCell ⟨w.heap.size + 1, 2, none⟩ (.int .i64 (cn + 1))).setCell ⟨w.heap.size + 1, 3, none⟩ (.int .i64 lm)) = w8 at *
    clear x1 x2 x3 k1 k2 k3 k4 u1 u2 u3 u4 d1 d2 d3 f1 f2 f3 e1 e2 e3 e4 i1 i2 i3 i4 HD1 HD2 HD3 HN5
    have x1 := cell_of_arr G4 0
    have x2 := cell_of_arr G4 1
    have x3 := cell_of_arr G4 2
    simp at x1 x2 x3
    have k1 := cell_of_arr G1 0
    have k2 := cell_of_arr G1 1
    have k3 := cell_of_arr G1 2
    have k4 := cell_of_arr G1 3
    simp at k1 k2 k3 k4
    have d1 := cell_of_arr G2 0
    have d2 := cell_of_arr G2 1
    have d3 := cell_of_arr G2 2
    simp at d1 d2 d3
    have f1 := frozen_of_arr G2 0
    have f2 := frozen_of_arr G2 1
    have f3 := frozen_of_arr G2 2
    have e1 := cell_of_arr G3 0
    have e2 := cell_of_arr G3 1
    have e3 := cell_of_arr G3 2
    have e4 := cell_of_arr G3 3
    simp at e1 e2 e3 e4
    have i1 := frozen_of_arr G3 0
    have i2 := frozen_of_arr G3 1
    have i3 := frozen_of_arr G3 2
    have i4 := frozen_of_arr G3 3
    have HG2 := Lib.hid G2
    have HG3 := Lib.hid G3
    have HG5 := Lib.hid G5
    have HG6 := Lib.hid G6
    clear G1 G2 G3 G4 G5 G6
    go_region
    go_wp2_with fail
    have Q := put34 HG2.out HG3.out (by omega) (.int .i64 sz6) (.slice pa6 pn6 pc6) (.slice ea6 en6 ec6) (.int .i64 ck) (.int .i64 cs) (.int .i64 (cn + 1)) (.int .i64 lm) _ rfl
    generalize (((((((w8.setCell ⟨w.heap.size + 1 + 1, 0, none⟩ (.int .i64 sz6)).setCell ⟨w.heap.size + 1 + 1, 1, none⟩ (.slice pa6 pn6 pc6)).setCell ⟨w.heap.size + 1 + 1, 2, none⟩ (.slice ea6 en6 ec6)).setCell ⟨w.heap.size + 1 + 1 + 1, 0, none⟩ (.int .i64 ck)).setCell ⟨w.heap.size + 1 + 1 + 1, 1, none⟩ (.int .i64 cs)).setCell ⟨w.heap.size + 1 + 1 + 1, 2, none⟩ (.int .i64 (cn + 1))).setCell ⟨w.heap.size + 1 + 1 + 1, 3, none⟩ (.int .i64 lm)) = w7 at Q ⊢
    obtain ⟨S2, S3, S4, S5⟩ := Q
    have p1 := cell_of_arr S2 0
    have p2 := cell_of_arr S2 1
    have p3 := cell_of_arr S2 2
    simp at p1 p2 p3
    have q1 := cell_of_arr S3 0
    have q2 := cell_of_arr S3 1
    have q3 := cell_of_arr S3 2
    have q4 := cell_of_arr S3 3
    simp at q1 q2 q3 q4
    refine bodyPost_ret (v := .tuple #[.agg #[.int .i64 sz6, .slice pa6 pn6 pc6, .slice ea6 en6 ec6], .agg #[.int .i64 ck, .int .i64 cs, .int .i64 (cn + 1), .int .i64 lm], .int .i64 cn, .int .i64 0]) (by simp [results, Try.results30, go_sem, p1, p2, p3, q1, q2, q3, q4]) rfl ?_
    rw [T2.out]
    refine TPost.mk rfl (fun W hW => ?_) (below_drew (S5 _ _ (by omega) (by omega) HG5.out))
    refine HF5.out W (fun k hk => ?_)
    refine (hW k (by have := HP5.out.size; omega)).trans ?_
    refine Eq.trans (S4 k (by omega) (by omega)) ((HG6.out k (by omega)).trans (HK6.out k hk))
end Go.Proofs.Ytnfjfifdkmgbdaa
