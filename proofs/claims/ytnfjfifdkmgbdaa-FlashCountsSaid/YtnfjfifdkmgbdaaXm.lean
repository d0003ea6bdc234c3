/- The walk of the reference's states. -/
import Derived.Test.YtnfjfifdkmgbdaaXl

namespace Go.Proofs.Ytnfjfifdkmgbdaa
open Go.RowKit Go.Shelf
namespace Fl
/-- The memories ahead of the first step, behind it, and so on; none if a page is worn out. -/
def statesP (m : Mem) (key v : Int) : List Mem := if wornP m (stepsP m key v) then [] else (List.range ((stepsP m key v).length + 1)).map fun k => runs m ((stepsP m key v).take k)
end Fl
/-- What a round of writing adds. -/
def addB (M0 : Fl.Mem) (q : Nat) (P0 b : List UInt8) : Nat → List Fl.Mem
  | 0 => []
  | j + 1 => addB M0 q P0 b j ++ [Fl.setPage M0 q (P0 ++ b.take (j + 1))]
theorem addB_len (M0 : Fl.Mem) (q : Nat) (P0 b : List UInt8) (j : Nat) : (addB M0 q P0 b j).length = j := by
  induction j with
  | zero => rfl
  | succ j ih => simp [addB, ih]
theorem addB_range (M0 : Fl.Mem) (q : Nat) (P0 b : List UInt8) (j : Nat) : addB M0 q P0 b j = (List.range j).map fun i => Fl.setPage M0 q (P0 ++ b.take (i + 1)) := by
  induction j with
  | zero => rfl
  | succ j ih => rw [addB, ih, List.range_succ, List.map_append]; rfl
theorem Bs.sub {w : World} {b o n : Nat} {r : List UInt8} (h : Bs w (some ⟨b, o, none⟩) n r) (j : Nat) (hj : j < n) : Bs w (some ⟨b, o + j, none⟩) 1 [r.getD j 0] := by
  refine ⟨rfl, by omega, fun i hi => ?_⟩
  obtain ⟨b', o', e1, e2⟩ := h.2.2 j hj
  cases e1
  obtain rfl : i = 0 := by omega
  exact ⟨b, o + j, rfl, by rw [Nat.add_zero, e2]; rfl⟩
theorem bs_one {w : World} {g : Nat} {x : UInt8} (h : w.heap[g]? = some (.cells #[.int .u8 (x.toNat : Int)] 5 (0, 0))) : Bs w (some ⟨g, 0, none⟩) 1 [x] := by
  refine ⟨rfl, by omega, fun i hi => ⟨g, 0, rfl, ?_⟩⟩
  obtain rfl : i = 0 := by omega
  rw [Nat.zero_add, cell_of_arr h]; rfl
theorem take_snoc_b (r : List UInt8) (j : Nat) (h : j < r.length) : r.take (j + 1) = r.take j ++ [r.getD j 0] := by
  rw [List.take_succ_eq_append_getElem h]; simp [h]
/-- Bytes that do not lie in bad blocks. -/
def BAway (bad : Nat → Prop) (W : World) (a : Option Addr) (n : Nat) (r : List UInt8) : Prop := ∀ W' : World, (∀ k, ¬ bad k → k < W.heap.size → W'.heap[k]? = W.heap[k]?) → Bs W' a n r
theorem BAway.on {bad bad' : Nat → Prop} {W W1 : World} {a : Option Addr} {n : Nat} {r : List UInt8} (h : BAway bad W a n r) (hs : W.heap.size ≤ W1.heap.size) (hk : ∀ k, ¬ bad k → k < W.heap.size → W1.heap[k]? = W.heap[k]?) (hb : ∀ k, bad' k → bad k ∨ W.heap.size ≤ k) : BAway bad' W1 a n r :=
  fun W' hW' => h W' fun k h1 h2 => (hW' k (fun h => by rcases hb k h with h | h; exact h1 h; omega) (by omega)).trans (hk k h1 h2)
theorem BAway.of_own {bad : Nat → Prop} {W : World} {base : Nat} {a : Option Addr} {n c : Nat} {r : List UInt8} (h : OwnB W base (.slice a n c) r) (hb : ∀ k, bad k → k < base ∨ W.heap.size ≤ k) : BAway bad W a n r :=
  fun W' hW' => OwnB.bs' (own_keep h (fun g hg => hW' g (fun hbad => by have := own_lt h hg; rcases hb g hbad with h1 | h1 <;> omega) (own_lt h hg).1))
theorem BAway.of_own' {bad : Nat → Prop} {W : World} {base : Nat} {a : Option Addr} {n c : Nat} {r : List UInt8} (h : OwnB W base (.slice a n c) r) (hb : ∀ g, (Value.slice a n c).ownBlock = some g → ¬ bad g) : BAway bad W a n r :=
  fun W' hW' => OwnB.bs' (own_keep h (fun g hg => hW' g (hb g hg) (own_lt h hg).1))
/-- A memory in rows is a memory. -/
theorem rows_rep {W : World} {base : Nat} {m : Fl.Mem} {pa ea : Option Addr} {pc ec : Nat} {vs : List Value} (hp : OwnP W base (.slice pa m.pages.length pc) vs m.pages) (he : W.ownsRow base 3 1 (.slice ea m.erased.length ec) m.erased.length (m.erased.map (Value.int .i64))) (hm : MB m) : FRep W m.size pa m.pages.length ea m.erased.length m := by
  have hpg := hm.pages
  have her := hm.erased
  have hsz := hm.size
  refine ⟨rfl, ⟨rfl, by omega, fun i hi => ?_⟩, ⟨rfl, by omega, fun i hi => ?_⟩, by omega⟩
  · have hlv := hp.len
    have hrow := hp.row
    rw [hlv] at hrow
    obtain ⟨g, cap, hg, _, _⟩ := World.ownsRow.form hrow (by omega)
    simp only [Value.slice.injEq] at hg
    obtain ⟨rfl, _, rfl⟩ := hg
    have hc := World.ownsRow.cellAt hrow i (by omega)
    have hb := hp.each i (by omega)
    obtain ⟨a', cap', e, hbs⟩ := hb.bs
    refine ⟨g, 0, a', _, cap', rfl, ?_, hbs⟩
    rw [Nat.zero_add, hc]
    rw [List.getD_eq_getElem?_getD, List.getElem?_eq_getElem (by omega)] at e
    rw [List.getElem?_eq_getElem (by omega)]
    simpa using e
  · obtain ⟨g, cap, hg, _, _⟩ := World.ownsRow.form he (by omega)
    simp only [Value.slice.injEq] at hg
    obtain ⟨rfl, _, rfl⟩ := hg
    have hc := World.ownsRow.cellAt he i (by omega)
    have := hm.ers i
    refine ⟨g, 0, rfl, ?_, by omega, by omega⟩
    rw [Nat.zero_add, hc]
    simp [List.getElem?_eq_getElem hi]
theorem OwnF.away {W : World} {base X : Nat} {m : Fl.Mem} {g pc : Nat} {ea : Option Addr} {ec : Nat} {vs : List Value} {bad : Nat → Prop} (h : OwnF W base X m (some ⟨g, 0, none⟩) pc ea ec vs) (hm : MB m) (hb : ∀ k, bad k → k = X ∨ k < base) : FAway bad W m.size (some ⟨g, 0, none⟩) m.pages.length ea m.erased.length m := fun W' hW' => by
  have nb : ∀ k, FBlk (some ⟨g, 0, none⟩) ea vs k → W'.heap[k]? = W.heap[k]? := fun k o => by
    have h1 := h.blk o
    exact hW' k (fun hbad => by rcases hb k hbad with h2 | h2 <;> omega) h1.2.1
  exact rows_rep (h.pages.keep (fun k hk => nb k (by cases hk; exact .inl ⟨_, rfl, rfl⟩)) (fun i k hi hk => nb k (.inr (.inr ⟨i, hi, hk⟩)))) (own_keep h.erased (fun k hk => nb k (by cases ea with | none => cases hk | some a => cases hk; exact .inr (.inl ⟨_, rfl, rfl⟩)))) hm
theorem MB.set {m : Fl.Mem} {q : Nat} {p : List UInt8} (hm : MB m) (hp : p.length ≤ 900) : MB (Fl.setPage m q p) :=
  ⟨by simpa [Fl.setPage] using hm.pages, hm.erased, hm.size, fun i => by
    rcases Fl.getD_set_le m.pages q i p [] with h1 | h1
    · simp only [Fl.setPage]; rw [h1]; exact hp
    · simp only [Fl.setPage]; rw [h1]; exact hm.lens i, hm.ers⟩
theorem MB.valid {m : Fl.Mem} (h : Fl.validP m = true) : MB m := by
  have hb := Fl.val_bounds h
  have V := (Fl.val_iff m).1 h
  have hl := V.lens
  have tb := (vfacts h).tb
  refine ⟨by omega, by omega, by omega, fun i => ?_, fun i => ⟨tb.lo i, by have := tb.hi i; omega⟩⟩
  by_cases hi : i < m.pages.length
  · have := (V.rows i hi).1; omega
  · simp [List.getElem?_eq_none (show m.pages.length ≤ i by omega)]
theorem badOf_push {X n : Nat} {v v' : Value} (h : v'.ownBlock = v.ownBlock ∨ v'.ownBlock = some n) : ∀ k, badOf X v' k → badOf X v k ∨ n ≤ k := fun k hk => by
  rcases hk with rfl | hk
  · exact .inl (.inl rfl)
  · rcases h with h | h
    · exact .inl (.inr (h ▸ hk))
    · rw [h] at hk; cases hk; exact .inr (Nat.le_refl _)
theorem states_stay_eq {m : Fl.Mem} {key v : Int} (hv : Fl.validP m = true) (hk : 0 ≤ key ∧ key ≤ 15) (hvv : 0 ≤ v ∧ v ≤ 1099511627775) (hst : Fl.stays m = true) : Fl.statesP m key v = m :: addB m (Fl.newest m).1.toNat (Fl.padTo (Fl.cur m) (Fl.slotOf (Fl.cur m) * 8)) (Fl.full key v) 8 := by
  have hlen : (Fl.stepsP m key v).length = 8 := by rw [Fl.stepsP_stay hk hvv hst, Fl.writes_length, Fl.full_length]
  have hw : wornP m (Fl.stepsP m key v) = false := by
    unfold wornP
    rw [List.any_eq_false]
    intro s hs
    rw [Fl.stepsP_stay hk hvv hst] at hs
    have : ∀ (l : List UInt8) (i : Nat), s ∈ Fl.writesFrom (Fl.newest m).1 ((Fl.slotOf (Fl.cur m) * 8 : Nat) : Int) l i → s.erase = false ∧ s.page = (Fl.newest m).1 := by
      intro l
      induction l with
      | nil => intro i h; simp [Fl.writesFrom] at h
      | cons x l ih =>
        intro i h
        simp only [Fl.writesFrom, List.mem_cons] at h
        rcases h with rfl | h
        · exact ⟨rfl, rfl⟩
        · exact ih _ h
    obtain ⟨h1, h2⟩ := this _ _ hs
    simp [wornBy, h1, h2]
  unfold Fl.statesP
  rw [hw, hlen, if_neg (by simp), addB_range, List.range_succ_eq_map]
  simp only [List.map_cons, List.map_map, List.cons.injEq]
  refine ⟨rfl, List.map_congr_left fun i _ => ?_⟩
  simp only [Function.comp]
  rw [Fl.stay_runs hv hk hvv hst]
  rfl
/-- What states leaves. -/
def SPost (ms : List Fl.Mem) (w : World) (e : Ending) (w' : World) : Prop := ∃ (base X : Nat) (v : Value) (es : List Elem), e = .returned v ∧ OutR w' base X v es ms ∧ Below w.heap.size w w'
set_option maxRecDepth 100000 in
set_option maxHeartbeats 3200000 in
theorem states_stay (sz : Int) (pa : Option Addr) (pn pc : Nat) (ea : Option Addr) (en ec : Nat) (key v : Int) (m : Fl.Mem) (w : World) (h : FRep w sz pa pn ea en m) (hv : Fl.validP m = true) (hk : 0 ≤ key ∧ key ≤ 15) (hvv : 0 ≤ v ∧ v ≤ 1099511627775) (hst : Fl.stays m = true) :
    Calls Try.prog 59 #[.agg #[.int .i64 sz, .slice pa pn pc, .slice ea en ec], .int .i64 key, .int .i64 v] w (SPost (Fl.statesP m key v) w) := by
  have hb := Fl.val_bounds hv
  have hnx := Fl.next_bd hv
  have V := (Fl.val_iff m).1 hv
  have HF := Lib.hid h
  have HSZ := Lib.hid h.size
  have hpl := h.pages.1
  have hel := h.erased.1
  have hml := V.lens
  obtain ⟨q, hq⟩ : ∃ q : Nat, (Fl.newest m).1 = q := ⟨(Fl.newest m).1.toNat, by omega⟩
  obtain ⟨gg, hgg⟩ : ∃ gg : Int, (Fl.newest m).2 = gg := ⟨_, rfl⟩
  have hqn : q < pn := by omega
  obtain ⟨b, o, c, len, cap, rfl, e2, e3⟩ := h.pages.2.2 q hqn
  have hcur : m.pages.getD q [] = Fl.cur m := by unfold Fl.cur Fl.page; rw [hq]; simp
  rw [hcur] at e3
  have hlen : len ≤ 256 := by
    have h1 := (V.rows q (by omega)).1
    rw [hcur, e3.1] at h1
    omega
  have hslot : ((len : Int) + 7) / 8 = (Fl.slotOf (Fl.cur m) : Nat) := by
    unfold Fl.slotOf; rw [e3.1]; omega
  have P1 := pure_alloc w (.cells #[.int .i64 sz, .slice (some ⟨b, o, none⟩) pn pc, .slice ea en ec] 32)
  have N1 := alloc_new w (.cells #[.int .i64 sz, .slice (some ⟨b, o, none⟩) pn pc, .slice ea en ec] 32)
  go_enter Try.func59, Try.ntmps59
  go_upto_region 1 with fail
  generalize w.alloc (.cells #[.int .i64 sz, .slice (some ⟨b, o, none⟩) pn pc, .slice ea en ec] 32) = w1 at *
  have c0 := cell_of_arr N1 0
  have c1 := cell_of_arr N1 1
  have c2 := cell_of_arr N1 2
  simp at c0 c1 c2
  have HNW := Lib.hid (newestR_any sz (some ⟨b, o, none⟩) pn pc ea en ec m w1 (h.below P1) (by have := h.size; omega) (by have := h.size; omega))
  rw [hq, hgg] at HNW
  have HP1 := Lib.hid P1
  have HN1 := Lib.hid N1
  have HE2 := Lib.hid e2
  have HE3 := Lib.hid e3
  have HSL := Lib.hid hslot
  have HQ := Lib.hid hq
  have HGG := Lib.hid hgg
  have HV := Lib.hid hv
  have HCUR := Lib.hid hcur
  have hbs := hb
  clear h P1 N1 e2 e3 hslot hq hgg V hcur hv hb
  go_wp2_with fail
  refine HNW.out.mono ?_
  rintro e w2 ⟨rfl, hw2⟩
  have HP2 := Lib.hid (pure_trans HP1.out hw2)
  have N2 := Below.keep hw2 HN1.out (lt_of_block HN1.out)
  clear hw2 HNW HP1 HN1 c0 c1 c2
  have PA := pure_alloc w2 (.cells #[.int .i64 sz, .slice (some ⟨b, o, none⟩) pn pc, .slice ea en ec] 32)
  have NA := alloc_new w2 (.cells #[.int .i64 sz, .slice (some ⟨b, o, none⟩) pn pc, .slice ea en ec] 32)
  have N3 := Below.keep PA N2 (lt_of_block N2)
  have HP3 := Lib.hid (pure_trans HP2.out PA)
  have cq3 := (HP3.out.cell (p := ⟨b, o + q, none⟩) (lt_of_cell HE2.out)).trans HE2.out
  have c0' := cell_of_arr N2 0
  have c1' := cell_of_arr N2 1
  have c2' := cell_of_arr N2 2
  simp at c0' c1' c2'
  go_upto_region 3 with fail
  generalize w2.alloc (.cells #[.int .i64 sz, .slice (some ⟨b, o, none⟩) pn pc, .slice ea en ec] 32) = w3 at *
  -- STAY
  have c0 := cell_of_arr N3 0
  have c1 := cell_of_arr N3 1
  have c2 := cell_of_arr N3 2
  simp at c0 c1 c2
  have HN3 := Lib.hid N3
  have HNA := Lib.hid NA
  have hbx : w.heap.size < w2.heap.size := lt_of_block N2
  have hbx3 := lt_of_block NA
  have HREC := Lib.hid (recordR_any key v w3 (by omega) (by omega) (by omega) (by omega))
  have HFR := Lib.hid (Fl.record_key hk hvv)
  clear N3 NA N2 PA c0' c1' c2' HP2
  have hlb : (0 : Int) ≤ len := by omega
  go_wp2_with fail
  refine HREC.out.mono ?_
  rintro e w4 ⟨rv, rfl, hrv, hw4⟩
  rw [HFR.out] at hrv
  obtain ⟨ra, rc, hra, _⟩ := hrv.bs
  rw [Fl.full_length] at hra
  subst hra
  have HP4 := Lib.hid (pure_trans HP3.out hw4)
  have N4 := Below.keep hw4 HN3.out (lt_of_block HN3.out)
  have A4 := Below.keep hw4 HNA.out hbx3
  have hs34 := hw4.size
  have HRV := Lib.hid hrv
  have hrc : 8 ≤ rc := by
    rcases hrv.2 with ⟨h1, h2⟩ | ⟨_, _, _, h1, _, _, h2, _⟩
    · simp [Fl.full_length] at h2
    · simp [Fl.full_length] at h1 h2; omega
  clear hw4 HREC c0 c1 c2 cq3 HN3 HNA hrv
  have c0 := cell_of_arr N4 0
  have c1 := cell_of_arr N4 1
  have c2 := cell_of_arr N4 2
  simp at c0 c1 c2
  have HN4 := Lib.hid N4
  have HA4 := Lib.hid A4
  have cq4 := (HP4.out.cell (p := ⟨b, o + q, none⟩) (lt_of_cell HE2.out)).trans HE2.out
  clear N4 A4
  obtain ⟨n8, hn8⟩ : ∃ n8 : Nat, Fl.slotOf (Fl.cur m) = n8 := ⟨_, rfl⟩
  have hn8b : len ≤ n8 * 8 ∧ n8 * 8 < len + 8 ∧ ((n8 * 8 : Nat) : Int) < sz := by
    have h1 := HE3.out.1
    have h2 := HSZ.out
    unfold Fl.stays at hst
    rw [hn8] at hst
    simp only [decide_eq_true_eq] at hst
    unfold Fl.slotOf at hn8
    rw [h1] at hn8
    omega
  obtain ⟨hn1, hn2, hn3⟩ := hn8b
  have hsl8 : ((len : Int) + 7) / 8 = (n8 : Int) := by rw [HSL.out, hn8]
  have HN8 := Lib.hid hn8
  have HST := Lib.hid hst
  clear hn8 hst
  have hst8 : 8 * (n8 : Int) < sz := by omega
  have hc1000 : ∀ i, i < pn → (m.pages.getD i []).length ≤ 1000 := fun i hi => by
    have h1 := ((Fl.val_iff m).1 HV.out).rows i (by omega)
    omega
  have HCP := Lib.hid (copyR_any sz (some ⟨b, o, none⟩) pn pc ea en ec m w4 (HF.out.below HP4.out) (by omega) (by omega) hc1000)
  have HC1 := Lib.hid hc1000
  clear hc1000
  go_wp2_with fail
  refine HCP.out.mono ?_
  rintro e w5 ⟨pv, ev, vs, rfl, hpv, hev, hw5⟩
  have hrow := hpv.row
  rw [hpv.len] at hrow
  obtain ⟨g, pc5, rfl, hg1, hg2⟩ := World.ownsRow.form hrow (by omega)
  obtain ⟨ea5, ec5, rfl⟩ := own_form hev
  have PX := pure_alloc w5 (.cells #[.int .i64 sz, .slice (some ⟨g, 0, none⟩) m.pages.length pc5, .slice ea5 m.erased.length ec5] 32)
  have NX := alloc_new w5 (.cells #[.int .i64 sz, .slice (some ⟨g, 0, none⟩) m.pages.length pc5, .slice ea5 m.erased.length ec5] 32)
  have OF : OwnF (w5.alloc (.cells #[.int .i64 sz, .slice (some ⟨g, 0, none⟩) m.pages.length pc5, .slice ea5 m.erased.length ec5] 32)) w4.heap.size w5.heap.size m (some ⟨g, 0, none⟩) pc5 ea5 ec5 vs := ⟨by rw [NX, HSZ.out], hpv.pure PX, own_pure hev PX⟩
  have HB6 := Lib.hid (pure_trans hw5 PX)
  have hs45 := hw5.size
  clear hw5 hpv hev hrow HCP PX NX c0 c1 c2 cq4
  have HPL := Lib.hid hpl
  have HEL := Lib.hid hel
  have HML := Lib.hid hml
  have hqm : q < m.pages.length := by omega
  have hpm8 : m.pages.length ≤ 8 := by omega
  clear hpl hel hml hbs hnx
  go_wp2_with fail
  generalize w5.alloc (.cells #[.int .i64 sz, .slice (some ⟨g, 0, none⟩) m.pages.length pc5, .slice ea5 m.erased.length ec5] 32) = w6 at *
  have HOF := Lib.hid OF
  clear OF
  have OF0 : Hid (OwnF w6 w4.heap.size w5.heap.size (Fl.setPage m q (Fl.cur m ++ List.replicate 0 255)) (some ⟨g, 0, none⟩) pc5 ea5 ec5 vs) := by
    have := HOF.out
    have e1 : Fl.setPage m q (Fl.cur m ++ List.replicate 0 255) = m := by rw [← HCUR.out]; simpa using setPage_self m q hqm
    show OwnF _ _ _ _ _ _ _ _ _
    rw [e1]; exact this
  generalize hP : Fl.cur m = P at *
  have HPP := Lib.hid hP
  have hPl : P.length = len := HE3.out.1
  clear hP
  go_loopg [54] (n8 * 8 - len) (fun gk _ wr => ∃ (j : Nat) (vs' : List Value), gk = n8 * 8 - (len + j) ∧ len + j ≤ n8 * 8 ∧ OwnF wr w4.heap.size w5.heap.size (Fl.setPage m q (P ++ List.replicate j 255)) (some ⟨g, 0, none⟩) pc5 ea5 ec5 vs' ∧ Below w4.heap.size w4 wr)
  case atStart => exact ⟨0, vs, rfl, by omega, OF0.out, HB6.out⟩
  case round =>
    obtain ⟨j, vs', rfl, hj, hO, hB⟩ := hrel
    clear OF0 HOF HB6
    obtain ⟨g', a, c', hgg', hv, x1, x2, xq, xf, hgX, hgl⟩ := hO.reads (i := q) (by rw [setPage_len]; exact hqm)
    simp only [Option.some.injEq, Addr.mk.injEq, and_true] at hgg'
    subst hgg'
    rw [setPage_get m q _ hqm] at hv xq
    rw [setPage_len] at x1
    have hL : (P ++ List.replicate j 255).length = len + j := by simp [hPl]
    rw [hL] at hv xq
    have hown := hO.pages.each q (by have := hO.pages.len; rw [setPage_len] at this; omega)
    rw [hv, setPage_get m q _ hqm] at hown
    have hoX : (Value.slice a (len + j) c').ownBlock ≠ some w5.heap.size := fun e => by
      obtain ⟨_, _, cur, hc⟩ := own_lt hown e
      exact kind_ne hc hO.box (by decide) rfl
    have hoG : (Value.slice a (len + j) c').ownBlock ≠ some g := fun e => by
      obtain ⟨_, _, cur, hc⟩ := own_lt hown e
      obtain ⟨_, _, cur', hc'⟩ := own_lt hO.pages.row (g := g) rfl
      exact kind_ne hc hc' (by decide) rfl
    have hXl := lt_of_block hO.box
    have HO := Lib.hid hO
    have HV1 := Lib.hid hv
    have HB := Lib.hid hB
    have HOWN := Lib.hid hown
    clear hO hv hB hown hL x2
    have q0 : (0 : Int) ≤ (q : Int) := by omega
    have q1 : (q : Int) < (m.pages.length : Int) := by omega
    by_cases hlt : len + j < n8 * 8
    · have hlt8 : (len : Int) + (j : Int) < 8 * (n8 : Int) := by omega
      go_upto_region 8 with fail
      refine wp_region_held_drew (S := (fun W => W.cell? ⟨w5.heap.size, 1, none⟩ = some (.slice (some ⟨g, 0, none⟩) m.pages.length pc5))) (by kernel_rfl) x1 (fun hHeld => ?_)
      refine wpAnyH_take (i := 0) (v := ?_) rfl (by kernel_rfl) (by kernel_rfl) (by kernel_rfl) (fun _ _ _ h => h) (Or.inl ⟨by rfl, ?_⟩) hHeld ?_
      rotate_left
      · (intro W hSw; (try dsimp only at hSw); go_simp; try with_reducible rfl)
      try simp only [Act.put, List.setIfInBounds_toArray, List.set_cons_zero, List.set_cons_succ, List.getElem_toArray, List.getElem_cons_succ, List.getElem_cons_zero]
      refine wpAnyH_take (i := 1) (v := ?_) rfl (by kernel_rfl) (by kernel_rfl) (by kernel_rfl) (fun _ _ _ h => h) (Or.inl ⟨by rfl, ?_⟩) hHeld ?_
      rotate_left
      · (intro W hSw; (try dsimp only at hSw); go_simp; try with_reducible rfl)
      try simp only [Act.put, List.setIfInBounds_toArray, List.set_cons_zero, List.set_cons_succ, List.getElem_toArray, List.getElem_cons_succ, List.getElem_cons_zero]
      refine wpAnyH_take (i := 2) (v := ?_) rfl (by kernel_rfl) (by kernel_rfl) (by kernel_rfl) (fun _ _ _ h => h) (Or.inl ⟨by rfl, ?_⟩) hHeld ?_
      rotate_left
      · (intro W hSw; (try dsimp only at hSw); go_simp; try with_reducible rfl)
      try simp only [Act.put, List.setIfInBounds_toArray, List.set_cons_zero, List.set_cons_succ, List.getElem_toArray, List.getElem_cons_succ, List.getElem_cons_zero]
      refine wpAnyH_take (i := 3) (v := ?_) rfl (by kernel_rfl) (by kernel_rfl) (by kernel_rfl) (fun _ _ _ h => h) (Or.inl ⟨by rfl, ?_⟩) hHeld ?_
      rotate_left
      · (intro W hSw; (try dsimp only at hSw); go_simp; try with_reducible rfl)
      try simp only [Act.put, List.setIfInBounds_toArray, List.set_cons_zero, List.set_cons_succ, List.getElem_toArray, List.getElem_cons_succ, List.getElem_cons_zero]
      refine wpAnyH_take (i := 4) (v := ?_) rfl (by kernel_rfl) (by kernel_rfl) (by kernel_rfl) (fun _ _ _ h => h) (Or.inl ⟨by rfl, ?_⟩) hHeld ?_
      rotate_left
      · (intro W hSw; (try dsimp only at hSw); go_simp; try with_reducible rfl)
      try simp only [Act.put, List.setIfInBounds_toArray, List.set_cons_zero, List.set_cons_succ, List.getElem_toArray, List.getElem_cons_succ, List.getElem_cons_zero]
      refine wpAnyH_take (i := 5) (v := ?_) rfl (by kernel_rfl) (by kernel_rfl) (by kernel_rfl) (fun _ _ _ h => h) (Or.inl ⟨by rfl, ?_⟩) hHeld ?_
      rotate_left
      · (intro W hSw; (try dsimp only at hSw); go_simp; try with_reducible rfl)
      try simp only [Act.put, List.setIfInBounds_toArray, List.set_cons_zero, List.set_cons_succ, List.getElem_toArray, List.getElem_cons_succ, List.getElem_cons_zero]
      refine wpAnyH_take (i := 6) (v := ?_) rfl (by kernel_rfl) (by kernel_rfl) (by kernel_rfl) (fun _ _ _ h => h) (Or.inl ⟨by rfl, ?_⟩) hHeld ?_
      rotate_left
      · (intro W hSw; (try dsimp only at hSw); go_simp; try with_reducible rfl)
      try simp only [Act.put, List.setIfInBounds_toArray, List.set_cons_zero, List.set_cons_succ, List.getElem_toArray, List.getElem_cons_succ, List.getElem_cons_zero]
      refine wpAnyH_ready (rs := [7, 8]) (by kernel_rfl) (by simp) ?_
      refine AllReadyH.cons rfl (fun K1 hK1 => ?_) ?_
      · go_simp
        refine hK1.out _ _ hHeld (fun hHeld => ?_)
        clear hK1
        try simp only [Act.put, List.setIfInBounds_toArray, List.set_cons_zero, List.set_cons_succ, List.getElem_toArray, List.getElem_cons_succ, List.getElem_cons_zero]
        refine wpAnyH_ready (rs := [8]) (by kernel_rfl) (by simp) ?_
        refine AllReadyH.cons rfl (fun K1 hK1 => ?_) AllReadyH.nil
        go_simp
        refine hK1.out _ _ (((pure_alloc wr (.cells #[.int .u8 255] 5)).drew).cell (p := ⟨w5.heap.size, 1, none⟩) hXl |>.trans x1) (fun hHeld2 => ?_)
        clear hK1
        try simp only [Act.put, List.setIfInBounds_toArray, List.set_cons_zero, List.set_cons_succ, List.getElem_toArray, List.getElem_cons_succ, List.getElem_cons_zero]
        have NB : (wr.alloc (.cells #[.int .u8 255] 5)).drew.heap[wr.heap.size]? = some (.cells #[.int .u8 255] 5 (0, 0)) := alloc_new wr _
        have PB : Below wr.heap.size wr (wr.alloc (.cells #[.int .u8 255] 5)).drew := (pure_alloc wr _).drew
        generalize (wr.alloc (.cells #[.int .u8 255] 5)).drew = wA at *
        obtain ⟨a4, c4, w7, hrun, hown7, hgr, hob⟩ := app_bytes wA w4.heap.size (.slice a (len + j) c') _ (own_pure HOWN.out PB) (some ⟨wr.heap.size, 0, none⟩) 1 1 [255] (bs_one NB) (by simp [hPl]; omega) (Nat.le_trans HB.out.size PB.size)
        have hL : (P ++ List.replicate j 255).length = len + j := by simp [hPl]
        rw [hL] at hrun hown7 hob
        have y1 : w7.cell? ⟨w5.heap.size, 1, none⟩ = some (.slice (some ⟨g, 0, none⟩) m.pages.length pc5) := by
          rw [← x1]; unfold World.cell?; rw [hgr.block w5.heap.size (Nat.lt_of_lt_of_le hXl PB.size) (fun e => hoX e.symm), PB.block _ hXl]
        have yg : w7.heap[g]? = wr.heap[g]? := (hgr.block g (Nat.lt_of_lt_of_le hgl PB.size) (fun e => hoG e.symm)).trans (PB.block _ hgl)
        obtain ⟨_, _, cur, hgc⟩ := own_lt HO.out.pages.row (g := g) rfl
        have ygf := frozen_of_arr (yg.trans hgc) q
        have ygc : w7.cell? ⟨g, q, none⟩ = some (.slice a (len + j) c') := by rw [← xq]; unfold World.cell?; rw [yg]
        have hup := HO.out.push (by rw [setPage_len]; exact hqm) HV1.out PB hown7 hgr hob
        have PG : Below w4.heap.size w4 w7 := below_grown (HB.out.trans (PB.mono HB.out.size)) (Nat.le_trans HB.out.size PB.size) (own_pure HOWN.out PB) hgr
        have HUP := Lib.hid hup.1
        have HPG := Lib.hid PG
        clear hup PG hob hown7 hgc yg
        refine wpAnyH_ready (rs := [9]) (by kernel_rfl) (by simp) ?_
        refine AllReadyH.cons rfl (fun K1 hK1 => ?_) AllReadyH.nil
        rw [if_pos (by rfl)]
        refine wp_app _ _ 22 rfl rfl rfl hrun ?_
        refine hK1.out _ _ y1 (fun hHeld3 => ?_)
        clear hK1
        try simp only [Act.put, List.setIfInBounds_toArray, List.set_cons_zero, List.set_cons_succ, List.getElem_toArray, List.getElem_cons_succ, List.getElem_cons_zero]
        clear hrun hgr
        refine wpAnyH_take (i := 10) (v := ?_) rfl (by kernel_rfl) (by kernel_rfl) (by kernel_rfl) (fun _ _ _ h => h) (Or.inl ⟨by rfl, ?_⟩) hHeld3 ?_
        rotate_left
        · (intro W hSw; (try dsimp only at hSw); go_simp; try with_reducible rfl)
        try simp only [Act.put, List.setIfInBounds_toArray, List.set_cons_zero, List.set_cons_succ, List.getElem_toArray, List.getElem_cons_succ, List.getElem_cons_zero]
        refine wpAnyH_ready (rs := [11]) (by kernel_rfl) (by simp) ?_
        refine AllReadyH.cons rfl (fun K1 hK1 => ?_) AllReadyH.nil
        go_simp
        refine hK1.out _ _ (by simpa [World.cell?_setCell_far, hgX] using y1) (fun hHeld4 => ?_)
        clear hK1
        try simp only [Act.put, List.setIfInBounds_toArray, List.set_cons_zero, List.set_cons_succ, List.getElem_toArray, List.getElem_cons_succ, List.getElem_cons_zero]
        refine wpAnyH_done (by kernel_rfl) ?_ _
        try simp only [Act.put, List.setIfInBounds_toArray, List.set_cons_zero, List.set_cons_succ, List.getElem_toArray, List.getElem_cons_succ, List.getElem_cons_zero]
        go_wp2_with fail
        go_roundg (n8 * 8 - (len + (j + 1)))
        case measure => omega
        case rel =>
          have U := HUP.out
          rw [setPage_set, show (P ++ List.replicate j 255) ++ [255] = P ++ List.replicate (j + 1) 255 by rw [rep_snoc, List.append_assoc]] at U
          exact ⟨j + 1, _, rfl, by omega, U, HPG.out.setCell (by dsimp only; omega) _⟩
      refine AllReadyH.cons rfl (fun K1 hK1 => ?_) AllReadyH.nil
      · go_simp
        refine hK1.out _ _ (((pure_alloc wr (.cells #[.int .u8 255] 5)).drew).cell (p := ⟨w5.heap.size, 1, none⟩) hXl |>.trans x1) (fun hHeld2 => ?_)
        clear hK1
        try simp only [Act.put, List.setIfInBounds_toArray, List.set_cons_zero, List.set_cons_succ, List.getElem_toArray, List.getElem_cons_succ, List.getElem_cons_zero]
        have NB : (wr.alloc (.cells #[.int .u8 255] 5)).drew.heap[wr.heap.size]? = some (.cells #[.int .u8 255] 5 (0, 0)) := alloc_new wr _
        have PB : Below wr.heap.size wr (wr.alloc (.cells #[.int .u8 255] 5)).drew := (pure_alloc wr _).drew
        generalize (wr.alloc (.cells #[.int .u8 255] 5)).drew = wA at *
        have xq2 := (PB.cell (p := ⟨g, q, none⟩) hgl).trans xq
        refine wpAnyH_ready (rs := [7]) (by kernel_rfl) (by simp) ?_
        refine AllReadyH.cons rfl (fun K1 hK1 => ?_) AllReadyH.nil
        go_simp
        refine hK1.out _ _ hHeld2 (fun hHeld3 => ?_)
        clear hK1
        try simp only [Act.put, List.setIfInBounds_toArray, List.set_cons_zero, List.set_cons_succ, List.getElem_toArray, List.getElem_cons_succ, List.getElem_cons_zero]
        obtain ⟨a4, c4, w7, hrun, hown7, hgr, hob⟩ := app_bytes wA w4.heap.size (.slice a (len + j) c') _ (own_pure HOWN.out PB) (some ⟨wr.heap.size, 0, none⟩) 1 1 [255] (bs_one NB) (by simp [hPl]; omega) (Nat.le_trans HB.out.size PB.size)
        have hL : (P ++ List.replicate j 255).length = len + j := by simp [hPl]
        rw [hL] at hrun hown7 hob
        have y1 : w7.cell? ⟨w5.heap.size, 1, none⟩ = some (.slice (some ⟨g, 0, none⟩) m.pages.length pc5) := by
          rw [← x1]; unfold World.cell?; rw [hgr.block w5.heap.size (Nat.lt_of_lt_of_le hXl PB.size) (fun e => hoX e.symm), PB.block _ hXl]
        have yg : w7.heap[g]? = wr.heap[g]? := (hgr.block g (Nat.lt_of_lt_of_le hgl PB.size) (fun e => hoG e.symm)).trans (PB.block _ hgl)
        obtain ⟨_, _, cur, hgc⟩ := own_lt HO.out.pages.row (g := g) rfl
        have ygf := frozen_of_arr (yg.trans hgc) q
        have ygc : w7.cell? ⟨g, q, none⟩ = some (.slice a (len + j) c') := by rw [← xq]; unfold World.cell?; rw [yg]
        have hup := HO.out.push (by rw [setPage_len]; exact hqm) HV1.out PB hown7 hgr hob
        have PG : Below w4.heap.size w4 w7 := below_grown (HB.out.trans (PB.mono HB.out.size)) (Nat.le_trans HB.out.size PB.size) (own_pure HOWN.out PB) hgr
        have HUP := Lib.hid hup.1
        have HPG := Lib.hid PG
        clear hup PG hob hown7 hgc yg
        refine wpAnyH_ready (rs := [9]) (by kernel_rfl) (by simp) ?_
        refine AllReadyH.cons rfl (fun K1 hK1 => ?_) AllReadyH.nil
        rw [if_pos (by rfl)]
        refine wp_app _ _ 22 rfl rfl rfl hrun ?_
        refine hK1.out _ _ y1 (fun hHeld4 => ?_)
        clear hK1
        try simp only [Act.put, List.setIfInBounds_toArray, List.set_cons_zero, List.set_cons_succ, List.getElem_toArray, List.getElem_cons_succ, List.getElem_cons_zero]
        clear hrun hgr
        refine wpAnyH_take (i := 10) (v := ?_) rfl (by kernel_rfl) (by kernel_rfl) (by kernel_rfl) (fun _ _ _ h => h) (Or.inl ⟨by rfl, ?_⟩) hHeld4 ?_
        rotate_left
        · (intro W hSw; (try dsimp only at hSw); go_simp; try with_reducible rfl)
        try simp only [Act.put, List.setIfInBounds_toArray, List.set_cons_zero, List.set_cons_succ, List.getElem_toArray, List.getElem_cons_succ, List.getElem_cons_zero]
        refine wpAnyH_ready (rs := [11]) (by kernel_rfl) (by simp) ?_
        refine AllReadyH.cons rfl (fun K1 hK1 => ?_) AllReadyH.nil
        go_simp
        refine hK1.out _ _ (by simpa [World.cell?_setCell_far, hgX] using y1) (fun hHeld5 => ?_)
        clear hK1
        try simp only [Act.put, List.setIfInBounds_toArray, List.set_cons_zero, List.set_cons_succ, List.getElem_toArray, List.getElem_cons_succ, List.getElem_cons_zero]
        refine wpAnyH_done (by kernel_rfl) ?_ _
        try simp only [Act.put, List.setIfInBounds_toArray, List.set_cons_zero, List.set_cons_succ, List.getElem_toArray, List.getElem_cons_succ, List.getElem_cons_zero]
        go_wp2_with fail
        go_roundg (n8 * 8 - (len + (j + 1)))
        case measure => omega
        case rel =>
          have U := HUP.out
          rw [setPage_set, show (P ++ List.replicate j 255) ++ [255] = P ++ List.replicate (j + 1) 255 by rw [rep_snoc, List.append_assoc]] at U
          exact ⟨j + 1, _, rfl, by omega, U, HPG.out.setCell (by dsimp only; omega) _⟩
    · have hlt8 : ¬ ((len : Int) + (j : Int) < 8 * (n8 : Int)) := by omega
      have hjj : j = n8 * 8 - len := by omega
      go_wp2_with fail
      have hP0 : P ++ List.replicate (n8 * 8 - len) 255 = Fl.padTo P (n8 * 8) := by unfold Fl.padTo; rw [hPl]
      rw [hjj, hP0] at HO
      have hbox := HO.out.box
      rw [setPage_len] at hbox
      have hP0l : (Fl.padTo P (n8 * 8)).length = n8 * 8 := Fl.padTo_length _ _ (by omega)
      have HMB := Lib.hid (MB.valid HV.out)
      have hX2 : w2.heap.size < w5.heap.size := by omega
      have HAW : Hid (FE (badOf w5.heap.size (.slice (some ⟨w2.heap.size, 0, none⟩) 1 1)) wr ⟨sz, some ⟨g, 0, none⟩, m.pages.length, pc5, ea5, m.erased.length, ec5⟩ (Fl.setPage m q (Fl.padTo P (n8 * 8) ++ (Fl.full key v).take 0))) := by
        have h1 := HO.out.away (bad := badOf w5.heap.size (.slice (some ⟨w2.heap.size, 0, none⟩) 1 1)) (MB.set HMB.out (by omega)) (fun k hk => by
          rcases hk with h | h
          · exact .inl h
          · simp [Value.ownBlock] at h; omega)
        rw [setPage_len] at h1
        show FAway _ _ _ _ _ _ _ _
        rw [List.take_zero, List.append_nil, HSZ.out]
        exact h1
      have HBA : Hid (BAway (badOf w5.heap.size (.slice (some ⟨w2.heap.size, 0, none⟩) 1 1)) wr ra 8 (Fl.full key v)) := by
        show BAway _ _ _ _ _
        refine BAway.of_own' (own_pure HRV.out HB.out) (fun g hg hbad => ?_)
        have h1 := own_lt HRV.out hg
        rcases hbad with h | h
        · omega
        · simp [Value.ownBlock] at h; omega
      have HOUT : Hid (OutR wr w.heap.size w5.heap.size (.slice (some ⟨w2.heap.size, 0, none⟩) 1 1) [⟨sz, some ⟨b, o, none⟩, pn, pc, ea, en, ec⟩] (m :: addB m q (Fl.padTo P (n8 * 8)) (Fl.full key v) 0)) := by
        refine ⟨rfl, ⟨rfl, .inr ⟨w2.heap.size, 1, _, rfl, by omega, Below.keep HB.out HA4.out (lt_of_block HA4.out), by simp [addB], by unfold maxLen; omega, rfl, rfl⟩⟩, fun i h1 h2 => ?_⟩
        obtain rfl : i = 0 := by simp at h1; omega
        exact FAway.old HF.out (pure_trans HP4.out HB.out) (fun k hk => by
          rcases hk with h | h
          · have := HP4.out.size; omega
          · simp [Value.ownBlock] at h; omega)
      have HBX := Lib.hid (hbox.trans (by rw [show (Fl.setPage m q (Fl.padTo P (n8 * 8))).size = sz from HSZ.out.symm]))
      have HBB := Lib.hid (pure_trans HP4.out HB.out)
      clear hbox HO HOWN HV1 x1 xq xf hoX hoG HB hlt hP0
      go_wp2_with fail
      go_loopw [9, 68] (fun ov i W => ∃ (j : Nat) (e : Elem) (es : List Elem), i = .int .i64 j ∧ j ≤ 8 ∧ OutR W w.heap.size w5.heap.size ov es (m :: addB m q (Fl.padTo P (n8 * 8)) (Fl.full key v) j) ∧ W.heap[w5.heap.size]? = some (.cells #[.int .i64 e.sz, .slice e.pa e.pn e.pc, .slice e.ea e.en e.ec] 32 (0, 0)) ∧ FE (badOf w5.heap.size ov) W e (Fl.setPage m q (Fl.padTo P (n8 * 8) ++ (Fl.full key v).take j)) ∧ BAway (badOf w5.heap.size ov) W ra 8 (Fl.full key v) ∧ Below w.heap.size w W ∧ ov.ownBlock ≠ some w5.heap.size) (fun _ i _ => 8 - (intOf i).toNat)
      case atStart => exact ⟨0, ⟨sz, some ⟨g, 0, none⟩, m.pages.length, pc5, ea5, m.erased.length, ec5⟩, _, rfl, by omega, HOUT.out, HBX.out, HAW.out, HBA.out, HBB.out, by simp [Value.ownBlock]; omega⟩
      case round =>
        obtain ⟨i, e, es, rfl, hi, hout, hXb, hfe, hba, hBW, hno⟩ := hrel
        clear HAW HBA HOUT HBX HBB
        by_cases hi8 : i < 8
        · obtain ⟨rb, ro, hra, _⟩ := (hba wr fun _ _ _ => rfl).2.2 0 (by omega)
          subst hra
          have x0 := cell_of_arr hXb 0
          have x1 := cell_of_arr hXb 1
          have x2 := cell_of_arr hXb 2
          simp at x0 x1 x2
          have HOUT := Lib.hid hout
          have HXB := Lib.hid hXb
          have HFE := Lib.hid hfe
          have HBA := Lib.hid hba
          have HBW := Lib.hid hBW
          have HNO := Lib.hid hno
          have hXl := lt_of_block hXb
          clear hout hXb hfe hba hBW hno
          go_upto_region 12 with fail
          have hsum : IntKind.i64.wrap ((i : Int) + 1) = (i : Int) + 1 := wrap_i64 _ (by omega) (by omega)
          have j0 : (0 : Int) ≤ (i : Int) := by omega
          have j1 : (i : Int) ≤ (i : Int) + 1 := by omega
          have j2 : (i : Int) + 1 ≤ 8 := by omega
          have j3 : ((i : Int) + 1).toNat = i + 1 := by omega
          have j4 : (0 : Int) ≤ (i : Int) + 1 := by omega
          have j5 : i + 1 ≤ rc := by omega
          have j6 : (i : Int) + 1 ≤ (rc : Int) := by omega
          have j7 : ¬ rc = i := by omega
          refine wp_region_held_drew (S := (fun _ => True)) (by kernel_rfl) trivial (fun hHeld => ?_)
          refine wpAnyH_take (i := 1) (v := ?_) rfl (by kernel_rfl) (by kernel_rfl) (by kernel_rfl) (fun _ _ _ h => h) (Or.inl ⟨by rfl, ?_⟩) hHeld ?_
          rotate_left
          · (intro W hSw; (try dsimp only at hSw); go_simp; try with_reducible rfl)
          try simp only [Act.put, List.setIfInBounds_toArray, List.set_cons_zero, List.set_cons_succ, List.getElem_toArray, List.getElem_cons_succ, List.getElem_cons_zero]
          refine wpAnyH_take (i := 2) (v := ?_) rfl (by kernel_rfl) (by kernel_rfl) (by kernel_rfl) (fun _ _ _ h => h) (Or.inl ⟨by rfl, ?_⟩) hHeld ?_
          rotate_left
          · (intro W hSw; (try dsimp only at hSw); go_simp; try with_reducible rfl)
          try simp only [Act.put, List.setIfInBounds_toArray, List.set_cons_zero, List.set_cons_succ, List.getElem_toArray, List.getElem_cons_succ, List.getElem_cons_zero]
          refine wpAnyH_take (i := 3) (v := ?_) rfl (by kernel_rfl) (by kernel_rfl) (by kernel_rfl) (fun _ _ _ h => h) (Or.inl ⟨by rfl, ?_⟩) hHeld ?_
          rotate_left
          · (intro W hSw; (try dsimp only at hSw); go_simp; try with_reducible rfl)
          try simp only [Act.put, List.setIfInBounds_toArray, List.set_cons_zero, List.set_cons_succ, List.getElem_toArray, List.getElem_cons_succ, List.getElem_cons_zero]
          refine wpAnyH_take (i := 4) (v := ?_) rfl (by kernel_rfl) (by kernel_rfl) (by kernel_rfl) (fun _ _ _ h => h) (Or.inl ⟨by rfl, ?_⟩) hHeld ?_
          rotate_left
          · (intro W hSw; (try dsimp only at hSw); go_simp; try with_reducible rfl)
          try simp only [Act.put, List.setIfInBounds_toArray, List.set_cons_zero, List.set_cons_succ, List.getElem_toArray, List.getElem_cons_succ, List.getElem_cons_zero]
          refine wpAnyH_take (i := 5) (v := ?_) rfl (by kernel_rfl) (by kernel_rfl) (by kernel_rfl) (fun _ _ _ h => h) (Or.inl ⟨by rfl, ?_⟩) hHeld ?_
          rotate_left
          · (intro W hSw; (try dsimp only at hSw); go_simp; try with_reducible rfl)
          try simp only [Act.put, List.setIfInBounds_toArray, List.set_cons_zero, List.set_cons_succ, List.getElem_toArray, List.getElem_cons_succ, List.getElem_cons_zero]
          refine wpAnyH_take (i := 6) (v := ?_) rfl (by kernel_rfl) (by kernel_rfl) (by kernel_rfl) (fun _ _ _ h => h) (Or.inl ⟨by rfl, ?_⟩) hHeld ?_
          rotate_left
          · (intro W hSw; (try dsimp only at hSw); go_simp; try with_reducible rfl)
          try simp only [Act.put, List.setIfInBounds_toArray, List.set_cons_zero, List.set_cons_succ, List.getElem_toArray, List.getElem_cons_succ, List.getElem_cons_zero]
          refine wpAnyH_ready (rs := [0]) (by kernel_rfl) (by simp) ?_
          refine AllReadyH.cons rfl (fun K1 hK1 => ?_) AllReadyH.nil
          go_simp
          refine hK1.out _ _ trivial (fun hHeld => ?_)
          clear hK1
          try simp only [Act.put, List.setIfInBounds_toArray, List.set_cons_zero, List.set_cons_succ, List.getElem_toArray, List.getElem_cons_succ, List.getElem_cons_zero]
          refine wpAnyH_ready (rs := [7]) (by kernel_rfl) (by simp) ?_
          refine AllReadyH.cons rfl (fun K1 hK1 => ?_) AllReadyH.nil
          go_simp
          clear hsum j0 j1 j2 j3 j4 j5 j6 j7
          refine (written_any e.sz e.pa e.pn e.pc e.ea e.en e.ec q (some ⟨rb, ro + i, none⟩) 1 (rc - i) [(Fl.full key v).getD i 0] _ wr.drew (HFE.out.rep.below (below_drewN (Below.refl _ _) 1)) (by rw [setPage_len]; exact hqm) (MB.set HMB.out (by rw [List.length_append, hP0l, List.length_take, Fl.full_length]; omega)) (((HBA.out wr fun _ _ _ => rfl).sub i hi8).below (below_drewN (Below.refl _ _) 1)) (by omega)).mono ?_
          rintro e' w7 ⟨sz', pa', pn', pc', ea', en', ec', rfl, hF7, hw7⟩
          rw [setPage_get m q _ hqm, setPage_set, List.append_assoc, ← take_snoc_b _ _ (by rw [Fl.full_length]; exact hi8)] at hF7
          have hw7' : Below wr.heap.size wr w7 := ⟨hw7.os, hw7.tape, hw7.output, hw7.size, hw7.block⟩
          have X7 := Below.keep hw7' HXB.out hXl
          have hs7 := hw7'.size
          have HW7 := Lib.hid hw7'
          have HF7 := Lib.hid hF7
          have d0 := cell_of_arr X7 0
          have d1 := cell_of_arr X7 1
          have d2 := cell_of_arr X7 2
          have f0 := frozen_of_arr X7 0
          have f1 := frozen_of_arr X7 1
          have f2 := frozen_of_arr X7 2
          simp at d0 d1 d2
          have HX7 := Lib.hid X7
          clear hw7 hw7' hF7 X7 x0 x1 x2
          refine hK1.out _ _ trivial (fun hHeld => ?_)
          clear hK1
          try simp only [Act.put, List.setIfInBounds_toArray, List.set_cons_zero, List.set_cons_succ, List.getElem_toArray, List.getElem_cons_succ, List.getElem_cons_zero]
          refine wpAnyH_ready (rs := [8]) (by kernel_rfl) (by simp) ?_
          refine AllReadyH.cons rfl (fun K1 hK1 => ?_) AllReadyH.nil
          go_simp
          refine hK1.out _ _ trivial (fun hHeld => ?_)
          clear hK1
          try simp only [Act.put, List.setIfInBounds_toArray, List.set_cons_zero, List.set_cons_succ, List.getElem_toArray, List.getElem_cons_succ, List.getElem_cons_zero]
          refine wpAnyH_done (by kernel_rfl) ?_ _
          try simp only [Act.put, List.setIfInBounds_toArray, List.set_cons_zero, List.set_cons_succ, List.getElem_toArray, List.getElem_cons_succ, List.getElem_cons_zero]
          have Q := three_cells'' HX7.out (.int .i64 sz') (.slice pa' pn' pc') (.slice ea' en' ec') _ rfl
          have HQ8 := Lib.hid Q
          clear Q
          go_upto_region 13 with fail
          have Q := HQ8.out
          clear HQ8
          generalize ((w7.setCell ⟨w5.heap.size, 0, none⟩ (.int .i64 sz')).setCell ⟨w5.heap.size, 1, none⟩ (.slice pa' pn' pc')).setCell ⟨w5.heap.size, 2, none⟩ (.slice ea' en' ec') = w8 at *
          obtain ⟨S1, S2, S3⟩ := Q
          have hs8 := (S3 0 w7 (Nat.zero_le _) (Below.refl _ _)).size
          have hown9 : ∀ k, badOf w5.heap.size u9 k → k < wr.heap.size := fun k hk => by
            rcases hk with rfl | hk
            · exact hXl
            · exact (own_lt HOUT.out.row hk).1
          have OUT8 := (HOUT.out.pure HW7.out).var hs8 (fun k hk _ => S2 k hk) HNO.out
          have FE8 : FE (badOf w5.heap.size u9) w8 ⟨sz', pa', pn', pc', ea', en', ec'⟩ (Fl.setPage m q (Fl.padTo P (n8 * 8) ++ (Fl.full key v).take (i + 1))) := FAway.on (FAway.of_new HF7.out (fun k hk => .inl (hown9 k hk))) hs8 (fun k hb _ => S2 k (fun e => hb (.inl e))) (fun _ h => .inl h)
          have BA8 := HBA.out.on (bad' := badOf w5.heap.size u9) (W1 := w8) (by omega) (fun k hb hl => (S2 k (fun e => hb (.inl e))).trans (HW7.out.block k hl)) (fun _ h => .inl h)
          have BW8 := S3 _ _ (by have := HP4.out.size; omega) (HBW.out.trans (HW7.out.mono HBW.out.size))
          have NB := alloc_new w8 (.cells #[.int .i64 sz', .slice pa' pn' pc', .slice ea' en' ec'] 32)
          have PB := pure_alloc w8 (.cells #[.int .i64 sz', .slice pa' pn' pc', .slice ea' en' ec'] 32)
          have SB := Below.keep PB S1 (lt_of_block S1)
          have BWB := BW8.alloc BW8.size (.cells #[.int .i64 sz', .slice pa' pn' pc', .slice ea' en' ec'] 32)
          obtain ⟨v9, w9, hrun, hout9, hgr9, hob9, hno9⟩ := (OUT8.pure PB).push (c := 1) (e := ⟨sz', pa', pn', pc', ea', en', ec'⟩) NB (FE8.pure PB) (by simp [addB_len]; omega) BWB.size HNO.out (lt_of_block SB)
          have FE9 : FE (badOf w5.heap.size v9) w9 ⟨sz', pa', pn', pc', ea', en', ec'⟩ _ := FAway.on (FE8.pure PB) hgr9.size (fun k hb hl => hgr9.block k hl (fun e => hb (.inr e.symm))) (badOf_push hob9)
          have BA9 := (BA8.on (bad' := badOf w5.heap.size u9) PB.size (fun k _ hl => PB.block k hl) (fun _ h => .inl h)).on (bad' := badOf w5.heap.size v9) hgr9.size (fun k hb hl => hgr9.block k hl (fun e => hb (.inr e.symm))) (badOf_push hob9)
          have X9 := (hgr9.block _ (lt_of_block SB) (fun e => HNO.out e.symm)).trans SB
          have BW9 := below_grown BWB BWB.size (OUT8.pure PB).row hgr9
          have HOUT9 := Lib.hid hout9
          have HFE9 := Lib.hid FE9
          have HBA9 := Lib.hid BA9
          have HX9 := Lib.hid X9
          have HBW9 := Lib.hid BW9
          have HNO9 := Lib.hid hno9
          have t0 := cell_of_arr S1 0
          have t1 := cell_of_arr S1 1
          have t2 := cell_of_arr S1 2
          simp at t0 t1 t2
          clear OUT8 FE8 BA8 BW8 NB PB SB BWB hout9 hgr9 hob9 hno9 FE9 BA9 X9 BW9 S1 S2 S3 hown9 HF7 HW7 HOUT HXB HFE HBA HBW d0 d1 d2 f0 f1 f2
          go_wp2_with (at_builtin; refine wpList_app rfl _ _ 51 rfl rfl rfl hrun ?_)
          clear hrun t0 t1 t2
          go_wp2_with fail
          go_roundw
          case rel => exact ⟨i + 1, ⟨sz', pa', pn', pc', ea', en', ec'⟩, _, by go_num, by omega, HOUT9.out, HX9.out, HFE9.out, HBA9.out, HBW9.out, HNO9.out⟩
          case measure => simp [intOf]; omega
        · obtain rfl : i = 8 := by omega
          have HOUT := Lib.hid hout
          have HBW := Lib.hid hBW
          clear hout hXb hfe hba hBW hno
          go_wp2_with fail
          go_ret
          refine ⟨w.heap.size, w5.heap.size, _, es, rfl, ?_, HBW.out⟩
          rw [states_stay_eq HV.out hk hvv HST.out, HQ.out, HPP.out, HN8.out, Int.toNat_natCast]
          exact HOUT.out
end Go.Proofs.Ytnfjfifdkmgbdaa
