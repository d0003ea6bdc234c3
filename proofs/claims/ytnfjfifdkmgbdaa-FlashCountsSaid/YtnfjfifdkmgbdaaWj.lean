/- Walks of Steps and of the closure that counts. -/
import Derived.Test.YtnfjfifdkmgbdaaWi
namespace Go.Proofs.Ytnfjfifdkmgbdaa
open Go.RowKit

/-- Does a step wear the memory out? -/
def wornBy (m : Fl.Mem) (s : Fl.Step) : Bool := (s.erase && decide (1000 ≤ m.erased.getD s.page.toNat 0)) || (s.page != (Fl.newest m).1 && decide (549755813888 ≤ (Fl.newest m).2 + 1))
def wornP (m : Fl.Mem) (l : List Fl.Step) : Bool := l.any (wornBy m)
theorem wornP_snoc (m : Fl.Mem) (l : List Fl.Step) (s : Fl.Step) : wornP m (l ++ [s]) = (wornP m l || wornBy m s) := by simp [wornP]
theorem wrap_succ (n : Nat) : wrap64 (wrap64 (n : Int) + 1) = wrap64 ((n + 1 : Nat) : Int) := by unfold wrap64; omega

/-- The five boxes of Steps. -/
structure SBox (m : Fl.Mem) (fl : Array Value) (ea : Option Addr) (en bf bn bw bp bg : Nat) (pre : List Fl.Step) (W : World) : Prop where
  bn : W.heap[bn]? = some (.cells #[.int .i64 (wrap64 (pre.length : Nat))] 3 (0, 0))
  bw : W.heap[bw]? = some (.cells #[.bool (wornP m pre)] 4 (0, 0))
  bf : W.heap[bf]? = some (.cells fl 32 (0, 0))
  bp : W.heap[bp]? = some (.cells #[.int .i64 (Fl.newest m).1] 3 (0, 0))
  bg : W.heap[bg]? = some (.cells #[.int .i64 (Fl.newest m).2] 3 (0, 0))
  er : Is W ea en m.erased
def SOwn (bn bw : Nat) (_ : World) (k : Nat) : Prop := k = bn ∨ k = bw
def SWf (n0 bn bw : Nat) (W : World) : Prop := n0 ≤ bn ∧ n0 ≤ bw ∧ bn < W.heap.size ∧ bw < W.heap.size
theorem sIface (n0 bn bw : Nat) : Iface (SWf n0 bn bw) (SOwn bn bw) n0 :=
  ⟨fun W W' h hb => ⟨⟨h.1, h.2.1, Nat.lt_of_lt_of_le h.2.2.1 hb.size, Nat.lt_of_lt_of_le h.2.2.2 hb.size⟩, fun _ o => o⟩,
   fun W k h o => by rcases o with rfl | rfl <;> simp only [SWf] at h <;> omega⟩
theorem SBox.pure {m : Fl.Mem} {fl : Array Value} {ea : Option Addr} {en bf bn bw bp bg : Nat} {pre : List Fl.Step} {W W' : World} (h : SBox m fl ea en bf bn bw bp bg pre W) (hb : Below W.heap.size W W') : SBox m fl ea en bf bn bw bp bg pre W' :=
  ⟨Below.keep hb h.bn (lt_of_block h.bn), Below.keep hb h.bw (lt_of_block h.bw), Below.keep hb h.bf (lt_of_block h.bf), Below.keep hb h.bp (lt_of_block h.bp), Below.keep hb h.bg (lt_of_block h.bg), h.er.below hb⟩

theorem Is.block {w w' : World} {a : Option Addr} {n : Nat} {es : List Int} (h : Is w a n es) (k : ∀ b o, a = some ⟨b, o, none⟩ → w'.heap[b]? = w.heap[b]?) : Is w' a n es := by
  obtain ⟨h1, h2, h3⟩ := h
  refine ⟨h1, h2, fun i hi => ?_⟩
  obtain ⟨b, o, e1, e2, e3⟩ := h3 i hi
  exact ⟨b, o, e1, (World.cell?_of_block (w := w) (k b o e1)).trans e2, e3⟩
theorem set_other {w : World} {a : Addr} {v : Value} {k : Nat} {o : Obj} (h : w.heap[k]? = some o) (hk : k ≠ a.block) : (w.setCell a v).heap[k]? = some o := (Below.heap_setCell _ _ _ _ hk).trans h
theorem SBox.step {m : Fl.Mem} {fl : Array Value} {ea : Option Addr} {en n0 bf bn bw bp bg : Nat} {pre : List Fl.Step} {s : Fl.Step} {w : World} {x : Bool} {z : Obj} (h : SBox m fl ea en bf bn bw bp bg pre w) (hd1 : bn ≠ bw) (hd2 : bf ≠ bn) (hd3 : bf ≠ bw) (hd4 : bp ≠ bn) (hd5 : bp ≠ bw) (hd6 : bg ≠ bn) (hd7 : bg ≠ bw)
    (hea : ∀ b o, ea = some ⟨b, o, none⟩ → b < n0) (hw : SWf n0 bn bw w) (hx : Hid (wornP m (pre ++ [s]) = x)) :
    YPost (SBox m fl ea en bf bn bw bp bg) (SWf n0 bn bw) (SOwn bn bw) (pre ++ [s]) w (.returned (.bool true)) (((w.setCell ⟨bn, 0, none⟩ (.int .i64 (wrap64 (wrap64 (pre.length : Nat) + 1)))).setCell ⟨bw, 0, none⟩ (.bool x)).alloc z) := by
  have hsz : ((w.setCell ⟨bn, 0, none⟩ (.int .i64 (wrap64 (wrap64 (pre.length : Nat) + 1)))).setCell ⟨bw, 0, none⟩ (.bool x)).heap.size = w.heap.size := by simp [World.setCell]
  have hS : SBox m fl ea en bf bn bw bp bg (pre ++ [s]) ((w.setCell ⟨bn, 0, none⟩ (.int .i64 (wrap64 (wrap64 (pre.length : Nat) + 1)))).setCell ⟨bw, 0, none⟩ (.bool x)) := by
    refine ⟨?_, ?_, ?_, ?_, ?_, ?_⟩
    · refine set_other ?_ hd1
      rw [set_arr h.bn, wrap_succ]; simp
    · rw [set_arr (set_other (a := ⟨bn, 0, none⟩) h.bw (by simpa using hd1.symm)), hx.out]; rfl
    · exact set_other (set_other h.bf hd2) hd3
    · exact set_other (set_other h.bp hd4) hd5
    · exact set_other (set_other h.bg hd6) hd7
    · refine h.er.block fun b o e => ?_
      have := hea b o e
      have h3 := hw.1
      have h4 := hw.2.1
      rw [Below.heap_setCell _ _ _ _ (by show b ≠ bw; omega), Below.heap_setCell _ _ _ _ (by show b ≠ bn; omega)]
  have hK : Kp (SWf n0 bn bw) (SOwn bn bw) w ((w.setCell ⟨bn, 0, none⟩ (.int .i64 (wrap64 (wrap64 (pre.length : Nat) + 1)))).setCell ⟨bw, 0, none⟩ (.bool x)) := by
    refine ⟨rfl, rfl, rfl, by omega, ?_, ?_, ?_⟩
    · have h5 := hw.2.2
      exact ⟨hw.1, hw.2.1, by omega, by omega⟩
    · intro k hk ho
      have h6 : k ≠ bn := fun e => ho (.inl e)
      have h7 : k ≠ bw := fun e => ho (.inr e)
      rw [Below.heap_setCell _ _ _ _ h7, Below.heap_setCell _ _ _ _ h6]
    · exact fun k o => .inl o
  exact ⟨rfl, hS.pure (pure_alloc _ _), hK.trans (Kp.of_pure (sIface n0 bn bw) hK.wf (pure_alloc _ _))⟩

set_option maxHeartbeats 1600000 in
theorem count_any (m : Fl.Mem) (sz : Int) (pa : Option Addr) (pn pc : Nat) (ea : Option Addr) (en ec : Nat) (n0 bf bn bw bp bg : Nat) (hd1 : bn ≠ bw) (hd2 : bf ≠ bn) (hd3 : bf ≠ bw) (hd4 : bp ≠ bn) (hd5 : bp ≠ bw) (hd6 : bg ≠ bn) (hd7 : bg ≠ bw)
    (hg : -1 ≤ (Fl.newest m).2 ∧ (Fl.newest m).2 < 549755813888) (hen : en = pn) (pre : List Fl.Step) (s : Fl.Step) (w : World) (hs : StepOk pn s) (hb : SBox m #[.int .i64 sz, .slice pa pn pc, .slice ea en ec] ea en bf bn bw bp bg pre w) (hw : SWf n0 bn bw w) (hea : ∀ b o, ea = some ⟨b, o, none⟩ → b < n0) :
    Calls Try.prog 41 #[encS s, .pointer (some ⟨bn, 0, none⟩), .pointer (some ⟨bw, 0, none⟩), .pointer (some ⟨bf, 0, none⟩), .pointer (some ⟨bp, 0, none⟩), .pointer (some ⟨bg, 0, none⟩)] w
      (YPost (SBox m #[.int .i64 sz, .slice pa pn pc, .slice ea en ec] ea en bf bn bw bp bg) (SWf n0 bn bw) (SOwn bn bw) (pre ++ [s]) w) := by
  obtain ⟨page, at_, erase, b⟩ := s
  obtain ⟨p0, p1, t0, t1⟩ := hs
  dsimp only at p0 p1 t0 t1
  obtain ⟨q, rfl⟩ := Int.eq_ofNat_of_zero_le p0
  obtain ⟨be, oe, rfl, f2, f3, f4⟩ := hb.er.2.2 q (by omega)
  have cn := cell_of_arr hb.bn 0
  have cw := cell_of_arr hb.bw 0
  have cf0 := cell_of_arr hb.bf 2
  have cp := cell_of_arr hb.bp 0
  have cg := cell_of_arr hb.bg 0
  simp at cn cw cf0 cp cg
  have zn := frozen_of_arr hb.bn 0
  have zw := frozen_of_arr hb.bw 0
  have ln := lt_of_block hb.bn
  have lw := lt_of_block hb.bw
  have lf := lt_of_block hb.bf
  have lp := lt_of_block hb.bp
  have lg := lt_of_block hb.bg
  have WB : Hid (wornBy m ⟨(q : Int), at_, erase, b⟩ = ((erase && decide (1000 ≤ m.erased.getD q 0)) || (((q : Int) != (Fl.newest m).1) && decide (549755813888 ≤ (Fl.newest m).2 + 1)))) := rfl
  have HB := Lib.hid hb
  clear hb
  have hbe := hea be oe rfl
  have le := lt_of_cell f2
  have hne1 : be ≠ bn := by have := hw.1; omega
  have hne2 : be ≠ bw := by have := hw.2.1; omega
  have hq1 : (q : Int) < (en : Int) := by omega
  clear hen
  unfold encS
  dsimp only
  generalize m.erased.getD q 0 = E at *
  cases h0 : wornP m pre
  · rw [h0] at cw
    cases erase
    · cases hqp : ((q : Int) != (Fl.newest m).1)
      · have WV : Hid (wornP m (pre ++ [⟨(q : Int), at_, false, b⟩]) = false) := by show _ = _; rw [wornP_snoc, h0, WB.out, hqp]; rfl
        go_enter Try.func41, Try.ntmps41
        go_wp2_with fail
        go_ret
        exact SBox.step HB.out hd1 hd2 hd3 hd4 hd5 hd6 hd7 hea hw WV
      · by_cases hG : 549755813888 ≤ (Fl.newest m).2 + 1
        · have WV : Hid (wornP m (pre ++ [⟨(q : Int), at_, false, b⟩]) = true) := by show _ = _; rw [wornP_snoc, h0, WB.out, hqp]; simp [hG]
          go_enter Try.func41, Try.ntmps41
          go_wp2_with fail
          go_ret
          exact SBox.step HB.out hd1 hd2 hd3 hd4 hd5 hd6 hd7 hea hw WV
        · have WV : Hid (wornP m (pre ++ [⟨(q : Int), at_, false, b⟩]) = false) := by show _ = _; rw [wornP_snoc, h0, WB.out, hqp]; simp [hG]
          go_enter Try.func41, Try.ntmps41
          go_wp2_with fail
          go_ret
          exact SBox.step HB.out hd1 hd2 hd3 hd4 hd5 hd6 hd7 hea hw WV
    · by_cases hE : 1000 ≤ E
      · have WV : Hid (wornP m (pre ++ [⟨(q : Int), at_, true, b⟩]) = true) := by show _ = _; rw [wornP_snoc, h0, WB.out, decide_eq_true hE]; rfl
        go_enter Try.func41, Try.ntmps41
        go_wp2_with fail
        go_ret
        exact SBox.step HB.out hd1 hd2 hd3 hd4 hd5 hd6 hd7 hea hw WV
      · cases hqp : ((q : Int) != (Fl.newest m).1)
        · have WV : Hid (wornP m (pre ++ [⟨(q : Int), at_, true, b⟩]) = false) := by show _ = _; rw [wornP_snoc, h0, WB.out, hqp, decide_eq_false hE]; rfl
          go_enter Try.func41, Try.ntmps41
          go_wp2_with fail
          go_ret
          exact SBox.step HB.out hd1 hd2 hd3 hd4 hd5 hd6 hd7 hea hw WV
        · by_cases hG : 549755813888 ≤ (Fl.newest m).2 + 1
          · have WV : Hid (wornP m (pre ++ [⟨(q : Int), at_, true, b⟩]) = true) := by show _ = _; rw [wornP_snoc, h0, WB.out, hqp]; simp [hG]
            go_enter Try.func41, Try.ntmps41
            go_wp2_with fail
            go_ret
            exact SBox.step HB.out hd1 hd2 hd3 hd4 hd5 hd6 hd7 hea hw WV
          · have WV : Hid (wornP m (pre ++ [⟨(q : Int), at_, true, b⟩]) = false) := by show _ = _; rw [wornP_snoc, h0, WB.out, hqp, decide_eq_false hE, decide_eq_false hG]; rfl
            go_enter Try.func41, Try.ntmps41
            go_wp2_with fail
            go_ret
            exact SBox.step HB.out hd1 hd2 hd3 hd4 hd5 hd6 hd7 hea hw WV
  · rw [h0] at cw
    have WV : Hid (wornP m (pre ++ [⟨(q : Int), at_, erase, b⟩]) = true) := by show _ = _; rw [wornP_snoc, h0]; rfl
    go_enter Try.func41, Try.ntmps41
    go_wp2_with fail
    go_ret
    exact SBox.step HB.out hd1 hd2 hd3 hd4 hd5 hd6 hd7 hea hw WV
end Go.Proofs.Ytnfjfifdkmgbdaa
