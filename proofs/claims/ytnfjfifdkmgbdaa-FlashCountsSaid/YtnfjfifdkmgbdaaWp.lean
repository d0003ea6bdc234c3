/- The closure that writes a record, whose taker is the body of a range over a function. -/
import Derived.Test.YtnfjfifdkmgbdaaWo
import Derived.RangeFuncNested
import Derived.RangeFuncBound
import Derived.RangeFuncCalls
import Derived.RangeFuncLeaves
import Derived.Shelf.Abstract
import Derived.Shelf.RegionOpen
import Derived.OwnWalkIn
import Derived.TacticsInMore
import Derived.LoopNIn
import Derived.LoopIn
namespace Go.Proofs.Ytnfjfifdkmgbdaa
open Go.RowKit Go.Shelf
attribute [local go_sem] Oper.semAt_some

/-- What a round of the taker leaves as it was: all below n0; and, of a world that is in order, every row of cells that the taker does not own. -/
structure Ky (Wf : World → Prop) (O : World → Nat → Prop) (n0 : Nat) (W W' : World) : Prop where
  low : Below n0 W W'
  keep : Wf W → Wf W' ∧ (∀ k c e f, W.heap[k]? = some (.cells c e f) → ¬ O W k → W'.heap[k]? = some (.cells c e f)) ∧ ∀ k, O W' k → O W k ∨ W.heap.size ≤ k
section
variable {Wf : World → Prop} {O : World → Nat → Prop} {n0 : Nat}
theorem Ky.refl (W : World) : Ky Wf O n0 W W := ⟨Below.refl _ _, fun h => ⟨h, fun _ _ _ _ hc _ => hc, fun _ o => .inl o⟩⟩
theorem Ky.trans {a b c : World} (h : Ky Wf O n0 a b) (k : Ky Wf O n0 b c) : Ky Wf O n0 a c :=
  ⟨h.low.trans k.low, fun hw => by
    obtain ⟨h1, h2, h3⟩ := h.keep hw
    obtain ⟨k1, k2, k3⟩ := k.keep h1
    refine ⟨k1, fun i cc e f hc ho => k2 i cc e f (h2 i cc e f hc ho) (fun o => ?_), fun i o => ?_⟩
    · rcases h3 i o with o | o
      · exact ho o
      · have := lt_of_block hc; omega
    · rcases k3 i o with o | o
      · exact h3 i o
      · exact .inr (Nat.le_trans h.low.size o)⟩
theorem Ky.of_pure (I : Iface Wf O n0) {W W' : World} (h : Below W.heap.size W W') (hn : n0 ≤ W.heap.size) : Ky Wf O n0 W W' :=
  ⟨h.mono hn, fun hw => ⟨(I.pure W W' hw h).1, fun k c e f hc _ => Below.keep h hc (lt_of_block hc), fun k o => .inl ((I.pure W W' hw h).2 k o)⟩⟩
theorem Ky.cells {W W' : World} (h : Ky Wf O n0 W W') (hw : Wf W) {k : Nat} {c : Array Value} {e : TypeId} {f : Nat × Nat} (hk : W.heap[k]? = some (.cells c e f)) (ho : ¬ O W k) : W'.heap[k]? = some (.cells c e f) ∧ ¬ O W' k :=
  ⟨(h.keep hw).2.1 k c e f hk ho, fun o' => by
    rcases (h.keep hw).2.2 k o' with o' | o'
    · exact ho o'
    · have := lt_of_block hk; omega⟩
theorem BsP.ky {W W' : World} {a : Option Addr} {len : Nat} {l : List UInt8} (h : BsP O W a len l) (k : Ky Wf O n0 W W') (hw : Wf W) : BsP O W' a len l := by
  obtain ⟨⟨h1, h2, h3⟩, h4⟩ := h
  refine ⟨⟨h1, h2, fun i hi => ?_⟩, fun b o e hl o' => ?_⟩
  · obtain ⟨b, o, e1, e2⟩ := h3 i hi
    refine ⟨b, o, e1, ?_⟩
    have e3 := e2
    unfold World.cell? at e2
    split at e2
    · rename_i c el f hb
      rw [← e3]
      have := (k.keep hw).2.1 b c el f hb (h4 b o e1 (by omega))
      exact World.cell?_of_block (w := W) (by rw [this]; exact hb.symm)
    · cases e2
  · obtain ⟨b', o', e1, e2⟩ := h3 0 hl
    rw [e] at e1
    simp only [Option.some.injEq, Addr.mk.injEq, and_true] at e1
    obtain ⟨rfl, rfl⟩ := e1
    rcases (k.keep hw).2.2 b o' with h | h
    · exact h4 b o e hl h
    · have := lt_of_cell e2; omega
end

/-- A step that may come, with the proof that it may. -/
abbrev OkStep (pn : Nat) : Type := { s : Fl.Step // StepOk pn s }
def stepsOf {pn : Nat} (l : List (OkStep pn)) : List Fl.Step := l.map (fun s => s.1)
theorem stepsOf_append {pn : Nat} (l r : List (OkStep pn)) : stepsOf (l ++ r) = stepsOf l ++ stepsOf r := List.map_append
/-- What yield promises in a round. -/
def RoundOk {pn : Nat} (J Jx : List (OkStep pn) → World → Prop) (Wf : World → Prop) (O : World → Nat → Prop) (n0 : Nat) (l : List (OkStep pn)) (W : World) (e : Ending) (W' : World) : Prop :=
  (e = .returned (.bool true) ∧ J l W' ∧ Ky Wf O n0 W W') ∨ (e = .returned (.bool false) ∧ Jx l W')
/-- What a function that hands on steps leaves: all have come, or it was stopped. -/
def HandPost {pn : Nat} (J Jx : List (OkStep pn) → World → Prop) (Wf : World → Prop) (O : World → Nat → Prop) (n0 : Nat) (pre : List (OkStep pn)) (l : List Fl.Step) (w : World) (e : Ending) (w' : World) : Prop :=
  (e = .returned (.bool true) ∧ ∃ r, stepsOf r = l ∧ J (pre ++ r) w' ∧ Ky Wf O n0 w w') ∨ (e = .returned (.bool false) ∧ ∃ r, stepsOf r <+: l ∧ Jx (pre ++ r) w')

set_option maxHeartbeats 1600000 in
theorem write_y {Wf : World → Prop} {O : World → Nat → Prop} {n0 : Nat} (I : Iface Wf O n0) (pn : Nat) (lp n : Nat) (N : Nat) (J Jx : List (OkStep pn) → World → Prop)
    (HY : ∀ pre (s : OkStep pn) W, J pre W → Wf W → pre.length < N → YieldAt Fence.wide n Try.prog lp #[encS s.1] W (RoundOk J Jx Wf O n0 (pre ++ [s]) W))
    (page : Int) (k0 : Nat) (a : Option Addr) (len cap : Nat) (r : List UInt8) (X : Nat) (pre : List (OkStep pn)) (w : World) (hJ : J pre w) (hW : Wf w)
    (hX : w.heap[X]? = some (.cells #[.func (.yield lp) #[] #[]] 75 (0, 0))) (hXO : ¬ O w X) (hb : BsP O w a len r) (hp0 : 0 ≤ page) (hp : page < pn) (hpn : pn ≤ 1000) (hn : k0 ≤ 1000) (hlen : len ≤ 1000) (hN : pre.length + len ≤ N) :
    CallsIn Fence.wide (n + 1) Try.prog 54 #[.int .i64 page, .int .i64 k0, .slice a len cap, .pointer (some ⟨X, 0, none⟩)] w (HandPost J Jx Wf O n0 pre (Fl.writes page k0 r) w) := by
  have HI := Lib.hid I
  have HYH := Lib.hid HY
  have HL := Lib.hid hb.1.1
  clear I HY
  refine callsIn_of_wp Try.func54 rfl trivial ?_ rfl
  simp only [Try.ntmps54, List.size_toArray, List.length_cons, List.length_nil, Nat.reduceAdd, Nat.reduceSub, Array.replicate_succ, Array.replicate_zero, List.push_toArray, List.append_toArray, List.nil_append, List.cons_append]
  gi_wp2
  gi_loopw [12] (fun i wr => ∃ (k : Nat) (rr : List (OkStep pn)), i = .int .i64 k ∧ k ≤ len ∧ stepsOf rr = Fl.writes page k0 (r.take k) ∧ J (pre ++ rr) wr ∧ Wf wr ∧ Ky Wf O n0 w wr ∧ BsP O wr a len r ∧ wr.heap[X]? = some (.cells #[.func (.yield lp) #[] #[]] 75 (0, 0)) ∧ ¬ O wr X) (fun i _ => len - (intOf i).toNat)
  case atStart => exact ⟨0, [], rfl, by omega, rfl, by simpa using hJ, hW, Ky.refl _, hb, hX, hXO⟩
  case round =>
    obtain ⟨k, rr, rfl, hk, hrr, hJ1, hW1, hK1, hb1, hX1, hXO1⟩ := hrel
    have HX1 := Lib.hid hX1
    have HRR := Lib.hid hrr
    have cX := cell_of_arr hX1 0
    simp at cX
    by_cases hlt : k < len
    · obtain ⟨b, o, rfl, e2⟩ := hb1.1.2.2 k hlt
      have HS : Hid (Fl.writes page k0 (r.take (k + 1)) = Fl.writes page k0 (r.take k) ++ [⟨page, (k0 * 8 : Nat) + (k : Int), false, r.getD k 0⟩]) := by
        show _ = _
        have hl := HL.out
        rw [take_snoc r k (by omega), Fl.writes_snoc, List.length_take, Nat.min_eq_left (by omega)]
      have HXO1 := Lib.hid hXO1
      have HW1 := Lib.hid hW1
      have HJ1 := Lib.hid hJ1
      have HK1 := Lib.hid hK1
      have HB1 := Lib.hid hb1
      clear hXO1 hW1 hJ1 hK1 hb1 hX1 hrr
      have PFX : Hid (Fl.writes page k0 (r.take (k + 1)) <+: Fl.writes page k0 r) := by
        show _ <+: _
        have : r = r.take (k + 1) ++ r.drop (k + 1) := (List.take_append_drop _ _).symm
        conv => rhs; rw [this]
        unfold Fl.writes
        rw [Fl.writesFrom_append]
        exact List.prefix_append _ _
      generalize r.getD k 0 = x at *
      have hok : StepOk pn ⟨page, (k0 * 8 : Nat) + (k : Int), false, x⟩ := ⟨hp0, hp, by show (0 : Int) ≤ _ + _; omega, by show _ + _ ≤ (100000 : Int); omega⟩
      have hrl : rr.length = k := by
        have h := congrArg List.length HRR.out
        have h2 := HL.out
        rw [stepsOf, List.length_map, writes_len, List.length_take] at h
        omega
      obtain ⟨fn, tmps, assign, body, hy, hR⟩ := HYH.out _ ⟨_, hok⟩ _ HJ1.out HW1.out (by rw [List.length_append, hrl]; omega)
      simp only [encS] at hy
      rw [show ((k0 * 8 : Nat) : Int) = (k0 : Int) * 8 by omega] at hy
      have HR := Lib.hid hR
      clear hR
      gi_wp2
      refine HR.out.mono ?_
      have HST : Hid (stepsOf (rr ++ [(⟨_, hok⟩ : OkStep pn)]) = Fl.writes page k0 (r.take (k + 1))) := by
        show _ = _
        rw [stepsOf_append, HRR.out, HS.out]; rfl
      rintro e w2 (⟨rfl, hJ2, hK2⟩ | ⟨rfl, hJ2⟩)
      · have HB2 := Lib.hid (HB1.out.ky hK2 HW1.out)
        have HX2 := Lib.hid (hK2.cells HW1.out HX1.out HXO1.out)
        have HK2 := Lib.hid (HK1.out.trans hK2)
        have HW2 := Lib.hid (hK2.keep HW1.out).1
        have HJ2 : Hid (J (pre ++ (rr ++ [⟨_, hok⟩])) w2) := by show J _ _; rw [← List.append_assoc]; exact hJ2
        clear hJ2 hK2
        gi_wp2
        go_roundw
        case rel => exact ⟨k + 1, _, by go_num, by omega, HST.out, HJ2.out, HW2.out, HK2.out, HB2.out, HX2.out.1, HX2.out.2⟩
        case measure => simp [intOf]; omega
      · have HJ2 : Hid (Jx (pre ++ (rr ++ [⟨_, hok⟩])) w2) := by show Jx _ _; rw [← List.append_assoc]; exact hJ2
        clear hJ2
        gi_wp2
        go_ret
        exact .inr ⟨rfl, _, by rw [HST.out]; exact PFX.out, HJ2.out⟩
    · obtain rfl : k = len := by omega
      clear hX1
      have HJ1 := Lib.hid hJ1
      have HK1 := Lib.hid hK1
      clear hJ1 hK1 hb1 hW1 hXO1
      gi_wp2
      go_ret
      refine .inl ⟨rfl, rr, ?_, HJ1.out, HK1.out⟩
      rw [HRR.out, List.take_of_length_le (by have := HL.out; omega)]
end Go.Proofs.Ytnfjfifdkmgbdaa
