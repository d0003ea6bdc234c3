/- What a function that is handed steps may turn, and the walk of the closure that writes a record. -/
import Derived.Test.YtnfjfifdkmgbdaaWg
import Derived.Test.YtnfjfifdkmgbdaaPd
namespace Go.Proofs.Ytnfjfifdkmgbdaa
open Go.RowKit

/-- O W: the blocks that the taker of steps owns in world W; Wf: what it keeps of them. -/
structure Iface (Wf : World → Prop) (O : World → Nat → Prop) (n0 : Nat) : Prop where
  pure : ∀ W W', Wf W → Below W.heap.size W W' → Wf W' ∧ ∀ k, O W' k → O W k
  range : ∀ W k, Wf W → O W k → n0 ≤ k ∧ k < W.heap.size
/-- What a step of the taker leaves as it was. -/
structure Kp (Wf : World → Prop) (O : World → Nat → Prop) (W W' : World) : Prop where
  os : W'.os = W.os
  tape : W'.tape = W.tape
  output : W'.output = W.output
  size : W.heap.size ≤ W'.heap.size
  wf : Wf W'
  blk : ∀ k, k < W.heap.size → ¬ O W k → W'.heap[k]? = W.heap[k]?
  own : ∀ k, O W' k → O W k ∨ W.heap.size ≤ k
section
variable {Wf : World → Prop} {O : World → Nat → Prop} {n0 : Nat}
theorem Kp.refl {W : World} (h : Wf W) : Kp Wf O W W := ⟨rfl, rfl, rfl, Nat.le_refl _, h, fun _ _ _ => rfl, fun _ h => .inl h⟩
theorem Kp.trans {a b c : World} (h : Kp Wf O a b) (k : Kp Wf O b c) : Kp Wf O a c :=
  ⟨k.os.trans h.os, k.tape.trans h.tape, k.output.trans h.output, Nat.le_trans h.size k.size, k.wf,
   fun i hi ho => (k.blk i (Nat.lt_of_lt_of_le hi h.size) (fun o => by rcases h.own i o with o | o; exact ho o; omega)).trans (h.blk i hi ho),
   fun i o => by
    rcases k.own i o with o | o
    · exact h.own i o
    · exact .inr (Nat.le_trans h.size o)⟩
theorem Kp.of_pure (I : Iface Wf O n0) {W W' : World} (hW : Wf W) (h : Below W.heap.size W W') : Kp Wf O W W' :=
  ⟨h.os, h.tape, h.output, h.size, (I.pure W W' hW h).1, fun k hk _ => h.block k hk, fun k o => .inl ((I.pure W W' hW h).2 k o)⟩
theorem Kp.below (I : Iface Wf O n0) {W W' : World} (hW : Wf W) (h : Kp Wf O W W') (hn : n0 ≤ W.heap.size) : Below n0 W W' :=
  ⟨h.os, h.tape, h.output, h.size, fun k hk => h.blk k (by omega) (fun o => by have := (I.range W k hW o).1; omega)⟩
theorem Kp.keep {W W' : World} (h : Kp Wf O W W') {k : Nat} {o : Obj} (hk : W.heap[k]? = some o) (ho : ¬ O W k) : W'.heap[k]? = some o ∧ ¬ O W' k :=
  ⟨(h.blk k (lt_of_block hk) ho).trans hk, fun o' => by
    rcases h.own k o' with o' | o'
    · exact ho o'
    · have := lt_of_block hk; omega⟩
/-- Bytes in a row that the taker does not own. -/
def BsP (O : World → Nat → Prop) (W : World) (a : Option Addr) (len : Nat) (l : List UInt8) : Prop := Bs W a len l ∧ ∀ b o, a = some ⟨b, o, none⟩ → 0 < len → ¬ O W b
theorem BsP.kp {W W' : World} {a : Option Addr} {len : Nat} {l : List UInt8} (h : BsP O W a len l) (k : Kp Wf O W W') : BsP O W' a len l := by
  obtain ⟨⟨h1, h2, h3⟩, h4⟩ := h
  refine ⟨⟨h1, h2, fun i hi => ?_⟩, fun b o e hl o' => ?_⟩
  · obtain ⟨b, o, e1, e2⟩ := h3 i hi
    exact ⟨b, o, e1, (World.cell?_of_block (w := W) (k.blk b (lt_of_cell e2) (h4 b o e1 (by omega)))).trans e2⟩
  · obtain ⟨b', o', e1, e2⟩ := h3 0 hl
    rw [e] at e1
    simp only [Option.some.injEq, Addr.mk.injEq, and_true] at e1
    obtain ⟨rfl, rfl⟩ := e1
    rcases k.own b o' with h | h
    · exact h4 b o e hl h
    · have := lt_of_cell e2; omega
/-- A new row is nobody's. -/
theorem OwnB.bsP (I : Iface Wf O n0) {W W' : World} (hW : Wf W) (hb : Below W.heap.size W W') {v : Value} {l : List UInt8} (h : OwnB W' W.heap.size v l) : ∃ a cap, v = .slice a l.length cap ∧ BsP O W' a l.length l := by
  obtain ⟨a, cap, rfl, hbs⟩ := h.bs
  refine ⟨a, cap, rfl, hbs, fun b o e hl o' => ?_⟩
  obtain ⟨h1, h2⟩ := h
  rcases h2 with ⟨h2, h3⟩ | ⟨g, cap', cur, h2, hg, _⟩
  · omega
  · simp only [Value.slice.injEq] at h2
    rw [e] at h2
    simp only [Option.some.injEq, Addr.mk.injEq, and_true] at h2
    obtain ⟨⟨rfl, rfl⟩, _⟩ := h2
    have := (I.range W b hW ((I.pure W W' hW hb).2 b o')).2
    omega
end

def encS (s : Fl.Step) : Value := .agg #[.int .i64 s.page, .int .i64 s.at_, .bool s.erase, .int .u8 (s.b.toNat : Int)]
def fv41 (c1 c2 c3 c4 c5 : Value) : Value := .func (.func 41) #[] #[c1, c2, c3, c4, c5]
/-- A step that may come. -/
def StepOk (pn : Nat) (s : Fl.Step) : Prop := 0 ≤ s.page ∧ s.page < pn ∧ 0 ≤ s.at_ ∧ s.at_ ≤ 100000
def YPost (J : List Fl.Step → World → Prop) (Wf : World → Prop) (O : World → Nat → Prop) (l : List Fl.Step) (W : World) (e : Ending) (W' : World) : Prop := e = .returned (.bool true) ∧ J l W' ∧ Kp Wf O W W'

set_option maxHeartbeats 800000 in
theorem write_c {Wf : World → Prop} {O : World → Nat → Prop} {n0 : Nat} (I : Iface Wf O n0) (J : List Fl.Step → World → Prop) (pn : Nat) (c1 c2 c3 c4 c5 : Value)
    (HY : ∀ pre s W, J pre W → Wf W → StepOk pn s → Calls Try.prog 41 #[encS s, c1, c2, c3, c4, c5] W (YPost J Wf O (pre ++ [s]) W))
    (page : Int) (n : Nat) (a : Option Addr) (len cap : Nat) (r : List UInt8) (X : Nat) (pre : List Fl.Step) (w : World) (hJ : J pre w) (hW : Wf w)
    (hX : w.heap[X]? = some (.cells #[fv41 c1 c2 c3 c4 c5] 75 (0, 0))) (hXO : ¬ O w X) (hb : BsP O w a len r) (hp0 : 0 ≤ page) (hp : page < pn) (hpn : pn ≤ 1000) (hn : n ≤ 1000) (hlen : len ≤ 1000) :
    Calls Try.prog 54 #[.int .i64 page, .int .i64 n, .slice a len cap, .pointer (some ⟨X, 0, none⟩)] w (YPost J Wf O (pre ++ Fl.writes page n r) w) := by
  have HI := Lib.hid I
  have HYH := Lib.hid HY
  have HL := Lib.hid hb.1.1
  clear I HY
  go_enter Try.func54, Try.ntmps54
  go_wp2_with fail
  go_loopw [12] (fun i wr => ∃ k : Nat, i = .int .i64 k ∧ k ≤ len ∧ J (pre ++ Fl.writes page n (r.take k)) wr ∧ Wf wr ∧ Kp Wf O w wr ∧ BsP O wr a len r ∧ wr.heap[X]? = some (.cells #[fv41 c1 c2 c3 c4 c5] 75 (0, 0)) ∧ ¬ O wr X) (fun i _ => len - (intOf i).toNat)
  case atStart => exact ⟨0, rfl, by omega, by simpa [Fl.writes, Fl.writesFrom] using hJ, hW, Kp.refl hW, hb, hX, hXO⟩
  case round =>
    obtain ⟨k, rfl, hk, hJ1, hW1, hK1, hb1, hX1, hXO1⟩ := hrel
    have HX1 := Lib.hid hX1
    have cX := cell_of_arr hX1 0
    simp at cX
    by_cases hlt : k < len
    · obtain ⟨b, o, rfl, e2⟩ := hb1.1.2.2 k hlt
      have HS : Hid (Fl.writes page n (r.take (k + 1)) = Fl.writes page n (r.take k) ++ [⟨page, (n * 8 : Nat) + (k : Int), false, r.getD k 0⟩]) := by
        show _ = _
        have hl := HL.out
        rw [take_snoc r k (by omega), Fl.writes_snoc, List.length_take, Nat.min_eq_left (by omega)]
      clear hX1
      have HXO1 := Lib.hid hXO1
      have HW1 := Lib.hid hW1
      have HJ1 := Lib.hid hJ1
      have HK1 := Lib.hid hK1
      have HB1 := Lib.hid hb1
      clear hXO1 hW1 hJ1 hK1 hb1
      generalize r.getD k 0 = x at *
      unfold fv41 at cX
      go_wp2_with fail
      refine (HYH.out _ ⟨page, (n * 8 : Nat) + (k : Int), false, x⟩ _ HJ1.out HW1.out ⟨hp0, hp, by show (0 : Int) ≤ _ + _; omega, by show _ + _ ≤ (100000 : Int); omega⟩).mono ?_
      rintro e w2 ⟨rfl, hJ2, hK2⟩
      have HB2 := Lib.hid (HB1.out.kp hK2)
      have HX2 := Lib.hid (hK2.keep HX1.out HXO1.out)
      have HK2 := Lib.hid (HK1.out.trans hK2)
      have HJ2 : Hid (J (pre ++ Fl.writes page n (r.take (k + 1))) w2) := by show J _ _; rw [HS.out, ← List.append_assoc]; exact hJ2
      clear hJ2 hK2
      go_wp2_with fail
      go_roundw
      case rel => exact ⟨k + 1, by go_num, by omega, HJ2.out, HK2.out.wf, HK2.out, HB2.out, HX2.out.1, HX2.out.2⟩
      case measure => simp [intOf]; omega
    · obtain rfl : k = len := by omega
      clear hX1
      have HJ1 := Lib.hid hJ1
      have HK1 := Lib.hid hK1
      clear hJ1 hK1 hb1 hW1 hXO1
      go_wp2_with fail
      go_ret
      exact ⟨rfl, by have := HJ1.out; rwa [List.take_of_length_le (by have := HL.out; omega)] at this, HK1.out⟩
end Go.Proofs.Ytnfjfifdkmgbdaa
