/- Small walks: numbers of kids, the order of numbers, remainders, decks. -/
import Derived.Test.YtkgbjoepjcenlaaDoorBa
namespace Go.Proofs.YtkgbjoepjcenlaaDoor
open Go.RowKit
set_option maxHeartbeats 400000 in
theorem kids_any (o : Int) (w : World) : Calls Tryd.prog 59 #[.int .i64 o] w fun e w' => e = .returned (.int .i64 (Tm.arity o)) ∧ w = w' := by
  by_cases h1 : o = 1; · (subst h1; go_enter Tryd.func59, Tryd.ntmps59; go_wp2; go_ret; exact ⟨rfl, rfl⟩)
  by_cases h3 : o = 3; · (subst h3; go_enter Tryd.func59, Tryd.ntmps59; go_wp2; go_ret; exact ⟨rfl, rfl⟩)
  by_cases h6 : o = 6; · (subst h6; go_enter Tryd.func59, Tryd.ntmps59; go_wp2; go_ret; exact ⟨rfl, rfl⟩)
  by_cases h2 : o = 2; · (subst h2; go_enter Tryd.func59, Tryd.ntmps59; go_wp2; go_ret; exact ⟨rfl, rfl⟩)
  by_cases h5 : o = 5; · (subst h5; go_enter Tryd.func59, Tryd.ntmps59; go_wp2; go_ret; exact ⟨rfl, rfl⟩)
  by_cases h7 : o = 7; · (subst h7; go_enter Tryd.func59, Tryd.ntmps59; go_wp2; go_ret; exact ⟨rfl, rfl⟩)
  by_cases h8 : o = 8; · (subst h8; go_enter Tryd.func59, Tryd.ntmps59; go_wp2; go_ret; exact ⟨rfl, rfl⟩)
  by_cases h4 : o = 4; · (subst h4; go_enter Tryd.func59, Tryd.ntmps59; go_wp2; go_ret; exact ⟨rfl, rfl⟩)
  have e : Hid (Tm.arity o = -1) := by show _ = _; simp [Tm.arity, h1, h3, h6, h2, h5, h7, h8, h4]
  have b1 : (o == 1) = false := by simpa using h1
  have b3 : (o == 3) = false := by simpa using h3
  have b6 : (o == 6) = false := by simpa using h6
  have b2 : (o == 2) = false := by simpa using h2
  have b5 : (o == 5) = false := by simpa using h5
  have b7 : (o == 7) = false := by simpa using h7
  have b8 : (o == 8) = false := by simpa using h8
  have b4 : (o == 4) = false := by simpa using h4
  clear h1 h2 h3 h4 h5 h6 h7 h8
  go_enter Tryd.func59, Tryd.ntmps59
  go_wp2
  go_ret
  exact ⟨ret_int e.out.symm, rfl⟩
set_option maxHeartbeats 400000 in
theorem arity_any (o : Int) (w : World) : Calls Tryd.prog 60 #[.int .i64 o] w fun e w' => e = .returned (.int .i64 (Tm.arity o)) ∧ w = w' := by
  by_cases h1 : o = 1; · (subst h1; go_enter Tryd.func60, Tryd.ntmps60; go_wp2; go_ret; exact ⟨rfl, rfl⟩)
  by_cases h3 : o = 3; · (subst h3; go_enter Tryd.func60, Tryd.ntmps60; go_wp2; go_ret; exact ⟨rfl, rfl⟩)
  by_cases h6 : o = 6; · (subst h6; go_enter Tryd.func60, Tryd.ntmps60; go_wp2; go_ret; exact ⟨rfl, rfl⟩)
  by_cases h2 : o = 2; · (subst h2; go_enter Tryd.func60, Tryd.ntmps60; go_wp2; go_ret; exact ⟨rfl, rfl⟩)
  by_cases h5 : o = 5; · (subst h5; go_enter Tryd.func60, Tryd.ntmps60; go_wp2; go_ret; exact ⟨rfl, rfl⟩)
  by_cases h7 : o = 7; · (subst h7; go_enter Tryd.func60, Tryd.ntmps60; go_wp2; go_ret; exact ⟨rfl, rfl⟩)
  by_cases h8 : o = 8; · (subst h8; go_enter Tryd.func60, Tryd.ntmps60; go_wp2; go_ret; exact ⟨rfl, rfl⟩)
  by_cases h4 : o = 4; · (subst h4; go_enter Tryd.func60, Tryd.ntmps60; go_wp2; go_ret; exact ⟨rfl, rfl⟩)
  have e : Hid (Tm.arity o = -1) := by show _ = _; simp [Tm.arity, h1, h3, h6, h2, h5, h7, h8, h4]
  have b1 : (o == 1) = false := by simpa using h1
  have b3 : (o == 3) = false := by simpa using h3
  have b6 : (o == 6) = false := by simpa using h6
  have b2 : (o == 2) = false := by simpa using h2
  have b5 : (o == 5) = false := by simpa using h5
  have b7 : (o == 7) = false := by simpa using h7
  have b8 : (o == 8) = false := by simpa using h8
  have b4 : (o == 4) = false := by simpa using h4
  clear h1 h2 h3 h4 h5 h6 h7 h8
  go_enter Tryd.func60, Tryd.ntmps60
  go_wp2
  go_ret
  exact ⟨ret_int e.out.symm, rfl⟩
theorem order_any (a b : Int) (w : World) : Calls Tryd.prog 44 #[.int .i64 a, .int .i64 b] w fun e w' => e = .returned (.int .i64 (Tm.cmpI a b)) ∧ w = w' := by
  by_cases h1 : a < b
  · have e : Hid (Tm.cmpI a b = -1) := by show _ = _; simp [Tm.cmpI, h1]
    go_enter Tryd.func44, Tryd.ntmps44
    go_wp2
    go_ret
    exact ⟨ret_int e.out.symm, rfl⟩
  · by_cases h2 : b < a
    · have e : Hid (Tm.cmpI a b = 1) := by show _ = _; simp [Tm.cmpI, h1, h2]
      go_enter Tryd.func44, Tryd.ntmps44
      go_wp2
      go_ret
      exact ⟨ret_int e.out.symm, rfl⟩
    · have e : Hid (Tm.cmpI a b = 0) := by show _ = _; simp [Tm.cmpI, h1, h2]
      go_enter Tryd.func44, Tryd.ntmps44
      go_wp2
      go_ret
      exact ⟨ret_int e.out.symm, rfl⟩
theorem cmp_any (a b : Int) (w : World) : Calls Tryd.prog 41 #[.int .i64 a, .int .i64 b] w fun e w' => e = .returned (.int .i64 (Tm.cmpI a b)) ∧ w = w' := by
  by_cases h1 : a < b
  · have e : Hid (Tm.cmpI a b = -1) := by show _ = _; simp [Tm.cmpI, h1]
    go_enter Tryd.func41, Tryd.ntmps41
    go_wp2
    go_ret
    exact ⟨ret_int e.out.symm, rfl⟩
  · by_cases h2 : b < a
    · have e : Hid (Tm.cmpI a b = 1) := by show _ = _; simp [Tm.cmpI, h1, h2]
      go_enter Tryd.func41, Tryd.ntmps41
      go_wp2
      go_ret
      exact ⟨ret_int e.out.symm, rfl⟩
    · have e : Hid (Tm.cmpI a b = 0) := by show _ = _; simp [Tm.cmpI, h1, h2]
      go_enter Tryd.func41, Tryd.ntmps41
      go_wp2
      go_ret
      exact ⟨ret_int e.out.symm, rfl⟩
theorem tmod_lt (a n : Int) (hn : 1 ≤ n) (h : a.tmod n < 0) : a.tmod n + n = a % n := by
  have h0 : a < 0 := by
    rcases Int.lt_or_le a 0 with h' | h'
    · exact h'
    · have := Int.tmod_nonneg n h'; omega
  have := Int.tmod_eq_emod (a := a) (b := n)
  split at this <;> omega
theorem tmod_ge (a n : Int) (hn : 1 ≤ n) (h : 0 ≤ a.tmod n) : a.tmod n = a % n := by
  have := Int.tmod_eq_emod (a := a) (b := n)
  have h3 := Int.emod_lt_of_pos a (show 0 < n by omega)
  split at this <;> omega
set_option maxHeartbeats 400000 in
theorem mod_any (a n : Int) (w : World) (hn : 1 ≤ n) (hn' : n ≤ 9223372036854775807) :
    Calls Tryd.prog 28 #[.int .i64 a, .int .i64 n] w fun e w' => e = .returned (.int .i64 (a % n)) ∧ w = w' := by
  have h3 := Int.emod_lt_of_pos a (show 0 < n by omega)
  have h4 := Int.emod_nonneg a (show n ≠ 0 by omega)
  have h5 := Int.tmod_lt_of_pos a (show 0 < n by omega)
  have h6 := Int.lt_tmod_of_pos a (show 0 < n by omega)
  go_enter Tryd.func28, Tryd.ntmps28
  go_wp2
  · have h : a.tmod n < 0 := by assumption
    go_ret
    exact ⟨ret_int (tmod_lt a n hn h), rfl⟩
  · have h : 0 ≤ a.tmod n := by assumption
    go_ret
    exact ⟨ret_int (tmod_ge a n hn h), rfl⟩
/-- The slice holds the integers es. -/
def Is (w : World) (a : Option Addr) (n : Nat) (es : List Int) : Prop :=
  es.length = n ∧ n ≤ 9223372036854775807 ∧ ∀ i, i < n → ∃ b o, a = some ⟨b, o, none⟩ ∧ w.cell? ⟨b, o + i, none⟩ = some (.int .i64 (es.getD i 0)) ∧ -9223372036854775808 ≤ es.getD i 0 ∧ es.getD i 0 ≤ 9223372036854775807
/-- All blocks of w but block b stand in w' as they stood. -/
structure But (b : Nat) (w w' : World) : Prop where
  os : w'.os = w.os
  tape : w'.tape = w.tape
  output : w'.output = w.output
  size : w.heap.size ≤ w'.heap.size
  block : ∀ k, k < w.heap.size → k ≠ b → w'.heap[k]? = w.heap[k]?

theorem But.refl (b : Nat) (w : World) : But b w w := ⟨rfl, rfl, rfl, Nat.le_refl _, fun _ _ _ => rfl⟩
theorem But.trans {b : Nat} {u v w : World} (h : But b u v) (k : But b v w) : But b u w :=
  ⟨k.os.trans h.os, k.tape.trans h.tape, k.output.trans h.output, Nat.le_trans h.size k.size, fun i hi hb => (k.block i (Nat.lt_of_lt_of_le hi h.size) hb).trans (h.block i hi hb)⟩
theorem But.of_below {b : Nat} {w w' : World} (h : Below w.heap.size w w') : But b w w' := ⟨h.os, h.tape, h.output, h.size, fun k hk _ => h.block k hk⟩
theorem But.drewN {b : Nat} {u w : World} (h : But b u w) (n : Nat) : But b u (w.drewN n) := ⟨h.os, h.tape, h.output, h.size, h.block⟩
theorem But.alloc {b : Nat} {u w : World} (h : But b u w) (o : Obj) : But b u (w.alloc o) :=
  h.trans (But.of_below ((Below.refl _ _).alloc (Nat.le_refl _) o))
theorem But.setCell {b : Nat} {u w : World} (h : But b u w) {p : Addr} (hp : p.block = b) (v : Value) : But b u (w.setCell p v) :=
  h.trans ⟨rfl, rfl, rfl, by simp [World.setCell], fun k _ hk => Below.heap_setCell _ _ _ _ (by omega)⟩
theorem But.setNew {b : Nat} {u w : World} (h : But b u w) {p : Addr} (hp : u.heap.size ≤ p.block) (v : Value) : But b u (w.setCell p v) :=
  ⟨h.os, h.tape, h.output, by simpa [World.setCell] using h.size, fun k hk hb => (Below.heap_setCell _ _ _ _ (by omega)).trans (h.block k hk hb)⟩
theorem But.below {b : Nat} {w w' : World} {B : Nat} (h : But b w w') (hB : B ≤ b) (hs : B ≤ w.heap.size) : Below B w w' :=
  ⟨h.os, h.tape, h.output, h.size, fun k hk => h.block k (by omega) (by omega)⟩
theorem But.cell {b : Nat} {w w' : World} (h : But b w w') {p : Addr} (hp : p.block < w.heap.size) (hb : p.block ≠ b) : w'.cell? p = w.cell? p := World.cell?_of_block (w := w) (h.block p.block hp hb)
theorem But.frozen {b : Nat} {w w' : World} (h : But b w w') {p : Addr} (hp : p.block < w.heap.size) (hb : p.block ≠ b) : w'.frozen? p = w.frozen? p := World.frozen?_of_block (w := w) (h.block p.block hp hb)

/-- Block b holds a deck. -/
def Deck (w : World) (b : Nat) : Prop :=
  ∃ (la : Option Addr) (len cap i : Nat), w.heap[b]? = some (.cells #[.slice la len cap, .int .i64 i] 57 (0, 0)) ∧ i ≤ len ∧ len ≤ 9223372036854775807 ∧
    ∀ j, j < len → ∃ bl ol x, la = some ⟨bl, ol, none⟩ ∧ bl < b ∧ w.cell? ⟨bl, ol + j, none⟩ = some (.int .i64 x)

theorem Deck.lt {w : World} {b : Nat} (h : Deck w b) : b < w.heap.size := by
  obtain ⟨_, _, _, _, h, _⟩ := h; exact lt_of_block h

/-- A deck stays a deck where nothing of w turns. -/
theorem Deck.keep {w w' : World} {b : Nat} (h : Deck w b) (k : ∀ j, j ≤ b → w'.heap[j]? = w.heap[j]?) : Deck w' b := by
  obtain ⟨la, len, cap, i, h1, h2, h3, h4⟩ := h
  refine ⟨la, len, cap, i, (k b (Nat.le_refl _)).trans h1, h2, h3, fun j hj => ?_⟩
  obtain ⟨bl, ol, x, e1, e2, e3⟩ := h4 j hj
  exact ⟨bl, ol, x, e1, e2, (World.cell?_of_block (w := w) (k bl (Nat.le_of_lt e2))).trans e3⟩
theorem Deck.below {w w' : World} {b : Nat} (h : Deck w b) (k : Below w.heap.size w w') : Deck w' b :=
  h.keep fun j hj => k.block j (Nat.lt_of_le_of_lt hj h.lt)
theorem Deck.alloc {w : World} {b : Nat} (h : Deck w b) (o : Obj) : Deck (w.alloc o) b := h.below ((Below.refl _ _).alloc (Nat.le_refl _) o)
theorem Deck.drewN {w : World} {b : Nat} (h : Deck w b) (n : Nat) : Deck (w.drewN n) b := h.keep fun _ _ => rfl

theorem cell_of2 {w : World} {b : Nat} {x y : Value} {T : Nat} (h : w.heap[b]? = some (.cells #[x, y] T (0, 0))) :
    w.cell? ⟨b, 0, none⟩ = some x ∧ w.cell? ⟨b, 1, none⟩ = some y ∧ w.frozen? ⟨b, 1, none⟩ = false ∧ w.frozen? ⟨b, 0, none⟩ = false := by
  simp [World.cell?, World.frozen?, h]

theorem Deck.step {w : World} {b : Nat} {la : Option Addr} {len cap i : Nat} (hd : Deck w b) (h : w.heap[b]? = some (.cells #[.slice la len cap, .int .i64 i] 57 (0, 0))) (hi : i < len) {n : Nat} :
    Deck ((w.drewN n).setCell ⟨b, 1, none⟩ (.int .i64 ((i : Int) + 1))) b := by
  obtain ⟨la', len', cap', i', h1, h2, h3, h4⟩ := hd
  have hb : (w.drewN n).heap[b]? = some (.cells #[.slice la len cap, .int .i64 i] 57 (0, 0)) := h
  rw [h] at h1
  simp only [Option.some.injEq, Obj.cells.injEq, Array.mk.injEq, List.cons.injEq, Value.slice.injEq, Value.int.injEq, true_and, and_true] at h1
  obtain ⟨⟨rfl, rfl, rfl⟩, _⟩ := h1
  refine ⟨la, len, cap, i + 1, ?_, hi, h3, fun j hj => ?_⟩
  · simp only [World.setCell, Array.getElem?_modify, hb, if_true]
    rfl
  · obtain ⟨bl, ol, x, e1, e2, e3⟩ := h4 j hj
    exact ⟨bl, ol, x, e1, e2, (World.cell?_of_block (w := w) (Below.heap_setCell _ _ _ bl (by show bl ≠ b; omega))).trans e3⟩

def NextPost (b : Nat) (n : Int) (w : World) (e : Ending) (w' : World) : Prop := ∃ r : Int, 0 ≤ r ∧ r < n ∧ e = .returned (.int .i64 r) ∧ Deck w' b ∧ But b w w' ∧ w'.heap.size = w.heap.size

set_option maxHeartbeats 400000 in
theorem next_any (b : Nat) (n : Int) (w : World) (hd : Deck w b) (hn : 1 ≤ n) (hn' : n ≤ 9223372036854775807) :
    Calls Tryd.prog 15 #[.pointer (some ⟨b, 0, none⟩), .int .i64 n] w (NextPost b n w) := by
  obtain ⟨la, len, cap, i, h1, h2, h3, h4⟩ := hd
  obtain ⟨hL, hA, hf, _⟩ := cell_of2 h1
  by_cases h : i < len
  · obtain ⟨bl, ol, x, rfl, e2, e3⟩ := h4 i h
    have hm := Int.emod_lt_of_pos x (show 0 < n by omega)
    have hm2 := Int.emod_nonneg x (show n ≠ 0 by omega)
    have hd : decide ((len : Int) ≤ i) = false := by simp; omega
    have hne : bl ≠ b := by omega
    have H1 := Lib.hid h1
    have H4 := Lib.hid h4
    clear h1 h4
    go_enter Tryd.func15, Tryd.ntmps15
    go_wp2
    go_quiet (fail)
    go_wp2
    have hs0 : IntKind.i64.wrap (i : Int) = (i : Int) := IntWalk.i64_in _ (by omega)
    have hs1 : (i : Int) < (len : Int) := by omega
    have hs2 : (0 : Int) ≤ (i : Int) := by omega
    go_quiet ((go_at_call 28; go_must (exact quiet_at (mod_any x n _ hn hn') ⟨_, rfl⟩)))
    go_wp2
    go_ret
    refine ⟨x % n, hm2, hm, rfl, ?_, (((But.refl _ _).drewN _).setCell (p := ⟨b, 1, none⟩) rfl _).drewN _, by simp [World.setCell]⟩
    refine Deck.drewN ?_ _
    exact Deck.step ⟨_, len, cap, i, H1.out, h2, h3, H4.out⟩ H1.out h
  · have hi : (len : Int) ≤ i := by omega
    have H1 := Lib.hid h1
    have H4 := Lib.hid h4
    clear h1 h4
    go_enter Tryd.func15, Tryd.ntmps15
    go_wp2
    go_quiet (fail)
    go_wp2
    go_ret
    refine ⟨0, by omega, by omega, rfl, ?_, (But.refl _ _).drewN _, rfl⟩
    exact Deck.drewN ⟨la, len, cap, i, H1.out, h2, h3, H4.out⟩ _
theorem Deck.made {w : World} {la : Option Addr} {len cap : Nat} {l : List Int} (h : Is w la len l) : Deck (w.alloc (.cells #[.slice la len cap, .int .i64 0] 57)) w.heap.size := by
  refine ⟨la, len, cap, 0, alloc_new _ _, by omega, h.2.1, fun j hj => ?_⟩
  obtain ⟨b, o, e1, e2, _⟩ := h.2.2 j hj
  exact ⟨b, o, _, e1, lt_of_cell e2, ((pure_alloc w _).cell (p := ⟨b, o + j, none⟩) (lt_of_cell e2)).trans e2⟩
theorem new_any (la : Option Addr) (len cap : Nat) (w : World) : Calls Tryd.prog 8 #[.slice la len cap] w fun e w' => e = .returned (.pointer (some ⟨w.heap.size, 0, none⟩)) ∧ w.alloc (.cells #[.slice la len cap, .int .i64 0] 57) = w' := by
  go_enter Tryd.func8, Tryd.ntmps8
  go_wp2
  go_ret
  exact ⟨rfl, rfl⟩
end Go.Proofs.YtkgbjoepjcenlaaDoor
