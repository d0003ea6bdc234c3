/- The walk of make2.Term: terms drawn from a deck. -/
import Derived.Test.YtkgbjoepjcenlaaDoorWs
namespace Go.Proofs.YtkgbjoepjcenlaaDoor
open Go.RowKit
def TmPost (b lv : Nat) (w : World) (e : Ending) (w' : World) : Prop := ∃ (t : Tm) (a : Option Addr) (n c : Nat), e = .returned (.agg #[.int .i64 t.op, .int .i64 t.num, .slice a n c]) ∧ Tm.shaped t (lv + 1) = true ∧ (TR (fun k => w.heap.size ≤ k) w' t a n ∧ n ≤ c) ∧ Deck w' b ∧ But b w w'
def nineA : Array Value := #[.int .i64 0, .int .i64 1, .int .i64 50, .int .i64 99, .int .i64 100, .int .i64 101, .int .i64 102, .int .i64 103, .int .i64 1000]
def nineB : Array Value := #[.int .i64 0, .int .i64 0, .int .i64 2, .int .i64 1, .int .i64 4, .int .i64 2, .int .i64 1, .int .i64 2, .int .i64 2]
theorem nineA_at (q : Nat) (h : q < 9) : ∃ x : Int, nineA[q]? = some (.int .i64 x) ∧ 0 ≤ x ∧ x ≤ 1000 := by
  rcases (show q = 0 ∨ q = 1 ∨ q = 2 ∨ q = 3 ∨ q = 4 ∨ q = 5 ∨ q = 6 ∨ q = 7 ∨ q = 8 by omega) with rfl | rfl | rfl | rfl | rfl | rfl | rfl | rfl | rfl
  all_goals exact ⟨_, rfl, by omega, by omega⟩
theorem nineB_at (q : Nat) (h : q < 7) : ∃ x : Nat, nineB[2 + q]? = some (.int .i64 x) ∧ x ≤ 4 ∧ (x : Int) = Tm.arity (2 + q) := by
  rcases (show q = 0 ∨ q = 1 ∨ q = 2 ∨ q = 3 ∨ q = 4 ∨ q = 5 ∨ q = 6 by omega) with rfl | rfl | rfl | rfl | rfl | rfl | rfl
  · exact ⟨2, rfl, by omega, rfl⟩
  · exact ⟨1, rfl, by omega, rfl⟩
  · exact ⟨4, rfl, by omega, rfl⟩
  · exact ⟨2, rfl, by omega, rfl⟩
  · exact ⟨1, rfl, by omega, rfl⟩
  · exact ⟨2, rfl, by omega, rfl⟩
  · exact ⟨2, rfl, by omega, rfl⟩
theorem But.tr' {b : Nat} {w w' : World} (h : But b w w') {t : Tm} {a : Option Addr} {n lo : Nat} (hT : TR (fun k => lo ≤ k) w t a n) (hlo : b < lo) : TR (fun k => lo ≤ k) w' t a n := hT.keep fun k hk hl => ⟨h.block k hl (by have h2 : lo ≤ k := hk; omega), hk⟩
/-- All blocks of w but X and b stand as they stood. -/
structure But2 (X b : Nat) (w w' : World) : Prop where
  os : w'.os = w.os
  tape : w'.tape = w.tape
  output : w'.output = w.output
  size : w.heap.size ≤ w'.heap.size
  block : ∀ k, k < w.heap.size → k ≠ X → k ≠ b → w'.heap[k]? = w.heap[k]?
theorem But2.refl (X b : Nat) (w : World) : But2 X b w w := ⟨rfl, rfl, rfl, Nat.le_refl _, fun _ _ _ _ => rfl⟩
theorem But2.but {X b : Nat} {u v w : World} (h : But2 X b u v) (k : But b v w) : But2 X b u w :=
  ⟨k.os.trans h.os, k.tape.trans h.tape, k.output.trans h.output, Nat.le_trans h.size k.size, fun i hi h1 h2 => (k.block i (Nat.lt_of_lt_of_le hi h.size) h2).trans (h.block i hi h1 h2)⟩
theorem But2.grown {X b : Nat} {u w w' : World} {e size : Nat} {v : Value} {k : Nat} {xs : List Value} (h : But2 X b u w) (hown : w.ownsRow u.heap.size e size v k xs) (hgr : w.grownBy w' v.ownBlock) : But2 X b u w' :=
  ⟨hgr.os.trans h.os, hgr.tape.trans h.tape, hgr.output.trans h.output, Nat.le_trans h.size hgr.size, fun i hi hx hb => (hgr.block i (Nat.lt_of_lt_of_le hi h.size) fun e => by have := (own_lt hown e.symm).2.1; omega).trans (h.block i hi hx hb)⟩
theorem But2.setX {X b : Nat} {u w : World} (h : But2 X b u w) (o : Nat) (v : Value) : But2 X b u (w.setCell ⟨X, o, none⟩ v) :=
  ⟨h.os, h.tape, h.output, by simpa [World.setCell] using h.size, fun k hk hx hb => (Below.heap_setCell _ _ _ _ hx).trans (h.block k hk hx hb)⟩
theorem OutT.since {W W' : World} {B X : Nat} {v : Value} {es : List Elem} {ts : List Tm} (h : OutT W B B X v es ts) (hk : ∀ b, B ≤ b → b < W.heap.size → W'.heap[b]? = W.heap[b]?) : OutT W' B B X v es ts :=
  ⟨h.len, own_keep h.row (fun g hg => hk g (own_lt h.row hg).2.1 (own_lt h.row hg).1), fun i h1 h2 => ⟨(h.each i h1 h2).1, (h.each i h1 h2).2.1, (h.each i h1 h2).2.2.keep fun b hb hl => ⟨hk b hb.1 hl, hb⟩⟩⟩
theorem Tm.shapedL_snoc {l : List Tm} {t : Tm} {d : Nat} (h : Tm.shapedL l d = true) (ht : Tm.shaped t d = true) : Tm.shapedL (l ++ [t]) d = true := by
  rw [Tm.shapedL_iff] at h ⊢
  intro x hx
  rcases List.mem_append.1 hx with hx | hx
  · exact h x hx
  · simp at hx; rw [hx]; exact ht
set_option maxRecDepth 100000 in
set_option maxHeartbeats 3200000 in
theorem term_any (lv : Nat) : ∀ (b : Nat) (w : World), Deck w b → lv ≤ 100 → Calls Tryd.prog 9 #[.pointer (some ⟨b, 0, none⟩), .int .i64 lv] w (TmPost b lv w) := by
  induction lv with
  | zero =>
    intro b w hd _
    have hlt := hd.lt
    have HD1 := Lib.hid (hd.alloc (.cells #[.int .i64 0, .int .i64 0, .slice none 0 0] 28))
    have HB1 : Hid (But b w (w.alloc (.cells #[.int .i64 0, .int .i64 0, .slice none 0 0] 28))) := (But.refl _ _).alloc _
    have HR1 := Lib.hid (alloc_new w (.cells #[.int .i64 0, .int .i64 0, .slice none 0 0] 28))
    go_enter Tryd.func9, Tryd.ntmps9
    go_upto_region 2 with fail
    generalize w.alloc (.cells #[.int .i64 0, .int .i64 0, .slice none 0 0] 28) = w1 at *
    have PA := pure_alloc w1 (.cells #[.int .i64 0, .int .i64 1, .int .i64 50, .int .i64 99, .int .i64 100, .int .i64 101, .int .i64 102, .int .i64 103, .int .i64 1000] 3)
    have N2 : (w1.alloc (.cells #[.int .i64 0, .int .i64 1, .int .i64 50, .int .i64 99, .int .i64 100, .int .i64 101, .int .i64 102, .int .i64 103, .int .i64 1000] 3)).heap[w1.heap.size]? = some (.cells nineA 3 (0, 0)) := alloc_new _ _
    have HD2 := Lib.hid (HD1.out.alloc (.cells #[.int .i64 0, .int .i64 1, .int .i64 50, .int .i64 99, .int .i64 100, .int .i64 101, .int .i64 102, .int .i64 103, .int .i64 1000] 3))
    have HB2 := Lib.hid (HB1.out.alloc (.cells #[.int .i64 0, .int .i64 1, .int .i64 50, .int .i64 99, .int .i64 100, .int .i64 101, .int .i64 102, .int .i64 103, .int .i64 1000] 3))
    have HR2 := Lib.hid (Below.keep PA HR1.out (lt_of_block HR1.out))
    have hsz2 := lt_of_block HR1.out
    clear PA
    go_wp2_with fail
    generalize w1.alloc (.cells #[.int .i64 0, .int .i64 1, .int .i64 50, .int .i64 99, .int .i64 100, .int .i64 101, .int .i64 102, .int .i64 103, .int .i64 1000] 3) = w2 at *
    have HN2 := Lib.hid N2
    have hb2 := lt_of_block N2
    clear N2
    refine (next_any b 9 w2 HD2.out (by omega) (by omega)).mono ?_
    rintro e w3 ⟨r, hr0, hr1, rfl, hD3, hB3, hs3⟩
    obtain ⟨q, rfl⟩ := Int.eq_ofNat_of_zero_le hr0
    obtain ⟨x, hx, hx0, hx1⟩ := nineA_at q (by omega)
    have cq := (cell_of_arr ((hB3.block _ hb2 (by omega)).trans HN2.out) q).trans hx
    have R3 := (hB3.block w.heap.size (lt_of_block HR2.out) (by omega)).trans HR2.out
    have HD3 := Lib.hid hD3
    have HB3 := Lib.hid (HB2.out.trans hB3)
    have r0 := cell_of_arr R3 0
    have r1 := cell_of_arr R3 1
    have r2 := cell_of_arr R3 2
    simp at r0 r1 r2
    have f0 := frozen_of_arr R3 0
    have f1 := frozen_of_arr R3 1
    have f2 := frozen_of_arr R3 2
    have HR3 := Lib.hid R3
    clear hD3 hB3 hs3 hx R3 HD2 HB2 HR2 HN2
    go_wp2_with fail
    obtain ⟨S1, S2, S3⟩ := put3 HR3.out (.int .i64 1) (.int .i64 x) (.slice none 0 0) _ rfl
    have p0 := cell_of_arr S1 0
    have p1 := cell_of_arr S1 1
    have p2 := cell_of_arr S1 2
    simp at p0 p1 p2
    refine bodyPost_ret (v := .agg #[.int .i64 1, .int .i64 x, .slice none 0 0]) (by simp [results, Tryd.results9, go_sem, p0, p1, p2]) rfl ?_
    refine ⟨Tm.mk 1 x [], none, 0, 0, rfl, by simp [Tm.shaped, Tm.shapedL, Tm.okN, Tm.arity, hx0, hx1], ⟨tr_name _ _ _, Nat.le_refl _⟩, HD3.out.keep fun j hj => S2 j (by omega), ((HB3.out.setNew (p := ⟨w.heap.size, 0, none⟩) (Nat.le_refl _) _).setNew (p := ⟨w.heap.size, 1, none⟩) (Nat.le_refl _) _).setNew (p := ⟨w.heap.size, 2, none⟩) (Nat.le_refl _) _⟩
  | succ lv ih =>
    intro b w hd hlv
    have hlt := hd.lt
    have HD0 := Lib.hid (hd.alloc (.cells #[.int .i64 0, .int .i64 0, .slice none 0 0] 28))
    have HB0 : Hid (But b w (w.alloc (.cells #[.int .i64 0, .int .i64 0, .slice none 0 0] 28))) := (But.refl _ _).alloc _
    have HR0 := Lib.hid (alloc_new w (.cells #[.int .i64 0, .int .i64 0, .slice none 0 0] 28))
    have HIH := Lib.hid ih
    have hcast : ((lv + 1 : Nat) : Int) = (lv : Int) + 1 := by omega
    rw [hcast]
    have hle : ¬ ((lv : Int) + 1 ≤ 0) := by omega
    have hleb : decide ((lv : Int) + 1 ≤ 0) = false := decide_eq_false hle
    clear ih hcast
    go_enter Tryd.func9, Tryd.ntmps9
    go_wp2_with fail
    generalize w.alloc (.cells #[.int .i64 0, .int .i64 0, .slice none 0 0] 28) = w0 at *
    refine (next_any b 3 w0 HD0.out (by omega) (by omega)).mono ?_
    rintro e w1 ⟨r, hr0, hr1, rfl, hD1, hB1, hs1⟩
    have HD1 := Lib.hid hD1
    have HB1 := Lib.hid (HB0.out.trans hB1)
    have HR1 := Lib.hid ((hB1.block w.heap.size (lt_of_block HR0.out) (by omega)).trans HR0.out)
    clear hD1 hB1 hs1 HD0 HB0 HR0
    by_cases hr : r = 0
    · have hrb : (r == 0) = true := by simpa using hr
      clear hr
      go_upto_region 2 with fail
      have PA := pure_alloc w1 (.cells #[.int .i64 0, .int .i64 1, .int .i64 50, .int .i64 99, .int .i64 100, .int .i64 101, .int .i64 102, .int .i64 103, .int .i64 1000] 3)
      have N2 : (w1.alloc (.cells #[.int .i64 0, .int .i64 1, .int .i64 50, .int .i64 99, .int .i64 100, .int .i64 101, .int .i64 102, .int .i64 103, .int .i64 1000] 3)).heap[w1.heap.size]? = some (.cells nineA 3 (0, 0)) := alloc_new _ _
      have HD2 := Lib.hid (HD1.out.alloc (.cells #[.int .i64 0, .int .i64 1, .int .i64 50, .int .i64 99, .int .i64 100, .int .i64 101, .int .i64 102, .int .i64 103, .int .i64 1000] 3))
      have HB2 := Lib.hid (HB1.out.alloc (.cells #[.int .i64 0, .int .i64 1, .int .i64 50, .int .i64 99, .int .i64 100, .int .i64 101, .int .i64 102, .int .i64 103, .int .i64 1000] 3))
      have HR2 := Lib.hid (Below.keep PA HR1.out (lt_of_block HR1.out))
      have hsz2 := lt_of_block HR1.out
      clear PA
      go_wp2_with fail
      generalize w1.alloc (.cells #[.int .i64 0, .int .i64 1, .int .i64 50, .int .i64 99, .int .i64 100, .int .i64 101, .int .i64 102, .int .i64 103, .int .i64 1000] 3) = w2 at *
      have HN2 := Lib.hid N2
      have hb2 := lt_of_block N2
      clear N2
      refine (next_any b 9 w2 HD2.out (by omega) (by omega)).mono ?_
      rintro e w3 ⟨r, hr0, hr1, rfl, hD3, hB3, hs3⟩
      obtain ⟨q, rfl⟩ := Int.eq_ofNat_of_zero_le hr0
      obtain ⟨x, hx, hx0, hx1⟩ := nineA_at q (by omega)
      have cq := (cell_of_arr ((hB3.block _ hb2 (by omega)).trans HN2.out) q).trans hx
      have R3 := (hB3.block w.heap.size (lt_of_block HR2.out) (by omega)).trans HR2.out
      have HD3 := Lib.hid hD3
      have HB3 := Lib.hid (HB2.out.trans hB3)
      have r0 := cell_of_arr R3 0
      have r1 := cell_of_arr R3 1
      have r2 := cell_of_arr R3 2
      simp at r0 r1 r2
      have f0 := frozen_of_arr R3 0
      have f1 := frozen_of_arr R3 1
      have f2 := frozen_of_arr R3 2
      have HR3 := Lib.hid R3
      clear hD3 hB3 hs3 hx R3 HD2 HB2 HR2 HN2
      go_wp2_with fail
      obtain ⟨S1, S2, S3⟩ := put3 HR3.out (.int .i64 1) (.int .i64 x) (.slice none 0 0) _ rfl
      have p0 := cell_of_arr S1 0
      have p1 := cell_of_arr S1 1
      have p2 := cell_of_arr S1 2
      simp at p0 p1 p2
      refine bodyPost_ret (v := .agg #[.int .i64 1, .int .i64 x, .slice none 0 0]) (by simp [results, Tryd.results9, go_sem, p0, p1, p2]) rfl ?_
      refine ⟨Tm.mk 1 x [], none, 0, 0, rfl, by simp [Tm.shaped, Tm.shapedL, Tm.okN, Tm.arity, hx0, hx1], ⟨tr_name _ _ _, Nat.le_refl _⟩, HD3.out.keep fun j hj => S2 j (by omega), ((HB3.out.setNew (p := ⟨w.heap.size, 0, none⟩) (Nat.le_refl _) _).setNew (p := ⟨w.heap.size, 1, none⟩) (Nat.le_refl _) _).setNew (p := ⟨w.heap.size, 2, none⟩) (Nat.le_refl _) _⟩
    have hrb : (r == 0) = false := by simpa using hr
    clear hr
    go_wp2_with fail
    refine (next_any b 7 w1 HD1.out (by omega) (by omega)).mono ?_
    rintro e w2 ⟨r2, hq0, hq1, rfl, hD2, hB2, hs2⟩
    obtain ⟨q, rfl⟩ := Int.eq_ofNat_of_zero_le hq0
    obtain ⟨n, hnB, hn4, hna⟩ := nineB_at q (by omega)
    have OUT : Hid (Deck (w2.alloc (.cells #[.int .i64 (2 + (q : Int)), .int .i64 0, .slice none 0 0] 28)) b) := hD2.alloc _
    have HB2 := Lib.hid ((HB1.out.trans hB2).alloc (.cells #[.int .i64 (2 + (q : Int)), .int .i64 0, .slice none 0 0] 28))
    have HX2 := Lib.hid (alloc_new w2 (.cells #[.int .i64 (2 + (q : Int)), .int .i64 0, .slice none 0 0] 28))
    have HR2 := Lib.hid (alloc_keep (o' := (.cells #[.int .i64 (2 + (q : Int)), .int .i64 0, .slice none 0 0] 28)) ((hB2.block w.heap.size (lt_of_block HR1.out) (by omega)).trans HR1.out))
    have hw2 := (HB1.out.trans hB2).size
    have hRl : w.heap.size < w2.heap.size := Nat.lt_of_lt_of_le (lt_of_block HR1.out) hB2.size
    have HNA := Lib.hid hna
    clear hD2 hB2 hs2 hq0 hna
    go_upto_region 4 with fail
    generalize w2.alloc (.cells #[.int .i64 (2 + (q : Int)), .int .i64 0, .slice none 0 0] 28) = w3 at *
    have PB := pure_alloc w3 (.cells #[.int .i64 0, .int .i64 0, .int .i64 2, .int .i64 1, .int .i64 4, .int .i64 2, .int .i64 1, .int .i64 2, .int .i64 2] 3)
    have NB : (w3.alloc (.cells #[.int .i64 0, .int .i64 0, .int .i64 2, .int .i64 1, .int .i64 4, .int .i64 2, .int .i64 1, .int .i64 2, .int .i64 2] 3)).heap[w3.heap.size]? = some (.cells nineB 3 (0, 0)) := alloc_new _ _
    have cB := (cell_of_arr NB (2 + q)).trans hnB
    have HD4 := Lib.hid (OUT.out.alloc (.cells #[.int .i64 0, .int .i64 0, .int .i64 2, .int .i64 1, .int .i64 4, .int .i64 2, .int .i64 1, .int .i64 2, .int .i64 2] 3))
    have HB4 := Lib.hid (HB2.out.alloc (.cells #[.int .i64 0, .int .i64 0, .int .i64 2, .int .i64 1, .int .i64 4, .int .i64 2, .int .i64 1, .int .i64 2, .int .i64 2] 3))
    have HX4 := Lib.hid (Below.keep PB HX2.out (lt_of_block HX2.out))
    have HR4 := Lib.hid (Below.keep PB HR2.out (lt_of_block HR2.out))
    have x0 := cell_of_arr HX2.out 0
    have x1 := cell_of_arr HX2.out 1
    have x2 := cell_of_arr HX2.out 2
    simp at x0 x1 x2
    have hx3 := lt_of_cell x0
    have hq2 : (2 : Int) + (q : Int) < 9 := by omega
    have hq3 : (0 : Int) ≤ 2 + (q : Int) := by omega
    have hq4 : ((2 : Int) + (q : Int)).toNat = 2 + q := by omega
    clear PB NB OUT HB2 HX2 HR2 HD1 HB1 HR1 hnB
    go_upto_region 5 with fail
    have hs4 : (w3.alloc (.cells #[.int .i64 0, .int .i64 0, .int .i64 2, .int .i64 1, .int .i64 4, .int .i64 2, .int .i64 1, .int .i64 2, .int .i64 2] 3)).heap.size = w3.heap.size + 1 := by simp
    generalize w3.alloc (.cells #[.int .i64 0, .int .i64 0, .int .i64 2, .int .i64 1, .int .i64 4, .int .i64 2, .int .i64 1, .int .i64 2, .int .i64 2] 3) = w4 at *
    clear cB x0 x1 x2 hq2 hq3 hq4
    have hXb : w2.heap.size ≠ b := by omega
    have hX4 : w2.heap.size < w4.heap.size := by omega
    have hbw : b < w4.heap.size := by omega
    have hRw : w.heap.size < w4.heap.size := by omega
    go_wp2_with fail
    go_loopw [7] (fun i W => ∃ (j : Nat) (v : Value) (es : List Elem) (ts : List Tm), i = .int .i64 j ∧ j ≤ n ∧ W.heap[w2.heap.size]? = some (.cells #[.int .i64 (2 + (q : Int)), .int .i64 0, v] 28 (0, 0)) ∧ OutT W w4.heap.size w4.heap.size (w2.heap.size) v es ts ∧ ts.length = j ∧ Tm.shapedL ts (lv + 1) = true ∧ Deck W b ∧ But2 (w2.heap.size) b w4 W) (fun i _ => n - (intOf i).toNat)
    case atStart => exact ⟨0, _, [], [], rfl, by omega, HX4.out, OutT.nil _ _ _ _, rfl, rfl, HD4.out, But2.refl _ _ _⟩
    case round =>
      obtain ⟨j, v, es, ts, rfl, hj, hX, hO, hlen, hsh, hD, hB⟩ := hrel
      have hXl := lt_of_block hX
      have hsB := hB.size
      have hoX : v.ownBlock ≠ some (w2.heap.size) := fun e => by have := (own_lt hO.row e).2.1; omega
      by_cases hjn : j < n
      · have hoL : ∀ g, v.ownBlock = some g → g < wr.heap.size := fun g e => (own_lt hO.row e).1
        have HOL := Lib.hid hoL
        have HX := Lib.hid hX
        have HO := Lib.hid hO
        have HLE := Lib.hid hlen
        have HSH := Lib.hid hsh
        have HD := Lib.hid hD
        have HB := Lib.hid hB
        have x2 := cell_of_arr hX 2
        simp at x2
        have hlt' : (j : Int) < n := by omega
        clear hX hO hlen hsh hD hB hoL
        go_upto_region 8 with fail
        have hsum : IntKind.i64.wrap (lv : Int) = (lv : Int) := IntWalk.i64_in _ ⟨by omega, by omega⟩
        refine wp_region_held_drew (S := (fun _ => True)) (by kernel_rfl) trivial (fun hHeld => ?_)
        refine wpAnyH_take (i := 0) (v := ?_) rfl (by kernel_rfl) (by kernel_rfl) (by kernel_rfl) (fun _ _ _ h => h) (Or.inl ⟨by rfl, ?_⟩) hHeld ?_
        rotate_left
        · (intro W hSw; (try dsimp only at hSw); go_simp; try with_reducible rfl)
        try simp only [Act.put, List.setIfInBounds_toArray, List.set_cons_zero, List.set_cons_succ, List.getElem_toArray, List.getElem_cons_succ, List.getElem_cons_zero]
        refine wpAnyH_take (i := 2) (v := ?_) rfl (by kernel_rfl) (by kernel_rfl) (by kernel_rfl) (fun _ _ _ h => h) (Or.inl ⟨by rfl, ?_⟩) hHeld ?_
        rotate_left
        · (intro W hSw; (try dsimp only at hSw); go_simp; try with_reducible rfl)
        try simp only [Act.put, List.setIfInBounds_toArray, List.set_cons_zero, List.set_cons_succ, List.getElem_toArray, List.getElem_cons_succ, List.getElem_cons_zero]
        refine wpAnyH_take (i := 3) (v := ?_) rfl (by kernel_rfl) (by kernel_rfl) (by kernel_rfl) (fun _ _ _ h => h) (Or.inl ⟨by rfl, ?_⟩) hHeld ?_
        rotate_left
        · (intro W hSw; (try dsimp only at hSw); go_simp; try with_reducible rfl)
        try simp only [Act.put, List.setIfInBounds_toArray, List.set_cons_zero, List.set_cons_succ, List.getElem_toArray, List.getElem_cons_succ, List.getElem_cons_zero]
        refine wpAnyH_take (i := 4) (v := ?_) rfl (by kernel_rfl) (by kernel_rfl) (by kernel_rfl) (fun _ _ _ h => h) (Or.inl ⟨by rfl, ?_⟩) hHeld ?_
        rotate_left
        · (intro W hSw; (try dsimp only at hSw); go_simp; try with_reducible rfl)
        try simp only [Act.put, List.setIfInBounds_toArray, List.set_cons_zero, List.set_cons_succ, List.getElem_toArray, List.getElem_cons_succ, List.getElem_cons_zero]
        refine wpAnyH_ready (rs := [1, 5]) (by kernel_rfl) (by simp) ?_
        refine AllReadyH.cons rfl (fun K1 hK1 => ?_) (AllReadyH.cons rfl (fun K1 hK1 => ?_) AllReadyH.nil)
        · go_simp
          refine hK1.out _ _ hHeld (fun hHeld => ?_)
          clear hK1
          try simp only [Act.put, List.setIfInBounds_toArray, List.set_cons_zero, List.set_cons_succ, List.getElem_toArray, List.getElem_cons_succ, List.getElem_cons_zero]
          refine wpAnyH_ready (rs := [5]) (by kernel_rfl) (by simp) ?_
          refine AllReadyH.cons rfl (fun K1 hK1 => ?_) AllReadyH.nil
          go_simp
          refine (HIH.out b wr.drew (HD.out.drewN 1) (by omega)).mono ?_
          rintro e w5 ⟨t, ra, rn, rc, rfl, hst, ⟨hTR, hrc⟩, hD5, hB5⟩
          have hB5' : But b wr w5 := ((But.refl b wr).drewN 1).trans hB5
          have x5 := (hB5'.cell (p := ⟨w2.heap.size, 2, none⟩) hXl (by omega)).trans x2
          have HTR : Hid (TR (fun k => wr.heap.size ≤ k) w5 t ra rn) := hTR
          have HST := Lib.hid hst
          have HD5 := Lib.hid hD5
          have HB5 := Lib.hid hB5'
          clear hst hTR hD5 hB5 hB5'
          refine hK1.out _ _ trivial (fun hHeld => ?_)
          clear hK1
          try simp only [Act.put, List.setIfInBounds_toArray, List.set_cons_zero, List.set_cons_succ, List.getElem_toArray, List.getElem_cons_succ, List.getElem_cons_zero]
          refine wpAnyH_ready (rs := [6]) (by kernel_rfl) (by simp) ?_
          refine AllReadyH.cons rfl (fun K1 hK1 => ?_) AllReadyH.nil
          go_simp
          have PB := pure_alloc w5 (.cells #[.int .i64 t.op, .int .i64 t.num, .slice ra rn rc] 28)
          have HNB := Lib.hid (alloc_new w5 (.cells #[.int .i64 t.op, .int .i64 t.num, .slice ra rn rc] 28))
          have x6 := (PB.cell (p := ⟨w2.heap.size, 2, none⟩) (lt_of_cell x5)).trans x5
          have HTB := Lib.hid (HTR.out.below PB)
          have HD6 := Lib.hid (HD5.out.below PB)
          have HB6 := Lib.hid (HB5.out.alloc (.cells #[.int .i64 t.op, .int .i64 t.num, .slice ra rn rc] 28))
          have hab : w5.heap.size < (w5.alloc (.cells #[.int .i64 t.op, .int .i64 t.num, .slice ra rn rc] 28)).heap.size := by simp
          have hw25 := HB5.out.size
          refine hK1.out _ _ trivial (fun hHeld => ?_)
          clear hK1
          try simp only [Act.put, List.setIfInBounds_toArray, List.set_cons_zero, List.set_cons_succ, List.getElem_toArray, List.getElem_cons_succ, List.getElem_cons_zero]
          clear PB
          generalize w5.alloc (.cells #[.int .i64 t.op, .int .i64 t.num, .slice ra rn rc] 28) = w6 at *
          refine wpAnyH_ready (rs := [7]) (by kernel_rfl) (by simp) ?_
          refine AllReadyH.cons rfl (fun K1 hK1 => ?_) AllReadyH.nil
          have O6 := HO.out.since (W' := w6) fun k h1 h2 => HB6.out.block k h2 (by omega)
          obtain ⟨v', w7, hrun, hO7, hgr, hob, hoX'⟩ := O6.push (c := 1) (e := ⟨t.op, t.num, ra, rn, rc⟩) (t := t) HNB.out rfl rfl hrc (HTB.out.imp fun k hk _ => ⟨by have h2 : wr.heap.size ≤ k := hk; omega, by have h2 : wr.heap.size ≤ k := hk; omega, fun e => by have h1 := HOL.out k e; have h2 : wr.heap.size ≤ k := hk; omega⟩) (by have h1 := HLE.out; omega) (by omega) hoX (by omega)
          obtain ⟨va, vn, vc, hv'⟩ : ∃ va vn vc, v' = Value.slice va vn vc := by
            obtain ⟨a, c, h⟩ := own_form hO7.row
            exact ⟨a, _, c, h⟩
          subst hv'
          have X7 : w7.heap[w2.heap.size]? = some (.cells #[.int .i64 (2 + (q : Int)), .int .i64 0, v] 28 (0, 0)) := (hgr.block _ (by omega) (fun e => hoX e.symm)).trans ((HB6.out.block _ hXl hXb).trans HX.out)
          have y2 := cell_of_arr X7 2
          have y2f := frozen_of_arr X7 2
          simp at y2
          have HB7 := Lib.hid ((HB.out.but HB6.out).grown O6.row hgr)
          have HD7 := Lib.hid (HD6.out.keep (w' := w7) fun k hk => hgr.block k (by omega) (fun e => by have h1 := (own_lt O6.row e.symm).2.1; omega))
          have HX7 := Lib.hid X7
          have HO7 := Lib.hid hO7
          clear O6 hO7 X7 hob hgr
          rw [if_pos (by rfl)]
          refine wp_app _ _ 23 rfl rfl rfl hrun ?_
          refine hK1.out _ _ trivial (fun hHeld => ?_)
          clear hK1
          try simp only [Act.put, List.setIfInBounds_toArray, List.set_cons_zero, List.set_cons_succ, List.getElem_toArray, List.getElem_cons_succ, List.getElem_cons_zero]
          clear hrun
          refine wpAnyH_take (i := 8) (v := ?_) rfl (by kernel_rfl) (by kernel_rfl) (by kernel_rfl) (fun _ _ _ h => h) (Or.inl ⟨by rfl, ?_⟩) hHeld ?_
          rotate_left
          · (intro W hSw; (try dsimp only at hSw); go_simp; try with_reducible rfl)
          try simp only [Act.put, List.setIfInBounds_toArray, List.set_cons_zero, List.set_cons_succ, List.getElem_toArray, List.getElem_cons_succ, List.getElem_cons_zero]
          refine wpAnyH_ready (rs := [9]) (by kernel_rfl) (by simp) ?_
          refine AllReadyH.cons rfl (fun K1 hK1 => ?_) AllReadyH.nil
          go_simp
          refine hK1.out _ _ trivial (fun hHeld => ?_)
          clear hK1
          try simp only [Act.put, List.setIfInBounds_toArray, List.set_cons_zero, List.set_cons_succ, List.getElem_toArray, List.getElem_cons_succ, List.getElem_cons_zero]
          refine wpAnyH_done (by kernel_rfl) ?_ _
          try simp only [Act.put, List.setIfInBounds_toArray, List.set_cons_zero, List.set_cons_succ, List.getElem_toArray, List.getElem_cons_succ, List.getElem_cons_zero]
          have HXE : Hid ((w7.setCell ⟨w2.heap.size, 2, none⟩ (.slice va vn vc)).heap[w2.heap.size]? = some (.cells #[.int .i64 (2 + (q : Int)), .int .i64 0, (.slice va vn vc)] 28 (0, 0))) := store_var HX7.out (.slice va vn vc)
          have HBE := Lib.hid (HB7.out.setX 2 (.slice va vn vc))
          have HOE := Lib.hid (HO7.out.var (W' := w7.setCell ⟨w2.heap.size, 2, none⟩ (.slice va vn vc)) (fun b hb _ => Below.heap_setCell _ _ _ _ hb) hoX')
          have HDE := Lib.hid (HD7.out.keep (w' := w7.setCell ⟨w2.heap.size, 2, none⟩ (.slice va vn vc)) fun k hk => Below.heap_setCell _ _ _ _ (show k ≠ w2.heap.size by omega))
          clear hHeld y2 y2f x2 x5 x6 hsum
          generalize w7.setCell ⟨w2.heap.size, 2, none⟩ (.slice va vn vc) = w8 at *
          go_wp2_with fail
          go_roundw
          case rel => exact ⟨j + 1, _, _, ts ++ [t], by go_num, by omega, HXE.out, HOE.out, by rw [List.length_append, HLE.out]; rfl, Tm.shapedL_snoc HSH.out HST.out, HDE.out, HBE.out⟩
          case measure => simp [intOf]; omega
        · go_simp
          refine (HIH.out b wr.drew (HD.out.drewN 1) (by omega)).mono ?_
          rintro e w5 ⟨t, ra, rn, rc, rfl, hst, ⟨hTR, hrc⟩, hD5, hB5⟩
          have hB5' : But b wr w5 := ((But.refl b wr).drewN 1).trans hB5
          have x5 := (hB5'.cell (p := ⟨w2.heap.size, 2, none⟩) hXl (by omega)).trans x2
          have HTR : Hid (TR (fun k => wr.heap.size ≤ k) w5 t ra rn) := hTR
          have HST := Lib.hid hst
          have HD5 := Lib.hid hD5
          have HB5 := Lib.hid hB5'
          clear hst hTR hD5 hB5 hB5'
          refine hK1.out _ _ trivial (fun hHeld => ?_)
          clear hK1
          try simp only [Act.put, List.setIfInBounds_toArray, List.set_cons_zero, List.set_cons_succ, List.getElem_toArray, List.getElem_cons_succ, List.getElem_cons_zero]
          refine wpAnyH_ready (rs := [1, 6]) (by kernel_rfl) (by simp) ?_
          refine AllReadyH.cons rfl (fun K1 hK1 => ?_) (AllReadyH.cons rfl (fun K1 hK1 => ?_) AllReadyH.nil)
          · go_simp
            refine hK1.out _ _ hHeld (fun hHeld => ?_)
            clear hK1
            try simp only [Act.put, List.setIfInBounds_toArray, List.set_cons_zero, List.set_cons_succ, List.getElem_toArray, List.getElem_cons_succ, List.getElem_cons_zero]
            refine wpAnyH_ready (rs := [6]) (by kernel_rfl) (by simp) ?_
            refine AllReadyH.cons rfl (fun K1 hK1 => ?_) AllReadyH.nil
            go_simp
            have PB := pure_alloc w5 (.cells #[.int .i64 t.op, .int .i64 t.num, .slice ra rn rc] 28)
            have HNB := Lib.hid (alloc_new w5 (.cells #[.int .i64 t.op, .int .i64 t.num, .slice ra rn rc] 28))
            have x6 := (PB.cell (p := ⟨w2.heap.size, 2, none⟩) (lt_of_cell x5)).trans x5
            have HTB := Lib.hid (HTR.out.below PB)
            have HD6 := Lib.hid (HD5.out.below PB)
            have HB6 := Lib.hid (HB5.out.alloc (.cells #[.int .i64 t.op, .int .i64 t.num, .slice ra rn rc] 28))
            have hab : w5.heap.size < (w5.alloc (.cells #[.int .i64 t.op, .int .i64 t.num, .slice ra rn rc] 28)).heap.size := by simp
            have hw25 := HB5.out.size
            refine hK1.out _ _ trivial (fun hHeld => ?_)
            clear hK1
            try simp only [Act.put, List.setIfInBounds_toArray, List.set_cons_zero, List.set_cons_succ, List.getElem_toArray, List.getElem_cons_succ, List.getElem_cons_zero]
            clear PB
            generalize w5.alloc (.cells #[.int .i64 t.op, .int .i64 t.num, .slice ra rn rc] 28) = w6 at *
            refine wpAnyH_ready (rs := [7]) (by kernel_rfl) (by simp) ?_
            refine AllReadyH.cons rfl (fun K1 hK1 => ?_) AllReadyH.nil
            have O6 := HO.out.since (W' := w6) fun k h1 h2 => HB6.out.block k h2 (by omega)
            obtain ⟨v', w7, hrun, hO7, hgr, hob, hoX'⟩ := O6.push (c := 1) (e := ⟨t.op, t.num, ra, rn, rc⟩) (t := t) HNB.out rfl rfl hrc (HTB.out.imp fun k hk _ => ⟨by have h2 : wr.heap.size ≤ k := hk; omega, by have h2 : wr.heap.size ≤ k := hk; omega, fun e => by have h1 := HOL.out k e; have h2 : wr.heap.size ≤ k := hk; omega⟩) (by have h1 := HLE.out; omega) (by omega) hoX (by omega)
            obtain ⟨va, vn, vc, hv'⟩ : ∃ va vn vc, v' = Value.slice va vn vc := by
              obtain ⟨a, c, h⟩ := own_form hO7.row
              exact ⟨a, _, c, h⟩
            subst hv'
            have X7 : w7.heap[w2.heap.size]? = some (.cells #[.int .i64 (2 + (q : Int)), .int .i64 0, v] 28 (0, 0)) := (hgr.block _ (by omega) (fun e => hoX e.symm)).trans ((HB6.out.block _ hXl hXb).trans HX.out)
            have y2 := cell_of_arr X7 2
            have y2f := frozen_of_arr X7 2
            simp at y2
            have HB7 := Lib.hid ((HB.out.but HB6.out).grown O6.row hgr)
            have HD7 := Lib.hid (HD6.out.keep (w' := w7) fun k hk => hgr.block k (by omega) (fun e => by have h1 := (own_lt O6.row e.symm).2.1; omega))
            have HX7 := Lib.hid X7
            have HO7 := Lib.hid hO7
            clear O6 hO7 X7 hob hgr
            rw [if_pos (by rfl)]
            refine wp_app _ _ 23 rfl rfl rfl hrun ?_
            refine hK1.out _ _ trivial (fun hHeld => ?_)
            clear hK1
            try simp only [Act.put, List.setIfInBounds_toArray, List.set_cons_zero, List.set_cons_succ, List.getElem_toArray, List.getElem_cons_succ, List.getElem_cons_zero]
            clear hrun
            refine wpAnyH_take (i := 8) (v := ?_) rfl (by kernel_rfl) (by kernel_rfl) (by kernel_rfl) (fun _ _ _ h => h) (Or.inl ⟨by rfl, ?_⟩) hHeld ?_
            rotate_left
            · (intro W hSw; (try dsimp only at hSw); go_simp; try with_reducible rfl)
            try simp only [Act.put, List.setIfInBounds_toArray, List.set_cons_zero, List.set_cons_succ, List.getElem_toArray, List.getElem_cons_succ, List.getElem_cons_zero]
            refine wpAnyH_ready (rs := [9]) (by kernel_rfl) (by simp) ?_
            refine AllReadyH.cons rfl (fun K1 hK1 => ?_) AllReadyH.nil
            go_simp
            refine hK1.out _ _ trivial (fun hHeld => ?_)
            clear hK1
            try simp only [Act.put, List.setIfInBounds_toArray, List.set_cons_zero, List.set_cons_succ, List.getElem_toArray, List.getElem_cons_succ, List.getElem_cons_zero]
            refine wpAnyH_done (by kernel_rfl) ?_ _
            try simp only [Act.put, List.setIfInBounds_toArray, List.set_cons_zero, List.set_cons_succ, List.getElem_toArray, List.getElem_cons_succ, List.getElem_cons_zero]
            have HXE : Hid ((w7.setCell ⟨w2.heap.size, 2, none⟩ (.slice va vn vc)).heap[w2.heap.size]? = some (.cells #[.int .i64 (2 + (q : Int)), .int .i64 0, (.slice va vn vc)] 28 (0, 0))) := store_var HX7.out (.slice va vn vc)
            have HBE := Lib.hid (HB7.out.setX 2 (.slice va vn vc))
            have HOE := Lib.hid (HO7.out.var (W' := w7.setCell ⟨w2.heap.size, 2, none⟩ (.slice va vn vc)) (fun b hb _ => Below.heap_setCell _ _ _ _ hb) hoX')
            have HDE := Lib.hid (HD7.out.keep (w' := w7.setCell ⟨w2.heap.size, 2, none⟩ (.slice va vn vc)) fun k hk => Below.heap_setCell _ _ _ _ (show k ≠ w2.heap.size by omega))
            clear hHeld y2 y2f x2 x5 x6 hsum
            generalize w7.setCell ⟨w2.heap.size, 2, none⟩ (.slice va vn vc) = w8 at *
            go_wp2_with fail
            go_roundw
            case rel => exact ⟨j + 1, _, _, ts ++ [t], by go_num, by omega, HXE.out, HOE.out, by rw [List.length_append, HLE.out]; rfl, Tm.shapedL_snoc HSH.out HST.out, HDE.out, HBE.out⟩
            case measure => simp [intOf]; omega
          · go_simp
            have PB := pure_alloc w5 (.cells #[.int .i64 t.op, .int .i64 t.num, .slice ra rn rc] 28)
            have HNB := Lib.hid (alloc_new w5 (.cells #[.int .i64 t.op, .int .i64 t.num, .slice ra rn rc] 28))
            have x6 := (PB.cell (p := ⟨w2.heap.size, 2, none⟩) (lt_of_cell x5)).trans x5
            have HTB := Lib.hid (HTR.out.below PB)
            have HD6 := Lib.hid (HD5.out.below PB)
            have HB6 := Lib.hid (HB5.out.alloc (.cells #[.int .i64 t.op, .int .i64 t.num, .slice ra rn rc] 28))
            have hab : w5.heap.size < (w5.alloc (.cells #[.int .i64 t.op, .int .i64 t.num, .slice ra rn rc] 28)).heap.size := by simp
            have hw25 := HB5.out.size
            refine hK1.out _ _ trivial (fun hHeld => ?_)
            clear hK1
            try simp only [Act.put, List.setIfInBounds_toArray, List.set_cons_zero, List.set_cons_succ, List.getElem_toArray, List.getElem_cons_succ, List.getElem_cons_zero]
            clear PB
            generalize w5.alloc (.cells #[.int .i64 t.op, .int .i64 t.num, .slice ra rn rc] 28) = w6 at *
            refine wpAnyH_ready (rs := [1]) (by kernel_rfl) (by simp) ?_
            refine AllReadyH.cons rfl (fun K1 hK1 => ?_) AllReadyH.nil
            go_simp
            refine hK1.out _ _ hHeld (fun hHeld => ?_)
            clear hK1
            try simp only [Act.put, List.setIfInBounds_toArray, List.set_cons_zero, List.set_cons_succ, List.getElem_toArray, List.getElem_cons_succ, List.getElem_cons_zero]
            refine wpAnyH_ready (rs := [7]) (by kernel_rfl) (by simp) ?_
            refine AllReadyH.cons rfl (fun K1 hK1 => ?_) AllReadyH.nil
            have O6 := HO.out.since (W' := w6) fun k h1 h2 => HB6.out.block k h2 (by omega)
            obtain ⟨v', w7, hrun, hO7, hgr, hob, hoX'⟩ := O6.push (c := 1) (e := ⟨t.op, t.num, ra, rn, rc⟩) (t := t) HNB.out rfl rfl hrc (HTB.out.imp fun k hk _ => ⟨by have h2 : wr.heap.size ≤ k := hk; omega, by have h2 : wr.heap.size ≤ k := hk; omega, fun e => by have h1 := HOL.out k e; have h2 : wr.heap.size ≤ k := hk; omega⟩) (by have h1 := HLE.out; omega) (by omega) hoX (by omega)
            obtain ⟨va, vn, vc, hv'⟩ : ∃ va vn vc, v' = Value.slice va vn vc := by
              obtain ⟨a, c, h⟩ := own_form hO7.row
              exact ⟨a, _, c, h⟩
            subst hv'
            have X7 : w7.heap[w2.heap.size]? = some (.cells #[.int .i64 (2 + (q : Int)), .int .i64 0, v] 28 (0, 0)) := (hgr.block _ (by omega) (fun e => hoX e.symm)).trans ((HB6.out.block _ hXl hXb).trans HX.out)
            have y2 := cell_of_arr X7 2
            have y2f := frozen_of_arr X7 2
            simp at y2
            have HB7 := Lib.hid ((HB.out.but HB6.out).grown O6.row hgr)
            have HD7 := Lib.hid (HD6.out.keep (w' := w7) fun k hk => hgr.block k (by omega) (fun e => by have h1 := (own_lt O6.row e.symm).2.1; omega))
            have HX7 := Lib.hid X7
            have HO7 := Lib.hid hO7
            clear O6 hO7 X7 hob hgr
            rw [if_pos (by rfl)]
            refine wp_app _ _ 23 rfl rfl rfl hrun ?_
            refine hK1.out _ _ trivial (fun hHeld => ?_)
            clear hK1
            try simp only [Act.put, List.setIfInBounds_toArray, List.set_cons_zero, List.set_cons_succ, List.getElem_toArray, List.getElem_cons_succ, List.getElem_cons_zero]
            clear hrun
            refine wpAnyH_take (i := 8) (v := ?_) rfl (by kernel_rfl) (by kernel_rfl) (by kernel_rfl) (fun _ _ _ h => h) (Or.inl ⟨by rfl, ?_⟩) hHeld ?_
            rotate_left
            · (intro W hSw; (try dsimp only at hSw); go_simp; try with_reducible rfl)
            try simp only [Act.put, List.setIfInBounds_toArray, List.set_cons_zero, List.set_cons_succ, List.getElem_toArray, List.getElem_cons_succ, List.getElem_cons_zero]
            refine wpAnyH_ready (rs := [9]) (by kernel_rfl) (by simp) ?_
            refine AllReadyH.cons rfl (fun K1 hK1 => ?_) AllReadyH.nil
            go_simp
            refine hK1.out _ _ trivial (fun hHeld => ?_)
            clear hK1
            try simp only [Act.put, List.setIfInBounds_toArray, List.set_cons_zero, List.set_cons_succ, List.getElem_toArray, List.getElem_cons_succ, List.getElem_cons_zero]
            refine wpAnyH_done (by kernel_rfl) ?_ _
            try simp only [Act.put, List.setIfInBounds_toArray, List.set_cons_zero, List.set_cons_succ, List.getElem_toArray, List.getElem_cons_succ, List.getElem_cons_zero]
            have HXE : Hid ((w7.setCell ⟨w2.heap.size, 2, none⟩ (.slice va vn vc)).heap[w2.heap.size]? = some (.cells #[.int .i64 (2 + (q : Int)), .int .i64 0, (.slice va vn vc)] 28 (0, 0))) := store_var HX7.out (.slice va vn vc)
            have HBE := Lib.hid (HB7.out.setX 2 (.slice va vn vc))
            have HOE := Lib.hid (HO7.out.var (W' := w7.setCell ⟨w2.heap.size, 2, none⟩ (.slice va vn vc)) (fun b hb _ => Below.heap_setCell _ _ _ _ hb) hoX')
            have HDE := Lib.hid (HD7.out.keep (w' := w7.setCell ⟨w2.heap.size, 2, none⟩ (.slice va vn vc)) fun k hk => Below.heap_setCell _ _ _ _ (show k ≠ w2.heap.size by omega))
            clear hHeld y2 y2f x2 x5 x6 hsum
            generalize w7.setCell ⟨w2.heap.size, 2, none⟩ (.slice va vn vc) = w8 at *
            go_wp2_with fail
            go_roundw
            case rel => exact ⟨j + 1, _, _, ts ++ [t], by go_num, by omega, HXE.out, HOE.out, by rw [List.length_append, HLE.out]; rfl, Tm.shapedL_snoc HSH.out HST.out, HDE.out, HBE.out⟩
            case measure => simp [intOf]; omega
      · have hjn' : ¬ ((j : Int) < n) := by omega
        obtain ⟨a', c', hv', hTL, hcap⟩ := hO.tl (Nat.le_refl _) (by omega)
        subst hv'
        have hlj : ts.length = n := by omega
        have HSHT : Hid (Tm.shaped (Tm.mk (2 + (q : Int)) 0 ts) (lv + 1 + 1) = true) := by
          show _ = _
          simp only [Tm.shaped, Bool.and_eq_true]
          refine ⟨?_, hsh⟩
          have h1 := HNA.out
          rw [← hlj] at h1
          have h2 : ((2 : Int) + (q : Int) == 1) = false := by simp; omega
          simp only [Tm.okN, h1, h2]
          simp
        have X3 := hX
        have R3 := (hB.block w.heap.size hRw (by omega) (by omega)).trans HR4.out
        have HTL := Lib.hid hTL
        have HDW := Lib.hid hD
        have HBW : Hid (But b w wr) := ⟨hB.os.trans HB4.out.os, hB.tape.trans HB4.out.tape, hB.output.trans HB4.out.output, Nat.le_trans HB4.out.size hB.size, fun k hk hb => (hB.block k (by omega) (by omega) hb).trans (HB4.out.block k hk hb)⟩
        generalize ts.length = nl at *
        have x0 := cell_of_arr X3 0
        have x1 := cell_of_arr X3 1
        have x2 := cell_of_arr X3 2
        simp at x0 x1 x2
        have r0 := cell_of_arr R3 0
        have r1 := cell_of_arr R3 1
        have r2 := cell_of_arr R3 2
        simp at r0 r1 r2
        have f0 := frozen_of_arr R3 0
        have f1 := frozen_of_arr R3 1
        have f2 := frozen_of_arr R3 2
        have HR3 := Lib.hid R3
        clear X3 R3 hX hO hB hD hTL hsh hlen hlj
        go_wp2_with fail
        obtain ⟨S1, S2, S3⟩ := put3 HR3.out (.int .i64 (2 + (q : Int))) (.int .i64 0) (.slice a' nl c') _ rfl
        have p0 := cell_of_arr S1 0
        have p1 := cell_of_arr S1 1
        have p2 := cell_of_arr S1 2
        simp at p0 p1 p2
        refine bodyPost_ret (v := .agg #[.int .i64 (2 + (q : Int)), .int .i64 0, .slice a' nl c']) (by simp [results, Tryd.results9, go_sem, p0, p1, p2]) rfl ?_
        refine ⟨Tm.mk (2 + (q : Int)) 0 ts, a', nl, c', rfl, HSHT.out, ⟨TR_iff.2 (HTL.out.keep fun k hk _ => ⟨S2 k (by have h2 : w4.heap.size ≤ k := hk; omega), by have h2 : w4.heap.size ≤ k := hk; show w.heap.size ≤ k; omega⟩), hcap⟩, HDW.out.keep fun j hj => S2 j (by omega), ((HBW.out.setNew (p := ⟨w.heap.size, 0, none⟩) (Nat.le_refl _) _).setNew (p := ⟨w.heap.size, 1, none⟩) (Nat.le_refl _) _).setNew (p := ⟨w.heap.size, 2, none⟩) (Nat.le_refl _) _⟩
end Go.Proofs.YtkgbjoepjcenlaaDoor
