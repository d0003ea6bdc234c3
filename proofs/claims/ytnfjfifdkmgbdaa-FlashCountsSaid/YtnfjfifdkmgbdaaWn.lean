/- The walk of do: one step is carried out. -/
import Derived.Test.YtnfjfifdkmgbdaaWm
import Derived.Deep.AppendLies
namespace Go.Proofs.Ytnfjfifdkmgbdaa
open Go.RowKit

namespace Fl
def setPage (m : Mem) (i : Nat) (p : List UInt8) : Mem := { m with pages := m.pages.set i p }
def padTo (p : List UInt8) (n : Nat) : List UInt8 := p ++ List.replicate (n - p.length) 255
def doP (m : Mem) (s : Step) : Mem :=
  if s.erase then { m with pages := m.pages.set s.page.toNat [], erased := m.erased.set s.page.toNat (m.erased.getD s.page.toNat 0 + 1) }
  else setPage m s.page.toNat (padTo (page m s.page.toNat) s.at_.toNat ++ [s.b])
end Fl

/-- What a step on a memory in rows of its own leaves as it was. -/
structure FK (w w' : World) (pa ea : Option Addr) (vs vs' : List Value) : Prop where
  os : w'.os = w.os
  tape : w'.tape = w.tape
  output : w'.output = w.output
  size : w.heap.size ≤ w'.heap.size
  blk : ∀ k, k < w.heap.size → ¬ FBlk pa ea vs k → w'.heap[k]? = w.heap[k]?
  own : ∀ k, FBlk pa ea vs' k → FBlk pa ea vs k ∨ w.heap.size ≤ k
theorem FK.refl (w : World) (pa ea : Option Addr) (vs : List Value) : FK w w pa ea vs vs := ⟨rfl, rfl, rfl, Nat.le_refl _, fun _ _ _ => rfl, fun _ h => .inl h⟩
theorem FK.trans {a b c : World} {pa ea : Option Addr} {v1 v2 v3 : List Value} (h : FK a b pa ea v1 v2) (k : FK b c pa ea v2 v3) : FK a c pa ea v1 v3 :=
  ⟨k.os.trans h.os, k.tape.trans h.tape, k.output.trans h.output, Nat.le_trans h.size k.size,
   fun i hi ho => (k.blk i (Nat.lt_of_lt_of_le hi h.size) (fun o => by rcases h.own i o with o | o; exact ho o; omega)).trans (h.blk i hi ho),
   fun i o => by
    rcases k.own i o with o | o
    · exact h.own i o
    · exact .inr (Nat.le_trans h.size o)⟩
theorem FK.pure {w w' : World} {pa ea : Option Addr} {vs : List Value} (h : Below w.heap.size w w') : FK w w' pa ea vs vs := ⟨h.os, h.tape, h.output, h.size, fun k hk _ => h.block k hk, fun _ o => .inl o⟩

/-- Page i gets the value x, whose row is the old one or new. -/
theorem OwnF.upd {w w2 : World} {base X : Nat} {m : Fl.Mem} {g pc : Nat} {ea : Option Addr} {ec : Nat} {vs : List Value} (h : OwnF w base X m (some ⟨g, 0, none⟩) pc ea ec vs) {i : Nat} (hi : i < m.pages.length) {x : Value} {p : List UInt8}
    (hg : w.grownBy w2 (vs.getD i undef).ownBlock) (hx : OwnB w2 base x p) (hob : x.ownBlock = none ∨ x.ownBlock = (vs.getD i undef).ownBlock ∨ ∃ k, x.ownBlock = some k ∧ w.heap.size ≤ k) :
    OwnF (w2.setCell ⟨g, i, none⟩ x) base X (Fl.setPage m i p) (some ⟨g, 0, none⟩) pc ea ec (vs.set i x) ∧ FK w (w2.setCell ⟨g, i, none⟩ x) (some ⟨g, 0, none⟩) ea vs (vs.set i x) := by
  have hl := h.pages.len
  have hi2 : i < vs.length := by omega
  obtain ⟨gl, gb, gcur, gh⟩ := own_lt h.pages.row (g := g) rfl
  have hX := lt_of_block h.box
  have xi : ∀ b, (vs.getD i undef).ownBlock = some b → b ≠ X := fun b hb => (h.blk (.inr (.inr ⟨i, hi2, hb⟩))).2.2
  have hp : OwnP w base (.slice (some ⟨g, 0, none⟩) vs.length pc) vs m.pages := by rw [hl]; exact h.pages
  have gX : g ≠ X := kind_ne gh h.box (by decide)
  have keep : ∀ b, b < w.heap.size → b ≠ g → (vs.getD i undef).ownBlock ≠ some b → (w2.setCell ⟨g, i, none⟩ x).heap[b]? = w.heap[b]? := fun b hb h1 h2 => by
    rw [Below.heap_setCell _ _ _ _ h1]
    exact hg.block b hb (fun e => h2 e.symm)
  refine ⟨⟨?_, ?_, ?_⟩, ⟨hg.os, hg.tape, hg.output, by simpa [World.setCell] using hg.size, fun k hk ho => ?_, fun k o => ?_⟩⟩
  · rw [keep X hX gX.symm (fun e => xi X e rfl), h.box]
    simp [Fl.setPage]
  · have := hp.upd hi2 hg hx hob
    rw [List.length_set, hl] at this
    simpa [Fl.setPage] using this
  · refine own_keep h.erased fun b hb => ?_
    obtain ⟨bl, _, c, hc⟩ := own_lt h.erased hb
    refine keep b bl (kind_ne hc gh (by decide)) fun e => ?_
    obtain ⟨_, _, c', hc'⟩ := own_lt (h.pages.each i hi2) e
    rw [hc] at hc'; cases hc'
  · exact keep k hk (fun e => ho (.inl ⟨_, rfl, e.symm⟩)) (fun e => ho (.inr (.inr ⟨i, hi2, e⟩)))
  · rcases o with o | o | ⟨j, hj, hb⟩
    · exact .inl (.inl o)
    · exact .inl (.inr (.inl o))
    · rw [List.length_set] at hj
      rw [getD_set _ _ _ _ _ hi2] at hb
      by_cases e : j = i
      · rw [if_pos e] at hb
        rcases hob with h0 | h0 | ⟨q, h0, h1⟩
        · rw [h0] at hb; cases hb
        · exact .inl (.inr (.inr ⟨i, hi2, by rw [← h0]; exact hb⟩))
        · rw [h0] at hb; cases hb; exact .inr h1
      · rw [if_neg e] at hb
        exact .inl (.inr (.inr ⟨j, hj, hb⟩))

theorem grown_trans {w w1 w2 : World} {r : Option Nat} (h : Below w.heap.size w w1) (k : w1.grownBy w2 r) : w.grownBy w2 r :=
  ⟨k.os.trans h.os, k.tape.trans h.tape, k.output.trans h.output, Nat.le_trans h.size k.size, fun i hi hr => (k.block i (Nat.lt_of_lt_of_le hi h.size) hr).trans (h.block i hi)⟩

/-- A count of erasures is changed. -/
theorem OwnF.updE {w : World} {base X : Nat} {m : Fl.Mem} {pa : Option Addr} {pc ge ec : Nat} {vs : List Value} (h : OwnF w base X m pa pc (some ⟨ge, 0, none⟩) ec vs) {i : Nat} (hi : i < m.erased.length) (x : Int) :
    OwnF (w.setCell ⟨ge, i, none⟩ (.int .i64 x)) base X { m with erased := m.erased.set i x } pa pc (some ⟨ge, 0, none⟩) ec vs ∧ FK w (w.setCell ⟨ge, i, none⟩ (.int .i64 x)) pa (some ⟨ge, 0, none⟩) vs vs := by
  obtain ⟨el, eb, ecur, eh⟩ := own_lt h.erased (g := ge) rfl
  have eX : ge ≠ X := kind_ne eh h.box (by decide)
  refine ⟨⟨?_, ?_, ?_⟩, ⟨rfl, rfl, rfl, by simp [World.setCell], fun k hk ho => ?_, fun k o => .inl o⟩⟩
  · rw [Below.heap_setCell _ _ _ _ eX.symm, h.box]
    simp
  · refine h.pages.keep (fun b hb => ?_) (fun j b hj hb => ?_)
    · obtain ⟨_, _, c, hc⟩ := own_lt h.pages.row hb
      exact Below.heap_setCell _ _ _ _ (kind_ne hc eh (by decide))
    · obtain ⟨_, _, c, hc⟩ := own_lt (h.pages.each j hj) hb
      exact Below.heap_setCell _ _ _ _ (kind_ne hc eh (by decide))
  · have := own_set h.erased i hi (.int .i64 x)
    simpa [List.map_set] using this
  · exact Below.heap_setCell _ _ _ _ (fun e => ho (.inr (.inl ⟨_, rfl, e.symm⟩)))

/-- What the walk reads of such a memory. -/
theorem OwnF.reads {w : World} {base X : Nat} {m : Fl.Mem} {pa : Option Addr} {pc : Nat} {ea : Option Addr} {ec : Nat} {vs : List Value} (h : OwnF w base X m pa pc ea ec vs) {i : Nat} (hi : i < m.pages.length) :
    ∃ g a c, pa = some ⟨g, 0, none⟩ ∧ vs.getD i undef = .slice a (m.pages.getD i []).length c ∧ w.cell? ⟨X, 1, none⟩ = some (.slice (some ⟨g, 0, none⟩) m.pages.length pc) ∧ w.cell? ⟨X, 2, none⟩ = some (.slice ea m.erased.length ec) ∧ w.cell? ⟨g, i, none⟩ = some (.slice a (m.pages.getD i []).length c) ∧ w.frozen? ⟨g, i, none⟩ = false ∧ g ≠ X ∧ g < w.heap.size := by
  have hl := h.pages.len
  obtain ⟨a, c, hv⟩ := own_form (h.pages.each i (by omega))
  obtain ⟨g, cap, hg, _, hgl⟩ := World.ownsRow.form h.pages.row (by omega)
  simp only [Value.slice.injEq] at hg
  obtain ⟨rfl, _, rfl⟩ := hg
  obtain ⟨_, _, cur, gh⟩ := own_lt h.pages.row (g := g) rfl
  have c1 := cell_of_arr h.box 1
  have c2 := cell_of_arr h.box 2
  simp at c1 c2
  have hrow := h.pages.row
  rw [hl] at hrow
  have hc := World.ownsRow.cellAt hrow i (by omega)
  refine ⟨g, a, c, rfl, hv, c1, c2, ?_, frozen_of_arr gh i, kind_ne gh h.box (by decide), hgl⟩
  rw [hc, ← hv]
  simp [List.getElem?_eq_getElem (show i < vs.length by omega)]

set_option maxHeartbeats 1600000 in
theorem do_erase (base X : Nat) (m : Fl.Mem) (pa : Option Addr) (pc : Nat) (ea : Option Addr) (ec : Nat) (vs : List Value) (q : Nat) (at_ : Int) (b : UInt8) (w : World) (h : OwnF w base X m pa pc ea ec vs) (hq : q < m.pages.length) (hpl : m.pages.length ≤ 1000) (he : m.erased.length = m.pages.length) (hec : -1000 ≤ m.erased.getD q 0 ∧ m.erased.getD q 0 ≤ 1000000) :
    Calls Try.prog 44 #[.pointer (some ⟨X, 0, none⟩), .agg #[.int .i64 (q : Int), .int .i64 at_, .bool true, .int .u8 (b.toNat : Int)]] w
      (fun e w' => e = .returned (.tuple #[]) ∧ ∃ vs', OwnF w' base X (Fl.doP m ⟨(q : Int), at_, true, b⟩) pa pc ea ec vs' ∧ FK w w' pa ea vs vs') := by
  have hXl := lt_of_block h.box
  have P1 := pure_alloc w (.cells #[.int .i64 (q : Int), .int .i64 at_, .bool true, .int .u8 (b.toNat : Int)] 74)
  have h1 := h.pure P1
  obtain ⟨g, a, c, rfl, hvi, c1, c2, ci, fi, gX, gl⟩ := h1.reads hq
  have hgw := (h.blk (k := g) (.inl ⟨_, rfl, rfl⟩)).2.1
  have n1 : (w.alloc (.cells #[.int .i64 (q : Int), .int .i64 at_, .bool true, .int .u8 (b.toNat : Int)] 74)).heap[w.heap.size]? = some (.cells #[.int .i64 (q : Int), .int .i64 at_, .bool true, .int .u8 (b.toNat : Int)] 74 (0, 0)) := alloc_new _ _
  go_enter Try.func44, Try.ntmps44
  go_upto_region 2 with fail
  generalize hw1 : w.alloc (.cells #[.int .i64 (q : Int), .int .i64 at_, .bool true, .int .u8 (b.toNat : Int)] 74) = w1 at *
  clear hw1
  have s0 := cell_of_arr n1 0
  simp at s0
  have HP1 := Lib.hid P1
  have H1 := Lib.hid h1
  have HH := Lib.hid h
  have HN1 := Lib.hid n1
  have n1l := lt_of_block n1
  have hq1 : (q : Int) < (m.pages.length : Int) := by omega
  have hq0 : (0 : Int) ≤ (q : Int) := by omega
  clear P1 h1 h n1
  refine wp_region_held_drew (S := (fun W => W.cell? ⟨X, 1, none⟩ = some (.slice (some ⟨g, 0, none⟩) m.pages.length pc) ∧ W.cell? ⟨w.heap.size, 0, none⟩ = some (.int .i64 (q : Int)))) (by kernel_rfl) ⟨c1, s0⟩ (fun hHeld => ?_)
  refine wpAnyH_take (i := 0) (v := ?_) rfl (by kernel_rfl) (by kernel_rfl) (by kernel_rfl) (fun _ _ _ h => h) (Or.inl ⟨by rfl, ?_⟩) hHeld ?_
  rotate_left
  · (intro W hSw; (try dsimp only at hSw); go_simp; try with_reducible rfl)
  try simp only [Act.put, List.setIfInBounds_toArray, List.set_cons_zero, List.set_cons_succ, List.getElem_toArray, List.getElem_cons_succ, List.getElem_cons_zero]
  refine wpAnyH_take (i := 1) (v := ?_) rfl (by kernel_rfl) (by kernel_rfl) (by kernel_rfl) (fun _ _ _ h => h) (Or.inl ⟨by rfl, ?_⟩) hHeld ?_
  rotate_left
  · (intro W hSw; (try dsimp only at hSw); go_simp; try with_reducible rfl)
  try simp only [Act.put, List.setIfInBounds_toArray, List.set_cons_zero, List.set_cons_succ, List.getElem_toArray, List.getElem_cons_succ, List.getElem_cons_zero]
  refine wpAnyH_take (i := 2) (v := ?_) rfl (by kernel_rfl) (by kernel_rfl) (by kernel_rfl) (fun _ _ _ h => h) (Or.inl ⟨by rfl, ?_⟩) hHeld ?_
  rotate_left
  · (intro W hSw; (try dsimp only at hSw); go_simp; try with_reducible rfl)
  try simp only [Act.put, List.setIfInBounds_toArray, List.set_cons_zero, List.set_cons_succ, List.getElem_toArray, List.getElem_cons_succ, List.getElem_cons_zero]
  refine wpAnyH_take (i := 3) (v := ?_) rfl (by kernel_rfl) (by kernel_rfl) (by kernel_rfl) (fun _ _ _ h => h) (Or.inl ⟨by rfl, ?_⟩) hHeld ?_
  rotate_left
  · (intro W hSw; (try dsimp only at hSw); go_simp; try with_reducible rfl)
  try simp only [Act.put, List.setIfInBounds_toArray, List.set_cons_zero, List.set_cons_succ, List.getElem_toArray, List.getElem_cons_succ, List.getElem_cons_zero]
  refine wpAnyH_take (i := 4) (v := ?_) rfl (by kernel_rfl) (by kernel_rfl) (by kernel_rfl) (fun _ _ _ h => h) (Or.inl ⟨by rfl, ?_⟩) hHeld ?_
  rotate_left
  · (intro W hSw; (try dsimp only at hSw); go_simp; try with_reducible rfl)
  try simp only [Act.put, List.setIfInBounds_toArray, List.set_cons_zero, List.set_cons_succ, List.getElem_toArray, List.getElem_cons_succ, List.getElem_cons_zero]
  refine wpAnyH_take (i := 5) (v := ?_) rfl (by kernel_rfl) (by kernel_rfl) (by kernel_rfl) (fun _ _ _ h => h) (Or.inl ⟨by rfl, ?_⟩) hHeld ?_
  rotate_left
  · (intro W hSw; (try dsimp only at hSw); go_simp; try with_reducible rfl)
  try simp only [Act.put, List.setIfInBounds_toArray, List.set_cons_zero, List.set_cons_succ, List.getElem_toArray, List.getElem_cons_succ, List.getElem_cons_zero]
  refine wpAnyH_take (i := 6) (v := ?_) rfl (by kernel_rfl) (by kernel_rfl) (by kernel_rfl) (fun _ _ _ h => h) (Or.inl ⟨by rfl, ?_⟩) hHeld ?_
  rotate_left
  · (intro W hSw; (try dsimp only at hSw); go_simp; try with_reducible rfl)
  try simp only [Act.put, List.setIfInBounds_toArray, List.set_cons_zero, List.set_cons_succ, List.getElem_toArray, List.getElem_cons_succ, List.getElem_cons_zero]
  refine wpAnyH_ready (rs := [7]) (by kernel_rfl) (by simp) ?_
  refine AllReadyH.cons rfl (fun K1 hK1 => ?_) AllReadyH.nil
  go_simp
  refine hK1.out _ _ ⟨(World.cell?_setCell_far w1 ⟨g, q, none⟩ _ _ gX).trans c1, (World.cell?_setCell_far w1 ⟨g, q, none⟩ _ _ (by show g ≠ w.heap.size; omega)).trans s0⟩ (fun hHeld2 => ?_)
  clear hK1
  try simp only [Act.put, List.setIfInBounds_toArray, List.set_cons_zero, List.set_cons_succ, List.getElem_toArray, List.getElem_cons_succ, List.getElem_cons_zero]
  refine wpAnyH_done (by kernel_rfl) ?_ _
  try simp only [Act.put, List.setIfInBounds_toArray, List.set_cons_zero, List.set_cons_succ, List.getElem_toArray, List.getElem_cons_succ, List.getElem_cons_zero]
  obtain ⟨hO2, hK2⟩ := H1.out.upd hq (w2 := w1.drew) (x := .slice none 0 0) (p := []) ⟨rfl, rfl, rfl, Nat.le_refl _, fun _ _ _ => rfl⟩ ⟨rfl, .inl ⟨rfl, rfl⟩⟩ (.inl rfl)
  go_upto_region 3 with fail
  have hO3 : OwnF (w1.setCell ⟨g, q, none⟩ (.slice none 0 0)).drew base X (Fl.setPage m q []) (some ⟨g, 0, none⟩) pc ea ec (vs.set q (.slice none 0 0)) := hO2
  have hK3 : FK w (w1.setCell ⟨g, q, none⟩ (.slice none 0 0)).drew (some ⟨g, 0, none⟩) ea vs (vs.set q (.slice none 0 0)) := (FK.pure HP1.out).trans hK2
  have s3 : (w1.setCell ⟨g, q, none⟩ (.slice none 0 0)).drew.cell? ⟨w.heap.size, 0, none⟩ = some (.int .i64 (q : Int)) := hHeld2.2
  have l3 : w.heap.size < (w1.setCell ⟨g, q, none⟩ (.slice none 0 0)).drew.heap.size := by simpa [World.setCell] using n1l
  generalize hw2 : (w1.setCell ⟨g, q, none⟩ (.slice none 0 0)).drew = w2 at *
  clear hw2 hHeld2 hO2 hK2 c1 c2 ci fi s0 gl hHeld
  have d2 := cell_of_arr hO3.box 2
  simp at d2
  obtain ⟨ge, ecap, hge, _, gel⟩ := World.ownsRow.form hO3.erased (by simp [Fl.setPage]; omega)
  simp only [Value.slice.injEq, true_and] at hge
  obtain ⟨rfl, rfl⟩ := hge
  obtain ⟨_, _, ecur, eh⟩ := own_lt hO3.erased (g := ge) rfl
  have hee : (Fl.setPage m q []).erased = m.erased := rfl
  have ce := World.ownsRow.cellAt hO3.erased q (by rw [hee]; omega)
  rw [hee] at ce d2
  have ce2 : w2.cell? ⟨ge, q, none⟩ = some (.int .i64 (m.erased.getD q 0)) := by
    rw [ce]; simp [List.getElem?_eq_getElem (show q < m.erased.length by omega)]
  have fe := frozen_of_arr eh q
  have geX := kind_ne eh hO3.box (by decide)
  have hq2 : (q : Int) < (m.erased.length : Int) := by omega
  have HD : Hid (Fl.doP m ⟨(q : Int), at_, true, b⟩ = { m with pages := m.pages.set q [], erased := m.erased.set q (m.erased.getD q 0 + 1) }) := by show Fl.doP _ _ = _; simp [Fl.doP]
  generalize hE : m.erased.getD q 0 = E at *
  have hwr : IntKind.i64.wrap (E + 1) = E + 1 := wrap_i64 _ (by omega) (by omega)
  have gew : ge ≠ w.heap.size := fun e => by have := (HH.out.blk (k := ge) (.inr (.inl ⟨_, rfl, rfl⟩))).2.1; omega
  have HO3 := Lib.hid hO3
  have HK3 := Lib.hid hK3
  have HEH := Lib.hid eh
  clear hO3 hK3 ce hee eh

  refine wp_region_held_drew (S := (fun W => W.cell? ⟨X, 2, none⟩ = some (.slice (some ⟨ge, 0, none⟩) m.erased.length ec) ∧ W.cell? ⟨w.heap.size, 0, none⟩ = some (.int .i64 (q : Int)))) (by kernel_rfl) ⟨d2, s3⟩ (fun hHeld => ?_)
  refine wpAnyH_take (i := 0) (v := ?_) rfl (by kernel_rfl) (by kernel_rfl) (by kernel_rfl) (fun _ _ _ h => h) (Or.inl ⟨by rfl, ?_⟩) hHeld ?_
  rotate_left
  · (intro W hSw; (try dsimp only at hSw); go_simp; try with_reducible rfl)
  try simp only [Act.put, List.setIfInBounds_toArray, List.set_cons_zero, List.set_cons_succ, List.getElem_toArray, List.getElem_cons_succ, List.getElem_cons_zero]
  refine wpAnyH_take (i := 1) (v := ?_) rfl (by kernel_rfl) (by kernel_rfl) (by kernel_rfl) (fun _ _ _ h => h) (Or.inl ⟨by rfl, ?_⟩) hHeld ?_
  rotate_left
  · (intro W hSw; (try dsimp only at hSw); go_simp; try with_reducible rfl)
  try simp only [Act.put, List.setIfInBounds_toArray, List.set_cons_zero, List.set_cons_succ, List.getElem_toArray, List.getElem_cons_succ, List.getElem_cons_zero]
  refine wpAnyH_take (i := 2) (v := ?_) rfl (by kernel_rfl) (by kernel_rfl) (by kernel_rfl) (fun _ _ _ h => h) (Or.inl ⟨by rfl, ?_⟩) hHeld ?_
  rotate_left
  · (intro W hSw; (try dsimp only at hSw); go_simp; try with_reducible rfl)
  try simp only [Act.put, List.setIfInBounds_toArray, List.set_cons_zero, List.set_cons_succ, List.getElem_toArray, List.getElem_cons_succ, List.getElem_cons_zero]
  refine wpAnyH_take (i := 3) (v := ?_) rfl (by kernel_rfl) (by kernel_rfl) (by kernel_rfl) (fun _ _ _ h => h) (Or.inl ⟨by rfl, ?_⟩) hHeld ?_
  rotate_left
  · (intro W hSw; (try dsimp only at hSw); go_simp; try with_reducible rfl)
  try simp only [Act.put, List.setIfInBounds_toArray, List.set_cons_zero, List.set_cons_succ, List.getElem_toArray, List.getElem_cons_succ, List.getElem_cons_zero]
  refine wpAnyH_take (i := 4) (v := ?_) rfl (by kernel_rfl) (by kernel_rfl) (by kernel_rfl) (fun _ _ _ h => h) (Or.inl ⟨by rfl, ?_⟩) hHeld ?_
  rotate_left
  · (intro W hSw; (try dsimp only at hSw); go_simp; try with_reducible rfl)
  try simp only [Act.put, List.setIfInBounds_toArray, List.set_cons_zero, List.set_cons_succ, List.getElem_toArray, List.getElem_cons_succ, List.getElem_cons_zero]
  refine wpAnyH_take (i := 5) (v := ?_) rfl (by kernel_rfl) (by kernel_rfl) (by kernel_rfl) (fun _ _ _ h => h) (Or.inl ⟨by rfl, ?_⟩) hHeld ?_
  rotate_left
  · (intro W hSw; (try dsimp only at hSw); go_simp; try with_reducible rfl)
  try simp only [Act.put, List.setIfInBounds_toArray, List.set_cons_zero, List.set_cons_succ, List.getElem_toArray, List.getElem_cons_succ, List.getElem_cons_zero]
  refine wpAnyH_take (i := 6) (v := ?_) rfl (by kernel_rfl) (by kernel_rfl) (by kernel_rfl) (fun _ _ _ h => h) (Or.inl ⟨by rfl, ?_⟩) hHeld ?_
  rotate_left
  · (intro W hSw; (try dsimp only at hSw); go_simp; try with_reducible rfl)
  try simp only [Act.put, List.setIfInBounds_toArray, List.set_cons_zero, List.set_cons_succ, List.getElem_toArray, List.getElem_cons_succ, List.getElem_cons_zero]
  refine wpAnyH_ready (rs := [7]) (by kernel_rfl) (by simp) ?_
  refine AllReadyH.cons rfl (fun K1 hK1 => ?_) AllReadyH.nil
  go_simp
  refine hK1.out _ _ ⟨d2, s3⟩ (fun hHeld2 => ?_)
  clear hK1
  try simp only [Act.put, List.setIfInBounds_toArray, List.set_cons_zero, List.set_cons_succ, List.getElem_toArray, List.getElem_cons_succ, List.getElem_cons_zero]
  refine wpAnyH_take (i := 8) (v := ?_) rfl (by kernel_rfl) (by kernel_rfl) (by kernel_rfl) (fun _ _ _ h => h) (Or.inl ⟨by rfl, ?_⟩) hHeld2 ?_
  rotate_left
  · (intro W hSw; (try dsimp only at hSw); go_simp; try with_reducible rfl)
  try simp only [Act.put, List.setIfInBounds_toArray, List.set_cons_zero, List.set_cons_succ, List.getElem_toArray, List.getElem_cons_succ, List.getElem_cons_zero]
  refine wpAnyH_take (i := 9) (v := ?_) rfl (by kernel_rfl) (by kernel_rfl) (by kernel_rfl) (fun _ _ _ h => h) (Or.inl ⟨by rfl, ?_⟩) hHeld2 ?_
  rotate_left
  · (intro W hSw; (try dsimp only at hSw); go_simp; try with_reducible rfl)
  try simp only [Act.put, List.setIfInBounds_toArray, List.set_cons_zero, List.set_cons_succ, List.getElem_toArray, List.getElem_cons_succ, List.getElem_cons_zero]
  refine wpAnyH_ready (rs := [10]) (by kernel_rfl) (by simp) ?_
  refine AllReadyH.cons rfl (fun K1 hK1 => ?_) AllReadyH.nil
  go_simp
  refine hK1.out _ _ ⟨(World.cell?_setCell_far w2 ⟨ge, q, none⟩ _ _ geX).trans d2, (World.cell?_setCell_far w2 ⟨ge, q, none⟩ _ _ (by show ge ≠ w.heap.size; exact gew)).trans s3⟩ (fun hHeld3 => ?_)
  clear hK1
  try simp only [Act.put, List.setIfInBounds_toArray, List.set_cons_zero, List.set_cons_succ, List.getElem_toArray, List.getElem_cons_succ, List.getElem_cons_zero]
  refine wpAnyH_done (by kernel_rfl) ?_ _
  try simp only [Act.put, List.setIfInBounds_toArray, List.set_cons_zero, List.set_cons_succ, List.getElem_toArray, List.getElem_cons_succ, List.getElem_cons_zero]
  go_wp2_with fail
  obtain ⟨hO4, hK4⟩ := HO3.out.updE (i := q) (by show q < m.erased.length; omega) (E + 1)
  refine bodyPost_ret (results_none rfl _ _ _) rfl ⟨rfl, _, ?_, HK3.out.trans ⟨hK4.os, hK4.tape, hK4.output, hK4.size, hK4.blk, hK4.own⟩⟩
  rw [HD.out]
  exact ⟨hO4.box, hO4.pages.pure ((Below.refl _ _).drew), own_pure hO4.erased ((Below.refl _ _).drew)⟩
end Go.Proofs.Ytnfjfifdkmgbdaa
