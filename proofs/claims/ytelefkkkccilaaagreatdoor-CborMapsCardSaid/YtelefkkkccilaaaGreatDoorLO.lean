/- An item of a row of one's own is written anew; what spoilt leaves. The states of spoilt: an item in block X, its rows its own. The law's spoilt items. -/
import Derived.Test.YtelefkkkccilaaaGreatDoorLJ
import Derived.Test.YtelefkkkccilaaaGreatDoorXn
import Derived.Test.YtelefkkkccilaaaGreatDoorLL
set_option linter.unusedVariables false
set_option linter.unusedSimpArgs false
namespace Go.Proofs.YtelefkkkccilaaaGreatDoor
open Go.RowKit
set_option maxRecDepth 100000
/-- What can be read and written of the row's item K. -/
theorem OutI.spot {W : World} {base : Nat} {Q : Nat → Prop} {v : Value} {es : List (It × Ad)} (h : OutI W base Q v es) {K : Nat} (hK : K < es.length) :
    ∃ g c, v = .slice (some ⟨g, 0, none⟩) es.length c ∧ v.ownBlock = some g ∧ base ≤ g ∧ g < W.heap.size ∧
      (W.cell? ⟨g, K * 4, none⟩ = some (.int .i64 es[K].1.kind) ∧ W.cell? ⟨g, K * 4 + 1, none⟩ = some (.int .u64 (es[K].1.num : Int)) ∧ W.cell? ⟨g, K * 4 + 2, none⟩ = some (.slice es[K].2.ab es[K].2.nb es[K].2.cb) ∧ W.cell? ⟨g, K * 4 + 3, none⟩ = some (.slice es[K].2.ai es[K].2.ni es[K].2.ci)) ∧
      W.frozen? ⟨g, K * 4, none⟩ = false ∧ W.frozen? ⟨g, K * 4 + 1, none⟩ = false ∧ W.frozen? ⟨g, K * 4 + 2, none⟩ = false ∧ W.frozen? ⟨g, K * 4 + 3, none⟩ = false := by
  rcases h.row.2 with ⟨rfl, he⟩ | ⟨g, cap, cur, rfl, hb, hh, hn, hc, hs, ht⟩
  · omega
  have hc : ∀ j, j < 4 → W.cell? ⟨g, K * 4 + j, none⟩ = (cells4 es[K])[j]? := fun j hj => by
    rw [cell_of_arr hh, ← flat4_get es K hK j hj, ← ht, List.getElem?_take_of_lt (by omega)]; simp
  refine ⟨g, cap, rfl, rfl, hb, lt_of_block hh, ⟨hc 0 (by omega), hc 1 (by omega), hc 2 (by omega), hc 3 (by omega)⟩, ?_⟩
  simp [World.frozen?, hh]
theorem OutI.set' {W W4 : World} {base : Nat} {Q : Nat → Prop} {v : Value} {es : List (It × Ad)} (h : OutI W base Q v es) {K g : Nat} (hK : K < es.length) (hg : v.ownBlock = some g) {y : It} {A : Ad} (hI : IR (okQ Q v) W y A)
    (hcs : ∀ cs : Array Value, W.heap[g]? = some (.cells cs 26 (0, 0)) → W4.heap[g]? = some (.cells ((((cs.setIfInBounds (K * 4) (.int .i64 y.kind)).setIfInBounds (K * 4 + 1) (.int .u64 (y.num : Int))).setIfInBounds (K * 4 + 2) (.slice A.ab A.nb A.cb)).setIfInBounds (K * 4 + 3) (.slice A.ai A.ni A.ci)) 26 (0, 0)))
    (hk : ∀ b, b ≠ g → W4.heap[b]? = W.heap[b]?) : OutI W4 base Q v (es.set K (y, A)) := by
  refine ⟨?_, fun e he => ?_⟩
  · rcases h.row with ⟨hl, ⟨rfl, he⟩ | ⟨g', cap, cur, rfl, hb, hh, hn, hc, hs, ht⟩⟩
    · cases hg
    · have eg : g' = g := Option.some.inj hg
      subst eg
      have s3 := hcs cur hh
      generalize hcur' : (((cur.setIfInBounds (K * 4) (.int .i64 y.kind)).setIfInBounds (K * 4 + 1) (.int .u64 (y.num : Int))).setIfInBounds (K * 4 + 2) (.slice A.ab A.nb A.cb)).setIfInBounds (K * 4 + 3) (.slice A.ai A.ni A.ci) = cur' at s3
      have hsz : cur'.size = cur.size := by rw [← hcur']; simp
      refine ⟨by rw [flat4_len], .inr ⟨g', cap, cur', by rw [List.length_set], hb, s3, by rw [List.length_set]; exact hn, hc, hsz.trans hs, ?_⟩⟩
      apply List.ext_getElem?
      intro t
      rw [List.length_set]
      rcases Nat.lt_or_ge t (es.length * 4) with hlt | hge
      · rw [List.getElem?_take_of_lt hlt]
        have h4 : t / 4 < es.length := by omega
        have e1 := flat4_get (es.set K (y, A)) (t / 4) (by simpa using h4) (t % 4) (by omega)
        have e0 := flat4_get es (t / 4) h4 (t % 4) (by omega)
        rw [show t / 4 * 4 + t % 4 = t by omega] at e1 e0
        rw [e1]
        have hcur : cur[t]? = (cells4 es[t / 4])[t % 4]? := by
          rw [← e0, ← ht, List.getElem?_take_of_lt hlt]; simp
        have htc : t < cur.size := by have := Nat.mul_le_mul_right 4 hn; omega
        rw [Array.getElem?_toList, ← hcur']
        simp only [Array.getElem?_setIfInBounds, Array.size_setIfInBounds, List.getElem_set]
        by_cases hq : K = t / 4
        · rw [if_pos hq]
          have h5 : t % 4 = 0 ∨ t % 4 = 1 ∨ t % 4 = 2 ∨ t % 4 = 3 := by omega
          rcases h5 with h5 | h5 | h5 | h5 <;> rw [h5]
          · rw [if_neg (by omega), if_neg (by omega), if_neg (by omega), if_pos (by omega), if_pos (by omega)]; rfl
          · rw [if_neg (by omega), if_neg (by omega), if_pos (by omega), if_pos (by omega)]; rfl
          · rw [if_neg (by omega), if_pos (by omega), if_pos (by omega)]; rfl
          · rw [if_pos (by omega), if_pos (by omega)]; rfl
        · rw [if_neg hq, if_neg (by omega), if_neg (by omega), if_neg (by omega), if_neg (by omega)]
          exact hcur
      · rw [List.getElem?_eq_none (by simp [hsz]; omega), List.getElem?_eq_none (by rw [flat4_len, List.length_set]; exact hge)]
  · have hIe : IR (okQ Q v) W e.1 e.2 := by
      rcases List.mem_or_eq_of_mem_set he with he | rfl
      · exact h.each e he
      · exact hI
    exact hIe.keep fun b hb _ => ⟨hk b (fun e => hb.2 (e ▸ hg)), hb⟩
theorem OutI.set {W : World} {base : Nat} {Q : Nat → Prop} {v : Value} {es : List (It × Ad)} (h : OutI W base Q v es) {K g : Nat} (hK : K < es.length) (hg : v.ownBlock = some g) {y : It} {A : Ad} (hI : IR (okQ Q v) W y A) :
    OutI ((((W.setCell ⟨g, K * 4, none⟩ (.int .i64 y.kind)).setCell ⟨g, K * 4 + 1, none⟩ (.int .u64 (y.num : Int))).setCell ⟨g, K * 4 + 2, none⟩ (.slice A.ab A.nb A.cb)).setCell ⟨g, K * 4 + 3, none⟩ (.slice A.ai A.ni A.ci)) base Q v (es.set K (y, A)) :=
  h.set' hK hg hI (fun cs hcs => set_arr (set_arr (set_arr (set_arr hcs _ _) _ _) _ _) _ _) fun b hb => by
    have h' : b ≠ g := hb
    rw [Below.heap_setCell _ _ _ _ h', Below.heap_setCell _ _ _ _ h', Below.heap_setCell _ _ _ _ h', Below.heap_setCell _ _ _ _ h']
def SpP (w : World) (e : Ending) (w' : World) : Prop := ∃ y : It, IP y w e w'
def SpC (m : Nat) : Prop := ∀ (x : It) (A : Ad) (w : World) (ok : Nat → Prop) (p q : Int), It.nodes x ≤ m → m ≤ 100000 → It.st x = true → IR ok w x A → Calls Tryz.prog 50 #[.agg #[.int .i64 x.kind, .int .u64 (x.num : Int), .slice A.ab A.nb A.cb, .slice A.ai A.ni A.ci], .int .i64 p, .int .i64 q] w (SpP w)
end Go.Proofs.YtelefkkkccilaaaGreatDoor
namespace Go.Proofs.YtelefkkkccilaaaGreatDoor
open Go.RowKit
set_option maxRecDepth 100000
structure SX (w : World) (k N : Int) (vb vi : Value) (bs : List UInt8) (es : List (It × Ad)) (W : World) : Prop where
  out : OutI W (w.heap.size + 2) (fun b => w.heap.size + 2 ≤ b ∧ vb.ownBlock ≠ some b) vi es
  own : OwnB W (w.heap.size + 2) vb bs
  sep : ∀ g, vb.ownBlock = some g → vi.ownBlock ≠ some g
  blk : W.heap[w.heap.size]? = some (.cells #[.int .i64 k, .int .u64 N, vb, vi] 26 (0, 0))
  res : W.heap[w.heap.size + 1]? = some (.cells #[.int .i64 0, .int .u64 0, .slice none 0 0, .slice none 0 0] 26 (0, 0))
  bel : Below w.heap.size w W
theorem SX.outX {w : World} {k N : Int} {vb vi : Value} {bs : List UInt8} {es : List (It × Ad)} {W W' : World} (h : SX w k N vb vi bs es W) (hk : ∀ b, b ≠ w.heap.size → W'.heap[b]? = W.heap[b]?) : OutI W' (w.heap.size + 2) (fun b => w.heap.size + 2 ≤ b ∧ vb.ownBlock ≠ some b) vi es ∧ OwnB W' (w.heap.size + 2) vb bs :=
  ⟨h.out.keep (fun g hg => hk g (by have := (own_lt h.out.row hg).2.1; omega)) fun b hb _ => hk b (by omega), own_keep h.own fun g hg => hk g (by have := (own_lt h.own hg).2.1; omega)⟩
/-- A cell of the item is written. -/
theorem SX.cell {w : World} {k N k' N' : Int} {vb vi : Value} {bs : List UInt8} {es : List (It × Ad)} {W : World} (h : SX w k N vb vi bs es W) (i : Nat) (v : Value) (hc : (#[.int .i64 k, .int .u64 N, vb, vi] : Array Value).setIfInBounds i v = #[.int .i64 k', .int .u64 N', vb, vi]) : SX w k' N' vb vi bs es (W.setCell ⟨w.heap.size, i, none⟩ v) := by
  obtain ⟨h1, h2⟩ := h.outX (W' := W.setCell ⟨w.heap.size, i, none⟩ v) fun b hb => Below.heap_setCell _ _ _ _ hb
  refine ⟨h1, h2, h.sep, by rw [← hc]; exact set_arr h.blk i v, (Below.heap_setCell _ _ _ _ (by show w.heap.size + 1 ≠ w.heap.size; omega)).trans h.res, h.bel.setCell (p := ⟨w.heap.size, i, none⟩) (Nat.le_refl _) v⟩
theorem SX.pure {w : World} {k N : Int} {vb vi : Value} {bs : List UInt8} {es : List (It × Ad)} {W W' : World} (h : SX w k N vb vi bs es W) (hB : Below W.heap.size W W') : SX w k N vb vi bs es W' :=
  ⟨h.out.pure hB, own_pure h.own hB, h.sep, Below.keep hB h.blk (lt_of_block h.blk), Below.keep hB h.res (lt_of_block h.res), pure_trans h.bel hB⟩
/-- The copy lies in block X. -/
theorem SX.start {x : It} {w w1 w2 : World} {vb vi : Value} {es : List (It × Ad)} (hP : Below w.heap.size w w1) (hs : w1.heap.size = w.heap.size + 2) {c0 c1 c2 c3 : Value} (hX : w1.heap[w.heap.size]? = some (.cells #[c0, c1, c2, c3] 26 (0, 0))) (hR : w1.heap[w.heap.size + 1]? = some (.cells #[.int .i64 0, .int .u64 0, .slice none 0 0, .slice none 0 0] 26 (0, 0)))
    (h1 : OwnB w2 w1.heap.size vb x.bytes) (h2 : OutI w2 w1.heap.size (fun b => w1.heap.size ≤ b ∧ vb.ownBlock ≠ some b) vi es) (h3 : ∀ g, vb.ownBlock = some g → vi.ownBlock ≠ some g) (hB : Below w1.heap.size w1 w2) :
    SX w x.kind x.num vb vi x.bytes es ((((w2.setCell ⟨w.heap.size, 0, none⟩ (.int .i64 x.kind)).setCell ⟨w.heap.size, 1, none⟩ (.int .u64 x.num)).setCell ⟨w.heap.size, 2, none⟩ vb).setCell ⟨w.heap.size, 3, none⟩ vi) := by
  have hX2 := Below.keep hB hX (lt_of_block hX)
  have hR2 := Below.keep hB hR (lt_of_block hR)
  have hk := (put4_keep (W := w2) (b := w.heap.size) (.int .i64 x.kind) (.int .u64 x.num) vb vi).2
  rw [hs] at h1 h2
  refine ⟨h2.keep (fun g hg => hk g (by have := (own_lt h2.row hg).2.1; omega)) fun b hb _ => hk b (by omega), own_keep h1 fun g hg => hk g (by have := (own_lt h1 hg).2.1; omega), h3, put4 hX2 _ _ _ _, (hk _ (by omega)).trans hR2, put4_below (hP.trans (hB.mono (by have := hP.size; omega))) (Nat.le_refl _) _ _ _ _⟩
/-- The result is written. -/
theorem SX.stop {w : World} {k N : Int} {vb vi : Value} {bs : List UInt8} {es : List (It × Ad)} {W : World} (h : SX w k N vb vi bs es W) (h0 : 0 ≤ N) (h1 : N < 18446744073709551616) : SpP w (.returned (.agg #[.int .i64 k, .int .u64 N, vb, vi])) ((((W.setCell ⟨w.heap.size + 1, 0, none⟩ (.int .i64 k)).setCell ⟨w.heap.size + 1, 1, none⟩ (.int .u64 N)).setCell ⟨w.heap.size + 1, 2, none⟩ vb).setCell ⟨w.heap.size + 1, 3, none⟩ vi) := by
  obtain ⟨n, rfl⟩ : ∃ n : Nat, N = n := ⟨N.toNat, by omega⟩
  obtain ⟨A, rfl, rfl, hI⟩ := mk_ir (k := k) (n := n) (by omega) h.own h.out
  have hk := (put4_keep (W := W) (b := w.heap.size + 1) (.int .i64 k) (.int .u64 (n : Int)) (.slice A.ab A.nb A.cb) (.slice A.ai A.ni A.ci)).2
  refine ⟨.mk k n bs (es.map (·.1)), A, rfl, hI.keep fun b hb _ => ⟨hk b (by rcases hb with hb | hb <;> omega), by rcases hb with hb | hb <;> omega⟩, put4_below h.bel (by omega) _ _ _ _⟩
/-- A row grows (the items'). -/
theorem SX.items {w : World} {k N : Int} {vb vi v' : Value} {bs : List UInt8} {es es' : List (It × Ad)} {W W' : World} (h : SX w k N vb vi bs es W) (ho : OutI W' (w.heap.size + 2) (fun b => w.heap.size + 2 ≤ b ∧ vb.ownBlock ≠ some b) v' es') (hgr : W.grownBy W' vi.ownBlock) (hown : v'.ownBlock = vi.ownBlock ∨ v'.ownBlock = some W.heap.size) : SX w k N vb v' bs es' (W'.setCell ⟨w.heap.size, 3, none⟩ v') := by
  have hvi : ∀ b, vi.ownBlock = some b → w.heap.size + 2 ≤ b := fun b e => (own_lt h.out.row e).2.1
  have hk : ∀ b, b < W.heap.size → vi.ownBlock ≠ some b → W'.heap[b]? = W.heap[b]? := fun b hb hn => hgr.block b hb fun e => hn e.symm
  have hx : ∀ b, b ≠ w.heap.size → (W'.setCell ⟨w.heap.size, 3, none⟩ v').heap[b]? = W'.heap[b]? := fun b hb => Below.heap_setCell _ _ _ _ hb
  have hbx := (hk _ (lt_of_block h.blk) (fun e => by have := hvi _ e; omega)).trans h.blk
  refine ⟨ho.keep (fun g hg => hx g (by have := (own_lt ho.row hg).2.1; omega)) fun b hb _ => hx b (by omega), own_keep h.own fun g hg => (hx g (by have := (own_lt h.own hg).2.1; omega)).trans (hk g (own_lt h.own hg).1 (h.sep g hg)), fun g hg => ?_, ?_, (hx _ (by omega)).trans ((hk _ (lt_of_block h.res) (fun e => by have := hvi _ e; omega)).trans h.res), ?_⟩
  · rcases hown with e | e
    · rw [e]; exact h.sep g hg
    · rw [e]; intro e; cases e; have := (own_lt h.own hg).1; omega
  · have := set_arr hbx 3 v'; simpa using this
  · have hb2 : Below w.heap.size w W' := ⟨hgr.os.trans h.bel.os, hgr.tape.trans h.bel.tape, hgr.output.trans h.bel.output, Nat.le_trans h.bel.size hgr.size, fun b hb => (hk b (by have := h.bel.size; omega) (fun e => by have := hvi _ e; omega)).trans (h.bel.block b hb)⟩
    exact hb2.setCell (p := ⟨w.heap.size, 3, none⟩) (Nat.le_refl _) v'
/-- A row grows (the bytes'). -/
theorem SX.bytes {w : World} {k N : Int} {vb vi v' : Value} {bs bs' : List UInt8} {es : List (It × Ad)} {W W' : World} (h : SX w k N vb vi bs es W) (ho : OwnB W' (w.heap.size + 2) v' bs') (hgr : W.grownBy W' vb.ownBlock) (hown : v'.ownBlock = vb.ownBlock ∨ v'.ownBlock = some W.heap.size) : SX w k N v' vi bs' es (W'.setCell ⟨w.heap.size, 2, none⟩ v') := by
  have hvb : ∀ b, vb.ownBlock = some b → w.heap.size + 2 ≤ b := fun b e => (own_lt h.own e).2.1
  have hk : ∀ b, b < W.heap.size → vb.ownBlock ≠ some b → W'.heap[b]? = W.heap[b]? := fun b hb hn => hgr.block b hb fun e => hn e.symm
  have hx : ∀ b, b ≠ w.heap.size → (W'.setCell ⟨w.heap.size, 2, none⟩ v').heap[b]? = W'.heap[b]? := fun b hb => Below.heap_setCell _ _ _ _ hb
  have hbx := (hk _ (lt_of_block h.blk) (fun e => by have := hvb _ e; omega)).trans h.blk
  have hn' : ∀ b, b < W.heap.size → vb.ownBlock ≠ some b → v'.ownBlock ≠ some b := fun b hb hn e => by
    rcases hown with ho | ho
    · exact hn (ho ▸ e)
    · rw [ho] at e; cases e; omega
  have hvn : ∀ g, vi.ownBlock = some g → vb.ownBlock ≠ some g := fun g hg e => h.sep g e hg
  refine ⟨⟨?_, fun e he => ?_⟩, own_keep ho fun g hg => hx g (by have := (own_lt ho hg).2.1; omega), fun g hg hv => ?_, ?_, (hx _ (by omega)).trans ((hk _ (lt_of_block h.res) (fun e => by have := hvb _ e; omega)).trans h.res), ?_⟩
  · exact own_keep h.out.row fun g hg => (hx g (by have := (own_lt h.out.row hg).2.1; omega)).trans (hk g (own_lt h.out.row hg).1 (hvn g hg))
  · exact (h.out.each e he).keep fun b hb hl => ⟨(hx b (by have := hb.1; omega)).trans (hk b hl hb.1.2), ⟨hb.1.1, hn' b hl hb.1.2⟩, hb.2⟩
  · exact hn' g (own_lt h.out.row hv).1 (hvn g hv) hg
  · have := set_arr hbx 2 v'; simpa using this
  · have hb2 : Below w.heap.size w W' := ⟨hgr.os.trans h.bel.os, hgr.tape.trans h.bel.tape, hgr.output.trans h.bel.output, Nat.le_trans h.bel.size hgr.size, fun b hb => (hk b (by have := h.bel.size; omega) (fun e => by have := hvb _ e; omega)).trans (h.bel.block b hb)⟩
    exact hb2.setCell (p := ⟨w.heap.size, 2, none⟩) (Nat.le_refl _) v'
/-- An item of the row is written anew. -/
theorem SX.item {w : World} {k N : Int} {vb vi : Value} {bs : List UInt8} {es : List (It × Ad)} {W : World} (h : SX w k N vb vi bs es W) {K g : Nat} (hK : K < es.length) (hg : vi.ownBlock = some g) {y : It} {A : Ad} (hI : IR (okQ (fun b => w.heap.size + 2 ≤ b ∧ vb.ownBlock ≠ some b) vi) W y A) :
    SX w k N vb vi bs (es.set K (y, A)) ((((W.setCell ⟨g, K * 4, none⟩ (.int .i64 y.kind)).setCell ⟨g, K * 4 + 1, none⟩ (.int .u64 (y.num : Int))).setCell ⟨g, K * 4 + 2, none⟩ (.slice A.ab A.nb A.cb)).setCell ⟨g, K * 4 + 3, none⟩ (.slice A.ai A.ni A.ci)) := by
  have hgb := (own_lt h.out.row hg).2.1
  have hk : ∀ b, b ≠ g → ((((W.setCell ⟨g, K * 4, none⟩ (.int .i64 y.kind)).setCell ⟨g, K * 4 + 1, none⟩ (.int .u64 (y.num : Int))).setCell ⟨g, K * 4 + 2, none⟩ (.slice A.ab A.nb A.cb)).setCell ⟨g, K * 4 + 3, none⟩ (.slice A.ai A.ni A.ci)).heap[b]? = W.heap[b]? := fun b hb => by
    have h' : b ≠ g := hb
    rw [Below.heap_setCell _ _ _ _ h', Below.heap_setCell _ _ _ _ h', Below.heap_setCell _ _ _ _ h', Below.heap_setCell _ _ _ _ h']
  refine ⟨h.out.set hK hg hI, own_keep h.own fun g' hg' => hk g' (fun e => h.sep g' hg' (e ▸ hg)), h.sep, (hk _ (by omega)).trans h.blk, (hk _ (by omega)).trans h.res, ?_⟩
  exact (((h.bel.setCell (p := ⟨g, K * 4, none⟩) (by show w.heap.size ≤ g; omega) _).setCell (p := ⟨g, K * 4 + 1, none⟩) (by show w.heap.size ≤ g; omega) _).setCell (p := ⟨g, K * 4 + 2, none⟩) (by show w.heap.size ≤ g; omega) _).setCell (p := ⟨g, K * 4 + 3, none⟩) (by show w.heap.size ≤ g; omega) _
end Go.Proofs.YtelefkkkccilaaaGreatDoor
namespace Go.Proofs.YtelefkkkccilaaaGreatDoor
open Go.RowKit
set_option maxRecDepth 100000
theorem u64_in (x : Int) : 0 ≤ IntKind.u64.wrap x ∧ IntKind.u64.wrap x < 18446744073709551616 := by simp [IntKind.wrap, IntKind.bits, IntKind.signed]; omega
theorem u8_in (x : Int) : 0 ≤ IntKind.u8.wrap x ∧ IntKind.u8.wrap x < 256 := by simp [IntKind.wrap, IntKind.bits, IntKind.signed]; omega
theorem mod_lt (a n : Int) (w : World) (hn : 1 ≤ n) (hn' : n ≤ 9223372036854775807) : Calls Tryz.prog 35 #[.int .i64 a, .int .i64 n] w fun e w' => ∃ s, 0 ≤ s ∧ s < n ∧ e = .returned (.int .i64 s) ∧ w = w' :=
  (mod_any a n w hn hn').mono fun e w' h => ⟨a % n, Int.emod_nonneg a (by omega), Int.emod_lt_of_pos a (by omega), h.1, h.2⟩
set_option maxHeartbeats 16000000 in
theorem sp_one (k N : Int) (bs : List UInt8) (ks : List It) (ab ai : Option Addr) (nb cb ni ci : Nat) (w : World) (ok : Nat → Prop) (n : Nat) (p q : Int) (hN : N = n) (hn : n < 18446744073709551616) (hq0 : -9223372036854775808 ≤ q) (hq1 : q ≤ 9223372036854775807) (hl : bs.length ≤ 4096) (hk : ks.length ≤ 100000)
    (hcopy : ∀ W, Below w.heap.size w W → Calls Tryz.prog 94 #[.agg #[.int .i64 k, .int .u64 N, .slice ab nb cb, .slice ai ni ci]] W (CPost (.mk k n bs ks) W))
    (hkid : ∀ (j : Nat) (h : j < ks.length) (A : Ad) (W : World) (ok' : Nat → Prop) (p q : Int), -9223372036854775808 ≤ q → q ≤ 9223372036854775807 → IR ok' W ks[j] A → Calls Tryz.prog 50 #[.agg #[.int .i64 ks[j].kind, .int .u64 (ks[j].num : Int), .slice A.ab A.nb A.cb, .slice A.ai A.ni A.ci], .int .i64 p, .int .i64 q] W (SpP W)) :
    Calls Tryz.prog 50 #[.agg #[.int .i64 k, .int .u64 N, .slice ab nb cb, .slice ai ni ci], .int .i64 p, .int .i64 q] w (SpP w) := by
  have P0 := pure_alloc w (.cells #[.int .i64 k, .int .u64 N, .slice ab nb cb, .slice ai ni ci] 26)
  have N0 := alloc_new w (.cells #[.int .i64 k, .int .u64 N, .slice ab nb cb, .slice ai ni ci] 26)
  have P1 := pure_alloc (w.alloc (.cells #[.int .i64 k, .int .u64 N, .slice ab nb cb, .slice ai ni ci] 26)) (.cells #[.int .i64 0, .int .u64 0, .slice none 0 0, .slice none 0 0] 26)
  have N1 := alloc_new (w.alloc (.cells #[.int .i64 k, .int .u64 N, .slice ab nb cb, .slice ai ni ci] 26)) (.cells #[.int .i64 0, .int .u64 0, .slice none 0 0, .slice none 0 0] 26)
  have HX1 := Lib.hid (Below.keep P1 N0 (lt_of_block N0))
  have HR1 := Lib.hid N1
  have HP1 := Lib.hid (pure_trans P0 P1)
  have HKID := Lib.hid hkid
  have HCP := Lib.hid hcopy
  have HN := Lib.hid hN
  have HL := Lib.hid hl
  have HK := Lib.hid hk
  have HNN : Hid (0 ≤ N ∧ N < 18446744073709551616) := Lib.hid (by omega)
  have hsz1 : ((w.alloc (.cells #[.int .i64 k, .int .u64 N, .slice ab nb cb, .slice ai ni ci] 26)).alloc (.cells #[.int .i64 0, .int .u64 0, .slice none 0 0, .slice none 0 0] 26)).heap.size = w.heap.size + 2 := by simp
  have hsz0 : (w.alloc (.cells #[.int .i64 k, .int .u64 N, .slice ab nb cb, .slice ai ni ci] 26)).heap.size = w.heap.size + 1 := by simp
  rw [hsz0] at HR1
  have HS1 := Lib.hid hsz1
  clear hkid hcopy hN hl hk N0 N1 P0 P1 hsz1 hsz0
  go_enter Tryz.func50, Tryz.ntmps50
  go_upto_region 1 with fail
  generalize hw1 : (w.alloc (.cells #[.int .i64 k, .int .u64 N, .slice ab nb cb, .slice ai ni ci] 26)).alloc (.cells #[.int .i64 0, .int .u64 0, .slice none 0 0, .slice none 0 0] 26) = w1 at *
  clear hw1
  obtain ⟨x0, x1, x2, x3⟩ := cell_of4 HX1.out
  go_wp2_with fail
  refine (HCP.out _ HP1.out).mono ?_
  rintro e w2 ⟨vb, vi, es, rfl, h1, h2, h3, h4, h5⟩
  have HSX := Lib.hid (SX.start (x := .mk k n bs ks) HP1.out HS1.out HX1.out HR1.out h1 h2 h3 h5)
  simp only [It.kind, It.num, It.bytes, It.kids] at HSX h4 h1 ⊢
  have hNc := HN.out
  rw [← hNc] at HSX
  simp only [← hNc]
  clear hNc
  have HES := Lib.hid h4
  obtain ⟨a2, c2, e2⟩ := own_form h1
  obtain ⟨a3, c3, e3⟩ := own_form h2.row
  have hes : es.length = ks.length := by rw [← h4, List.length_map]
  obtain ⟨nb', hnb⟩ : ∃ m, m = bs.length := ⟨_, rfl⟩
  obtain ⟨ni', hni⟩ : ∃ m, m = es.length := ⟨_, rfl⟩
  rw [← hnb] at e2
  rw [← hni] at e3
  have HNB := Lib.hid hnb
  have HNI := Lib.hid hni
  have hnk : ni' ≤ 100000 := by have := HK.out; omega
  have HEK := Lib.hid hes
  clear hnb hni hes
  subst e2
  subst e3
  obtain ⟨z0, z1, z2, z3⟩ := cell_of4 (Below.keep h5 HX1.out (lt_of_block HX1.out))
  obtain ⟨q0, q1, q2, q3⟩ := frozen_of4 (Below.keep h5 HX1.out (lt_of_block HX1.out))
  clear h1 h2 h3 h4 h5 x0 x1 x2 x3
  go_upto_region 2 with fail
  clear z0 z1 z2 z3 q0 q1 q2 q3
  generalize hW3 : (((w2.setCell ⟨w.heap.size, 0, none⟩ (.int .i64 k)).setCell ⟨w.heap.size, 1, none⟩ (.int .u64 N)).setCell ⟨w.heap.size, 2, none⟩ (.slice a2 nb' c2)).setCell ⟨w.heap.size, 3, none⟩ (.slice a3 ni' c3) = u at *
  clear hW3
  obtain ⟨m0, m1, m2, m3⟩ := cell_of4 HSX.out.blk
  obtain ⟨f0, f1, f2, f3⟩ := frozen_of4 HSX.out.blk
  by_cases h0 : 0 < ni'
  · have h0z : 0 < (ni' : Int) := by omega
    have h0d : decide (0 < (ni' : Int)) = true := decide_eq_true h0z
    have h0e : decide (0 < ni') = true := decide_eq_true h0
    go_wp2_with fail
    refine (mod_lt p 3 u (by decide) (by decide)).mono ?_
    rintro e w' ⟨s3, hs0, hs3, rfl, rfl⟩
    by_cases hp : 0 < s3
    · have hpd : decide (0 < s3) = true := decide_eq_true hp
      have hXl : w.heap.size < u.heap.size := lt_of_block HSX.out.blk
      go_wp2_with fail
      refine (mod_lt q ni' u (by omega) (by omega)).mono ?_
      rintro e w' ⟨s4, hs40, hs4n, rfl, rfl⟩
      obtain ⟨K, rfl⟩ : ∃ K : Nat, s4 = K := ⟨s4.toNat, by omega⟩
      have hKn : K < ni' := by omega
      have hKe : K < es.length := by have := HNI.out; omega
      obtain ⟨g, c, ev, hown, hbg, hgl, ⟨y0, y1, y2, y3⟩, l0, l1, l2, l3⟩ := HSX.out.out.spot hKe
      simp only [Value.slice.injEq] at ev
      obtain ⟨ev1, ev2, ev3⟩ := ev
      clear ev2 ev3
      subst ev1
      have HOWN := Lib.hid hown
      have hks : ks[K]'(by have := HEK.out; omega) = es[K].1 := by have := HES.out; subst this; simp
      have hIe := HSX.out.out.each _ (List.getElem_mem hKe)
      obtain ⟨e, he⟩ : ∃ e, e = es[K] := ⟨_, rfl⟩
      rw [← he] at y0 y1 y2 y3 hks hIe
      have hq7 : -9223372036854775808 ≤ IntKind.i64.wrap (q.tdiv 7) ∧ IntKind.i64.wrap (q.tdiv 7) ≤ 9223372036854775807 := by simp [IntKind.wrap, IntKind.bits, IntKind.signed]; omega
      have CA := Lib.hid (fun W (hW : Below u.heap.size u W) => HKID.out K (by have := HEK.out; omega) e.2 W _ (IntKind.i64.wrap (p.tdiv 3)) (IntKind.i64.wrap (q.tdiv 7)) hq7.1 hq7.2 (by rw [hks]; exact hIe.below hW))
      rw [hks] at CA
      clear hks hIe he hq7 hown hbg hgl l0 l1 l2 l3
      go_wp2_with fail
      refine wp_region_held_drew (S := (fun w' => w'.cell? ⟨w.heap.size, 3, none⟩ = some (.slice (some ⟨g, 0, none⟩) ni' c3))) (by kernel_rfl) m3 (fun hHeld => ?_)
      refine wpAnyH_take (i := 0) (v := ?_) rfl (by kernel_rfl) (by kernel_rfl) (by kernel_rfl) (fun _ _ _ h => h) (Or.inl ⟨by rfl, ?_⟩) hHeld ?_
      rotate_left
      · (intro W hSw; (try dsimp only at hSw); go_simp; try with_reducible rfl)
      try simp only [Act.put, List.setIfInBounds_toArray, List.set_cons_zero, List.set_cons_succ, List.getElem_toArray, List.getElem_cons_succ, List.getElem_cons_zero]
      refine wpAnyH_take (i := 1) (v := ?_) rfl (by kernel_rfl) (by kernel_rfl) (by kernel_rfl) (fun _ _ _ h => h) (Or.inl ⟨by rfl, ?_⟩) hHeld ?_
      rotate_left
      · (intro W hSw; (try dsimp only at hSw); go_simp; try with_reducible rfl)
      try simp only [Act.put, List.setIfInBounds_toArray, List.set_cons_zero, List.set_cons_succ, List.getElem_toArray, List.getElem_cons_succ, List.getElem_cons_zero]
      refine wpAnyH_take (i := 2) (v := ?_) rfl (by kernel_rfl) (by kernel_rfl) (by kernel_rfl) (fun _ _ _ h => h) (Or.inl ⟨by rfl, ?_⟩) hHeld ?_
      rotate_left
      · (intro W hSw; (try dsimp only at hSw); go_simp; try with_reducible rfl)
      try simp only [Act.put, List.setIfInBounds_toArray, List.set_cons_zero, List.set_cons_succ, List.getElem_toArray, List.getElem_cons_succ, List.getElem_cons_zero]
      refine wpAnyH_take (i := 3) (v := ?_) rfl (by kernel_rfl) (by kernel_rfl) (by kernel_rfl) (fun _ _ _ h => h) (Or.inl ⟨by rfl, ?_⟩) hHeld ?_
      rotate_left
      · (intro W hSw; (try dsimp only at hSw); go_simp; try with_reducible rfl)
      try simp only [Act.put, List.setIfInBounds_toArray, List.set_cons_zero, List.set_cons_succ, List.getElem_toArray, List.getElem_cons_succ, List.getElem_cons_zero]
      refine wpAnyH_take (i := 4) (v := ?_) rfl (by kernel_rfl) (by kernel_rfl) (by kernel_rfl) (fun _ _ _ h => h) (Or.inl ⟨by rfl, ?_⟩) hHeld ?_
      rotate_left
      · (intro W hSw; (try dsimp only at hSw); go_simp; try with_reducible rfl)
      try simp only [Act.put, List.setIfInBounds_toArray, List.set_cons_zero, List.set_cons_succ, List.getElem_toArray, List.getElem_cons_succ, List.getElem_cons_zero]
      refine wpAnyH_take (i := 5) (v := ?_) rfl (by kernel_rfl) (by kernel_rfl) (by kernel_rfl) (fun _ _ _ h => h) (Or.inl ⟨by rfl, ?_⟩) hHeld ?_
      rotate_left
      · (intro W hSw; (try dsimp only at hSw); go_simp; try with_reducible rfl)
      try simp only [Act.put, List.setIfInBounds_toArray, List.set_cons_zero, List.set_cons_succ, List.getElem_toArray, List.getElem_cons_succ, List.getElem_cons_zero]
      refine wpAnyH_take (i := 6) (v := ?_) rfl (by kernel_rfl) (by kernel_rfl) (by kernel_rfl) (fun _ _ _ h => h) (Or.inl ⟨by rfl, ?_⟩) hHeld ?_
      rotate_left
      · (intro W hSw; (try dsimp only at hSw); go_simp; try with_reducible rfl)
      try simp only [Act.put, List.setIfInBounds_toArray, List.set_cons_zero, List.set_cons_succ, List.getElem_toArray, List.getElem_cons_succ, List.getElem_cons_zero]
      refine wpAnyH_take (i := 8) (v := ?_) rfl (by kernel_rfl) (by kernel_rfl) (by kernel_rfl) (fun _ _ _ h => h) (Or.inl ⟨by rfl, ?_⟩) hHeld ?_
      rotate_left
      · (intro W hSw; (try dsimp only at hSw); go_simp; try with_reducible rfl)
      try simp only [Act.put, List.setIfInBounds_toArray, List.set_cons_zero, List.set_cons_succ, List.getElem_toArray, List.getElem_cons_succ, List.getElem_cons_zero]
      refine wpAnyH_take (i := 9) (v := ?_) rfl (by kernel_rfl) (by kernel_rfl) (by kernel_rfl) (fun _ _ _ h => h) (Or.inl ⟨by rfl, ?_⟩) hHeld ?_
      rotate_left
      · (intro W hSw; (try dsimp only at hSw); go_simp; try with_reducible rfl)
      try simp only [Act.put, List.setIfInBounds_toArray, List.set_cons_zero, List.set_cons_succ, List.getElem_toArray, List.getElem_cons_succ, List.getElem_cons_zero]
      refine wpAnyH_take (i := 10) (v := ?_) rfl (by kernel_rfl) (by kernel_rfl) (by kernel_rfl) (fun _ _ _ h => h) (Or.inl ⟨by rfl, ?_⟩) hHeld ?_
      rotate_left
      · (intro W hSw; (try dsimp only at hSw); go_simp; try with_reducible rfl)
      try simp only [Act.put, List.setIfInBounds_toArray, List.set_cons_zero, List.set_cons_succ, List.getElem_toArray, List.getElem_cons_succ, List.getElem_cons_zero]
      refine wpAnyH_take (i := 11) (v := ?_) rfl (by kernel_rfl) (by kernel_rfl) (by kernel_rfl) (fun _ _ _ h => h) (Or.inl ⟨by rfl, ?_⟩) hHeld ?_
      rotate_left
      · (intro W hSw; (try dsimp only at hSw); go_simp; try with_reducible rfl)
      try simp only [Act.put, List.setIfInBounds_toArray, List.set_cons_zero, List.set_cons_succ, List.getElem_toArray, List.getElem_cons_succ, List.getElem_cons_zero]
      refine wpAnyH_ready (rs := [7]) (by kernel_rfl) (by simp) ?_
      refine AllReadyH.cons rfl (fun K1 hK1 => ?_) AllReadyH.nil
      go_simp
      refine hK1.out _ _ hHeld (fun hHeld => ?_)
      clear hK1
      try simp only [Act.put, List.setIfInBounds_toArray, List.set_cons_zero, List.set_cons_succ, List.getElem_toArray, List.getElem_cons_succ, List.getElem_cons_zero]
      refine wpAnyH_ready (rs := [12]) (by kernel_rfl) (by simp) ?_
      refine AllReadyH.cons rfl (fun K1 hK1 => ?_) AllReadyH.nil
      go_simp
      refine (CA.out _ (below_drewN (Below.refl _ _) 1)).mono ?_
      rintro e8 v8 ⟨y8, A8, rfl, hI8, hB8⟩
      have HB8 := Lib.hid (pure_trans (below_drewN (Below.refl u.heap.size u) 1) hB8)
      have HI8 := Lib.hid (hI8.imp (ok' := fun b => u.heap.size ≤ b) fun b hb _ => hb)
      clear hI8 hB8
      have HSP := Lib.hid (HSX.out.pure HB8.out)
      obtain ⟨g', c', ev', hown', hbg', hgl', ⟨j0, j1, j2, j3⟩, l0, l1, l2, l3⟩ := HSP.out.out.spot (K := K) (by have := HNI.out; omega)
      have eg : g' = g := by rw [HOWN.out] at hown'; exact (Option.some.inj hown').symm
      subst eg
      have hsx := HSX.out.bel.size
      have hrl := lt_of_block HSX.out.res
      have HS9 := Lib.hid (HSP.out.item (K := K) (by have := HNI.out; omega) hown' (HI8.out.imp fun b hb _ => ⟨⟨by omega, fun e => by have := (own_lt HSX.out.own e).1; omega⟩, fun e => by have := (own_lt HSX.out.out.row e).1; omega⟩))
      clear ev' hown' hbg' hgl'
      refine hK1.out _ _ ((HB8.out.cell (p := ⟨w.heap.size, 3, none⟩) hXl).trans m3) (fun hHeld => ?_)
      clear hK1
      try simp only [Act.put, List.setIfInBounds_toArray, List.set_cons_zero, List.set_cons_succ, List.getElem_toArray, List.getElem_cons_succ, List.getElem_cons_zero]
      refine wpAnyH_take (i := 13) (v := ?_) rfl (by kernel_rfl) (by kernel_rfl) (by kernel_rfl) (fun _ _ _ h => h) (Or.inl ⟨by rfl, ?_⟩) hHeld ?_
      rotate_left
      · (intro W hSw; (try dsimp only at hSw); go_simp; try with_reducible rfl)
      try simp only [Act.put, List.setIfInBounds_toArray, List.set_cons_zero, List.set_cons_succ, List.getElem_toArray, List.getElem_cons_succ, List.getElem_cons_zero]
      refine wpAnyH_ready (rs := [14]) (by kernel_rfl) (by simp) ?_
      refine AllReadyH.cons rfl (fun K1 hK1 => ?_) AllReadyH.nil
      go_simp
      obtain ⟨d0, d1, d2, d3⟩ := cell_of4 HS9.out.blk
      refine hK1.out _ _ d3 (fun hHeld => ?_)
      clear hK1 d0 d1 d2 d3
      try simp only [Act.put, List.setIfInBounds_toArray, List.set_cons_zero, List.set_cons_succ, List.getElem_toArray, List.getElem_cons_succ, List.getElem_cons_zero]
      refine wpAnyH_done (by kernel_rfl) ?_ _
      try simp only [Act.put, List.setIfInBounds_toArray, List.set_cons_zero, List.set_cons_succ, List.getElem_toArray, List.getElem_cons_succ, List.getElem_cons_zero]
      clear hHeld m0 m1 m2 m3 f0 f1 f2 f3 j0 j1 j2 j3 l0 l1 l2 l3 y0 y1 y2 y3
      generalize (((v8.setCell ⟨g', K * 4, none⟩ (.int .i64 y8.kind)).setCell ⟨g', K * 4 + 1, none⟩ (.int .u64 (y8.num : Int))).setCell ⟨g', K * 4 + 2, none⟩ (.slice A8.ab A8.nb A8.cb)).setCell ⟨g', K * 4 + 3, none⟩ (.slice A8.ai A8.ni A8.ci) = u7 at *
      obtain ⟨m0, m1, m2, m3⟩ := cell_of4 HS9.out.blk
      obtain ⟨r0, r1, r2, r3⟩ := cell_of4 HS9.out.res
      obtain ⟨q0, q1, q2, q3⟩ := frozen_of4 HS9.out.res
      go_wp2_with fail
      have hp4 := put4 HS9.out.res (.int .i64 k) (.int .u64 N) ((.slice a2 nb' c2)) ((.slice (some ⟨g', 0, none⟩) ni' c3))
      have hst := HS9.out.stop HNN.out.1 HNN.out.2
      generalize ((((u7).setCell ⟨w.heap.size + 1, 0, none⟩ (.int .i64 k)).setCell ⟨w.heap.size + 1, 1, none⟩ (.int .u64 N)).setCell ⟨w.heap.size + 1, 2, none⟩ ((.slice a2 nb' c2))).setCell ⟨w.heap.size + 1, 3, none⟩ ((.slice (some ⟨g', 0, none⟩) ni' c3)) = W9 at *
      obtain ⟨g0, g1, g2, g3⟩ := cell_of4 hp4
      refine bodyPost_ret (v := .agg #[.int .i64 k, .int .u64 N, (.slice a2 nb' c2), (.slice (some ⟨g', 0, none⟩) ni' c3)]) (by simp [results, Tryz.results50, go_sem, g0, g1, g2, g3]) rfl ?_
      exact hst

    · have hpd : decide (0 < s3) = false := decide_eq_false hp
      go_wp2_with fail
      refine (mod_lt _ 5 u (by decide) (by decide)).mono ?_
      rintro e w' ⟨s, hs0, hs5, rfl, rfl⟩
      rcases (show s = 0 ∨ s = 1 ∨ s = 2 ∨ s = 3 ∨ s = 4 by omega) with rfl | rfl | rfl | rfl | rfl
      · go_wp2_with fail
        refine (mod_lt q 11 u (by decide) (by decide)).mono ?_
        rintro e w' ⟨t, ht0, ht1, rfl, rfl⟩
        obtain ⟨t1, ht⟩ : ∃ t1, IntKind.i64.wrap (t - 1) = t1 := ⟨_, rfl⟩
        have HS9 := Lib.hid (HSX.out.cell (k' := t1) (N' := N) 0 (.int .i64 t1) (by simp))
        go_upto_region 16 with fail
        clear m0 m1 m2 m3 f0 f1 f2 f3
        generalize hW7 : u.setCell ⟨w.heap.size, 0, none⟩ (.int .i64 t1) = u7 at *
        clear hW7
        obtain ⟨m0, m1, m2, m3⟩ := cell_of4 HS9.out.blk
        obtain ⟨r0, r1, r2, r3⟩ := cell_of4 HS9.out.res
        obtain ⟨q0, q1, q2, q3⟩ := frozen_of4 HS9.out.res
        go_wp2_with fail
        have hp4 := put4 HS9.out.res (.int .i64 t1) (.int .u64 N) ((.slice a2 nb' c2)) ((.slice a3 ni' c3))
        have hst := HS9.out.stop HNN.out.1 HNN.out.2
        generalize ((((u7).setCell ⟨w.heap.size + 1, 0, none⟩ (.int .i64 t1)).setCell ⟨w.heap.size + 1, 1, none⟩ (.int .u64 N)).setCell ⟨w.heap.size + 1, 2, none⟩ ((.slice a2 nb' c2))).setCell ⟨w.heap.size + 1, 3, none⟩ ((.slice a3 ni' c3)) = W9 at *
        obtain ⟨g0, g1, g2, g3⟩ := cell_of4 hp4
        refine bodyPost_ret (v := .agg #[.int .i64 t1, .int .u64 N, (.slice a2 nb' c2), (.slice a3 ni' c3)]) (by simp [results, Tryz.results50, go_sem, g0, g1, g2, g3]) rfl ?_
        exact hst

      · obtain ⟨N2, hN2⟩ : ∃ N2, IntKind.u64.wrap (N + IntKind.u64.wrap q) = N2 := ⟨_, rfl⟩
        have HN2 : Hid (0 ≤ N2 ∧ N2 < 18446744073709551616) := Lib.hid (by rw [← hN2]; exact u64_in _)
        have HS9 := Lib.hid (HSX.out.cell (k' := k) (N' := N2) 1 (.int .u64 N2) (by simp))
        go_upto_region 16 with fail
        clear m0 m1 m2 m3 f0 f1 f2 f3
        generalize hW7 : u.setCell ⟨w.heap.size, 1, none⟩ (.int .u64 N2) = u7 at *
        clear hW7
        obtain ⟨m0, m1, m2, m3⟩ := cell_of4 HS9.out.blk
        obtain ⟨r0, r1, r2, r3⟩ := cell_of4 HS9.out.res
        obtain ⟨q0, q1, q2, q3⟩ := frozen_of4 HS9.out.res
        go_wp2_with fail
        have hp4 := put4 HS9.out.res (.int .i64 k) (.int .u64 N2) ((.slice a2 nb' c2)) ((.slice a3 ni' c3))
        have hst := HS9.out.stop HN2.out.1 HN2.out.2
        generalize ((((u7).setCell ⟨w.heap.size + 1, 0, none⟩ (.int .i64 k)).setCell ⟨w.heap.size + 1, 1, none⟩ (.int .u64 N2)).setCell ⟨w.heap.size + 1, 2, none⟩ ((.slice a2 nb' c2))).setCell ⟨w.heap.size + 1, 3, none⟩ ((.slice a3 ni' c3)) = W9 at *
        obtain ⟨g0, g1, g2, g3⟩ := cell_of4 hp4
        refine bodyPost_ret (v := .agg #[.int .i64 k, .int .u64 N2, (.slice a2 nb' c2), (.slice a3 ni' c3)]) (by simp [results, Tryz.results50, go_sem, g0, g1, g2, g3]) rfl ?_
        exact hst

      · obtain ⟨c8, hc8⟩ : ∃ c8 : UInt8, IntKind.u8.wrap q = (c8.toNat : Int) := ⟨UInt8.ofNat (IntKind.u8.wrap q).toNat, by have := u8_in q; simp; omega⟩
        have P8 := pure_alloc u (.cells #[.int .u8 (c8.toNat : Int)] 5)
        have N8 := alloc_new u (.cells #[.int .u8 (c8.toNat : Int)] 5)
        have R8 : BR (fun _ => True) (u.alloc (.cells #[.int .u8 (c8.toNat : Int)] 5)) (some ⟨u.heap.size, 0, none⟩) 1 [c8] := by
          refine ⟨rfl, by omega, fun i hi => ⟨u.heap.size, 0, rfl, trivial, ?_⟩⟩
          simp at hi
          subst hi
          rw [cell_of_arr N8]; rfl
        have HSP := Lib.hid (HSX.out.pure P8)
        obtain ⟨a9, c9, W9, hrun, hO, hgr, hown⟩ := app_bytes (u.alloc (.cells #[.int .u8 (c8.toNat : Int)] 5)) (w.heap.size + 2) (.slice a2 nb' c2) bs HSP.out.own _ 1 1 _ _ R8 (by have := HL.out; omega) (by have := HSX.out.bel.size; have := lt_of_block HSX.out.res; have := P8.size; omega)
        generalize bs.length + 1 = n9 at *
        have HS9 := Lib.hid (HSP.out.bytes hO hgr hown)
        have hb9 : W9.heap[w.heap.size]? = some (.cells #[.int .i64 k, .int .u64 N, (.slice a2 nb' c2), (.slice a3 ni' c3)] 26 (0, 0)) := (hgr.block _ (lt_of_block HSP.out.blk) (fun e => by have := (own_lt HSP.out.own e.symm).2.1; omega)).trans HSP.out.blk
        obtain ⟨x0, x1, x2, x3⟩ := cell_of4 hb9
        obtain ⟨p0, p1, p2, p3⟩ := frozen_of4 hb9
        clear hb9 hO hgr hown N8 P8 R8
        obtain ⟨m0, m1, m2, m3⟩ := cell_of4 HS9.out.blk
        obtain ⟨r0, r1, r2, r3⟩ := cell_of4 HS9.out.res
        obtain ⟨q0, q1, q2, q3⟩ := frozen_of4 HS9.out.res
        go_wp2_with (at_builtin; refine wpList_app rfl _ _ 23 rfl rfl rfl hrun ?_)
        have hp4 := put4 HS9.out.res (.int .i64 k) (.int .u64 N) ((.slice a9 n9 c9)) ((.slice a3 ni' c3))
        have hst := HS9.out.stop HNN.out.1 HNN.out.2
        generalize ((((W9.setCell ⟨w.heap.size, 2, none⟩ (.slice a9 n9 c9)).setCell ⟨w.heap.size + 1, 0, none⟩ (.int .i64 k)).setCell ⟨w.heap.size + 1, 1, none⟩ (.int .u64 N)).setCell ⟨w.heap.size + 1, 2, none⟩ ((.slice a9 n9 c9))).setCell ⟨w.heap.size + 1, 3, none⟩ ((.slice a3 ni' c3)) = W9 at *
        obtain ⟨g0, g1, g2, g3⟩ := cell_of4 hp4
        refine bodyPost_ret (v := .agg #[.int .i64 k, .int .u64 N, (.slice a9 n9 c9), (.slice a3 ni' c3)]) (by simp [results, Tryz.results50, go_sem, g0, g1, g2, g3]) rfl ?_
        exact hst

      · have hXl : w.heap.size < u.heap.size := lt_of_block HSX.out.blk
        go_upto_region 15 with fail
        refine wp_region_held_drew (S := (fun w' => True)) (by kernel_rfl) trivial (fun hHeld => ?_)
        refine wpAnyH_take (i := 0) (v := ?_) rfl (by kernel_rfl) (by kernel_rfl) (by kernel_rfl) (fun _ _ _ h => h) (Or.inl ⟨by rfl, ?_⟩) hHeld ?_
        rotate_left
        · (intro W hSw; (try dsimp only at hSw); go_simp; try with_reducible rfl)
        try simp only [Act.put, List.setIfInBounds_toArray, List.set_cons_zero, List.set_cons_succ, List.getElem_toArray, List.getElem_cons_succ, List.getElem_cons_zero]
        refine wpAnyH_take (i := 2) (v := ?_) rfl (by kernel_rfl) (by kernel_rfl) (by kernel_rfl) (fun _ _ _ h => h) (Or.inl ⟨by rfl, ?_⟩) hHeld ?_
        rotate_left
        · (intro W hSw; (try dsimp only at hSw); go_simp; try with_reducible rfl)
        try simp only [Act.put, List.setIfInBounds_toArray, List.set_cons_zero, List.set_cons_succ, List.getElem_toArray, List.getElem_cons_succ, List.getElem_cons_zero]
        refine wpAnyH_ready (rs := [1, 3]) (by kernel_rfl) (by simp) ?_
        refine AllReadyH.cons rfl (fun K1 hK1 => ?_) (AllReadyH.cons rfl (fun K1 hK1 => ?_) AllReadyH.nil)
        · go_simp
          refine hK1.out _ _ hHeld (fun hHeld => ?_)
          clear hK1
          try simp only [Act.put, List.setIfInBounds_toArray, List.set_cons_zero, List.set_cons_succ, List.getElem_toArray, List.getElem_cons_succ, List.getElem_cons_zero]
          refine wpAnyH_ready (rs := [3]) (by kernel_rfl) (by simp) ?_
          refine AllReadyH.cons rfl (fun K1 hK1 => ?_) AllReadyH.nil
          go_simp
          refine (rint_any q hq0 hq1 _).mono ?_
          rintro e v8 ⟨A8, rfl, hI8, hB8⟩
          have HB8 := Lib.hid (pure_trans (below_drewN (Below.refl u.heap.size u) 1) hB8)
          generalize intIt q = y8 at *
          have HI8 := Lib.hid (hI8.imp (ok' := fun b => u.heap.size ≤ b) fun b hb _ => hb)
          clear hI8 hB8
          have m3' := (HB8.out.cell (p := ⟨w.heap.size, 3, none⟩) hXl).trans m3
          refine hK1.out _ _ trivial (fun hHeld => ?_)
          clear hK1
          try simp only [Act.put, List.setIfInBounds_toArray, List.set_cons_zero, List.set_cons_succ, List.getElem_toArray, List.getElem_cons_succ, List.getElem_cons_zero]
          refine wpAnyH_ready (rs := [4]) (by kernel_rfl) (by simp) ?_
          refine AllReadyH.cons rfl (fun K1 hK1 => ?_) AllReadyH.nil
          go_simp
          have P9 := pure_alloc v8 (.cells #[.int .i64 y8.kind, .int .u64 (y8.num : Int), .slice A8.ab A8.nb A8.cb, .slice A8.ai A8.ni A8.ci] 26)
          have N9 := alloc_new v8 (.cells #[.int .i64 y8.kind, .int .u64 (y8.num : Int), .slice A8.ab A8.nb A8.cb, .slice A8.ai A8.ni A8.ci] 26)
          have HSP := Lib.hid (HSX.out.pure (pure_trans HB8.out P9))
          have hsx := HSX.out.bel.size
          obtain ⟨v9, W9, hrun, hO, hgr, hown⟩ := HSP.out.out.app (news := [(y8, A8)]) (m := 1) (c := 1) (SrcI.one N9) (fun e he => by
            simp only [List.mem_singleton] at he
            subst he
            exact (HI8.out.below P9).imp fun b hb _ => ⟨⟨by have := lt_of_block HSX.out.res; omega, fun e => by have := (own_lt HSX.out.own e).1; omega⟩, fun e => by have := (own_lt HSX.out.out.row e).1; omega⟩) (by have := HNI.out; omega) (by have := HSP.out.bel.size; have := lt_of_block HSP.out.res; omega)
          obtain ⟨a9, c9, e9⟩ := own_form hO.row
          generalize (es ++ [(y8, A8)]).length = n9 at e9
          subst e9
          have HS9 := Lib.hid (HSP.out.items hO hgr hown)
          have hb9 : W9.heap[w.heap.size]? = some (.cells #[.int .i64 k, .int .u64 N, (.slice a2 nb' c2), (.slice a3 ni' c3)] 26 (0, 0)) := (hgr.block _ (lt_of_block HSP.out.blk) (fun e => by have := (own_lt HSP.out.out.row e.symm).2.1; omega)).trans HSP.out.blk
          have HRUN := Lib.hid hrun
          have hp4c := (HSP.out.blk)
          obtain ⟨t0, t1, t2, t3⟩ := cell_of4 hp4c
          obtain ⟨x0, x1, x2, x3⟩ := cell_of4 hb9
          obtain ⟨p0, p1, p2, p3⟩ := frozen_of4 hb9
          clear hb9 hO hgr hown N9 P9 hrun hp4c t0 t1 t2
          refine hK1.out _ _ trivial (fun hHeld => ?_)
          clear hK1
          try simp only [Act.put, List.setIfInBounds_toArray, List.set_cons_zero, List.set_cons_succ, List.getElem_toArray, List.getElem_cons_succ, List.getElem_cons_zero]
          refine wpAnyH_ready (rs := [5]) (by kernel_rfl) (by simp) ?_
          refine AllReadyH.cons rfl (fun K1 hK1 => ?_) AllReadyH.nil
          rw [if_pos (by rfl)]
          refine wp_app _ _ 24 rfl rfl rfl HRUN.out ?_
          refine hK1.out _ _ trivial (fun hHeld => ?_)
          clear hK1
          try simp only [Act.put, List.setIfInBounds_toArray, List.set_cons_zero, List.set_cons_succ, List.getElem_toArray, List.getElem_cons_succ, List.getElem_cons_zero]
          refine wpAnyH_take (i := 6) (v := ?_) rfl (by kernel_rfl) (by kernel_rfl) (by kernel_rfl) (fun _ _ _ h => h) (Or.inl ⟨by rfl, ?_⟩) hHeld ?_
          rotate_left
          · (intro W hSw; (try dsimp only at hSw); go_simp; try with_reducible rfl)
          try simp only [Act.put, List.setIfInBounds_toArray, List.set_cons_zero, List.set_cons_succ, List.getElem_toArray, List.getElem_cons_succ, List.getElem_cons_zero]
          refine wpAnyH_ready (rs := [7]) (by kernel_rfl) (by simp) ?_
          refine AllReadyH.cons rfl (fun K1 hK1 => ?_) AllReadyH.nil
          go_simp
          refine hK1.out _ _ trivial (fun hHeld => ?_)
          clear hK1
          try simp only [Act.put, List.setIfInBounds_toArray, List.set_cons_zero, List.set_cons_succ, List.getElem_toArray, List.getElem_cons_succ, List.getElem_cons_zero]
          refine wpAnyH_done (by kernel_rfl) ?_ _
          try simp only [Act.put, List.setIfInBounds_toArray, List.set_cons_zero, List.set_cons_succ, List.getElem_toArray, List.getElem_cons_succ, List.getElem_cons_zero]
          clear hHeld m3' m0 m1 m2 m3 f0 f1 f2 f3 x0 x1 x2 x3 p0 p1 p2 p3 t3
          generalize W9.setCell ⟨w.heap.size, 3, none⟩ (.slice a9 n9 c9) = u7 at *
          obtain ⟨m0, m1, m2, m3⟩ := cell_of4 HS9.out.blk
          obtain ⟨r0, r1, r2, r3⟩ := cell_of4 HS9.out.res
          obtain ⟨q0, q1, q2, q3⟩ := frozen_of4 HS9.out.res
          go_wp2_with fail
          have hp4 := put4 HS9.out.res (.int .i64 k) (.int .u64 N) ((.slice a2 nb' c2)) ((.slice a9 n9 c9))
          have hst := HS9.out.stop HNN.out.1 HNN.out.2
          generalize ((((u7).setCell ⟨w.heap.size + 1, 0, none⟩ (.int .i64 k)).setCell ⟨w.heap.size + 1, 1, none⟩ (.int .u64 N)).setCell ⟨w.heap.size + 1, 2, none⟩ ((.slice a2 nb' c2))).setCell ⟨w.heap.size + 1, 3, none⟩ ((.slice a9 n9 c9)) = W9 at *
          obtain ⟨g0, g1, g2, g3⟩ := cell_of4 hp4
          refine bodyPost_ret (v := .agg #[.int .i64 k, .int .u64 N, (.slice a2 nb' c2), (.slice a9 n9 c9)]) (by simp [results, Tryz.results50, go_sem, g0, g1, g2, g3]) rfl ?_
          exact hst
        · go_simp
          refine (rint_any q hq0 hq1 _).mono ?_
          rintro e v8 ⟨A8, rfl, hI8, hB8⟩
          have HB8 := Lib.hid (pure_trans (below_drewN (Below.refl u.heap.size u) 1) hB8)
          generalize intIt q = y8 at *
          have HI8 := Lib.hid (hI8.imp (ok' := fun b => u.heap.size ≤ b) fun b hb _ => hb)
          clear hI8 hB8
          have m3' := (HB8.out.cell (p := ⟨w.heap.size, 3, none⟩) hXl).trans m3
          refine hK1.out _ _ trivial (fun hHeld => ?_)
          clear hK1
          try simp only [Act.put, List.setIfInBounds_toArray, List.set_cons_zero, List.set_cons_succ, List.getElem_toArray, List.getElem_cons_succ, List.getElem_cons_zero]
          refine wpAnyH_ready (rs := [1, 4]) (by kernel_rfl) (by simp) ?_
          refine AllReadyH.cons rfl (fun K1 hK1 => ?_) (AllReadyH.cons rfl (fun K1 hK1 => ?_) AllReadyH.nil)
          · go_simp
            refine hK1.out _ _ hHeld (fun hHeld => ?_)
            clear hK1
            try simp only [Act.put, List.setIfInBounds_toArray, List.set_cons_zero, List.set_cons_succ, List.getElem_toArray, List.getElem_cons_succ, List.getElem_cons_zero]
            refine wpAnyH_ready (rs := [4]) (by kernel_rfl) (by simp) ?_
            refine AllReadyH.cons rfl (fun K1 hK1 => ?_) AllReadyH.nil
            go_simp
            have P9 := pure_alloc v8 (.cells #[.int .i64 y8.kind, .int .u64 (y8.num : Int), .slice A8.ab A8.nb A8.cb, .slice A8.ai A8.ni A8.ci] 26)
            have N9 := alloc_new v8 (.cells #[.int .i64 y8.kind, .int .u64 (y8.num : Int), .slice A8.ab A8.nb A8.cb, .slice A8.ai A8.ni A8.ci] 26)
            have HSP := Lib.hid (HSX.out.pure (pure_trans HB8.out P9))
            have hsx := HSX.out.bel.size
            obtain ⟨v9, W9, hrun, hO, hgr, hown⟩ := HSP.out.out.app (news := [(y8, A8)]) (m := 1) (c := 1) (SrcI.one N9) (fun e he => by
              simp only [List.mem_singleton] at he
              subst he
              exact (HI8.out.below P9).imp fun b hb _ => ⟨⟨by have := lt_of_block HSX.out.res; omega, fun e => by have := (own_lt HSX.out.own e).1; omega⟩, fun e => by have := (own_lt HSX.out.out.row e).1; omega⟩) (by have := HNI.out; omega) (by have := HSP.out.bel.size; have := lt_of_block HSP.out.res; omega)
            obtain ⟨a9, c9, e9⟩ := own_form hO.row
            generalize (es ++ [(y8, A8)]).length = n9 at e9
            subst e9
            have HS9 := Lib.hid (HSP.out.items hO hgr hown)
            have hb9 : W9.heap[w.heap.size]? = some (.cells #[.int .i64 k, .int .u64 N, (.slice a2 nb' c2), (.slice a3 ni' c3)] 26 (0, 0)) := (hgr.block _ (lt_of_block HSP.out.blk) (fun e => by have := (own_lt HSP.out.out.row e.symm).2.1; omega)).trans HSP.out.blk
            have HRUN := Lib.hid hrun
            have hp4c := (HSP.out.blk)
            obtain ⟨t0, t1, t2, t3⟩ := cell_of4 hp4c
            obtain ⟨x0, x1, x2, x3⟩ := cell_of4 hb9
            obtain ⟨p0, p1, p2, p3⟩ := frozen_of4 hb9
            clear hb9 hO hgr hown N9 P9 hrun hp4c t0 t1 t2
            refine hK1.out _ _ trivial (fun hHeld => ?_)
            clear hK1
            try simp only [Act.put, List.setIfInBounds_toArray, List.set_cons_zero, List.set_cons_succ, List.getElem_toArray, List.getElem_cons_succ, List.getElem_cons_zero]
            refine wpAnyH_ready (rs := [5]) (by kernel_rfl) (by simp) ?_
            refine AllReadyH.cons rfl (fun K1 hK1 => ?_) AllReadyH.nil
            rw [if_pos (by rfl)]
            refine wp_app _ _ 24 rfl rfl rfl HRUN.out ?_
            refine hK1.out _ _ trivial (fun hHeld => ?_)
            clear hK1
            try simp only [Act.put, List.setIfInBounds_toArray, List.set_cons_zero, List.set_cons_succ, List.getElem_toArray, List.getElem_cons_succ, List.getElem_cons_zero]
            refine wpAnyH_take (i := 6) (v := ?_) rfl (by kernel_rfl) (by kernel_rfl) (by kernel_rfl) (fun _ _ _ h => h) (Or.inl ⟨by rfl, ?_⟩) hHeld ?_
            rotate_left
            · (intro W hSw; (try dsimp only at hSw); go_simp; try with_reducible rfl)
            try simp only [Act.put, List.setIfInBounds_toArray, List.set_cons_zero, List.set_cons_succ, List.getElem_toArray, List.getElem_cons_succ, List.getElem_cons_zero]
            refine wpAnyH_ready (rs := [7]) (by kernel_rfl) (by simp) ?_
            refine AllReadyH.cons rfl (fun K1 hK1 => ?_) AllReadyH.nil
            go_simp
            refine hK1.out _ _ trivial (fun hHeld => ?_)
            clear hK1
            try simp only [Act.put, List.setIfInBounds_toArray, List.set_cons_zero, List.set_cons_succ, List.getElem_toArray, List.getElem_cons_succ, List.getElem_cons_zero]
            refine wpAnyH_done (by kernel_rfl) ?_ _
            try simp only [Act.put, List.setIfInBounds_toArray, List.set_cons_zero, List.set_cons_succ, List.getElem_toArray, List.getElem_cons_succ, List.getElem_cons_zero]
            clear hHeld m3' m0 m1 m2 m3 f0 f1 f2 f3 x0 x1 x2 x3 p0 p1 p2 p3 t3
            generalize W9.setCell ⟨w.heap.size, 3, none⟩ (.slice a9 n9 c9) = u7 at *
            obtain ⟨m0, m1, m2, m3⟩ := cell_of4 HS9.out.blk
            obtain ⟨r0, r1, r2, r3⟩ := cell_of4 HS9.out.res
            obtain ⟨q0, q1, q2, q3⟩ := frozen_of4 HS9.out.res
            go_wp2_with fail
            have hp4 := put4 HS9.out.res (.int .i64 k) (.int .u64 N) ((.slice a2 nb' c2)) ((.slice a9 n9 c9))
            have hst := HS9.out.stop HNN.out.1 HNN.out.2
            generalize ((((u7).setCell ⟨w.heap.size + 1, 0, none⟩ (.int .i64 k)).setCell ⟨w.heap.size + 1, 1, none⟩ (.int .u64 N)).setCell ⟨w.heap.size + 1, 2, none⟩ ((.slice a2 nb' c2))).setCell ⟨w.heap.size + 1, 3, none⟩ ((.slice a9 n9 c9)) = W9 at *
            obtain ⟨g0, g1, g2, g3⟩ := cell_of4 hp4
            refine bodyPost_ret (v := .agg #[.int .i64 k, .int .u64 N, (.slice a2 nb' c2), (.slice a9 n9 c9)]) (by simp [results, Tryz.results50, go_sem, g0, g1, g2, g3]) rfl ?_
            exact hst
          · go_simp
            have P9 := pure_alloc v8 (.cells #[.int .i64 y8.kind, .int .u64 (y8.num : Int), .slice A8.ab A8.nb A8.cb, .slice A8.ai A8.ni A8.ci] 26)
            have N9 := alloc_new v8 (.cells #[.int .i64 y8.kind, .int .u64 (y8.num : Int), .slice A8.ab A8.nb A8.cb, .slice A8.ai A8.ni A8.ci] 26)
            have HSP := Lib.hid (HSX.out.pure (pure_trans HB8.out P9))
            have hsx := HSX.out.bel.size
            obtain ⟨v9, W9, hrun, hO, hgr, hown⟩ := HSP.out.out.app (news := [(y8, A8)]) (m := 1) (c := 1) (SrcI.one N9) (fun e he => by
              simp only [List.mem_singleton] at he
              subst he
              exact (HI8.out.below P9).imp fun b hb _ => ⟨⟨by have := lt_of_block HSX.out.res; omega, fun e => by have := (own_lt HSX.out.own e).1; omega⟩, fun e => by have := (own_lt HSX.out.out.row e).1; omega⟩) (by have := HNI.out; omega) (by have := HSP.out.bel.size; have := lt_of_block HSP.out.res; omega)
            obtain ⟨a9, c9, e9⟩ := own_form hO.row
            generalize (es ++ [(y8, A8)]).length = n9 at e9
            subst e9
            have HS9 := Lib.hid (HSP.out.items hO hgr hown)
            have hb9 : W9.heap[w.heap.size]? = some (.cells #[.int .i64 k, .int .u64 N, (.slice a2 nb' c2), (.slice a3 ni' c3)] 26 (0, 0)) := (hgr.block _ (lt_of_block HSP.out.blk) (fun e => by have := (own_lt HSP.out.out.row e.symm).2.1; omega)).trans HSP.out.blk
            have HRUN := Lib.hid hrun
            have hp4c := (HSP.out.blk)
            obtain ⟨t0, t1, t2, t3⟩ := cell_of4 hp4c
            obtain ⟨x0, x1, x2, x3⟩ := cell_of4 hb9
            obtain ⟨p0, p1, p2, p3⟩ := frozen_of4 hb9
            clear hb9 hO hgr hown N9 P9 hrun hp4c t0 t1 t2
            refine hK1.out _ _ trivial (fun hHeld => ?_)
            clear hK1
            try simp only [Act.put, List.setIfInBounds_toArray, List.set_cons_zero, List.set_cons_succ, List.getElem_toArray, List.getElem_cons_succ, List.getElem_cons_zero]
            refine wpAnyH_ready (rs := [1]) (by kernel_rfl) (by simp) ?_
            refine AllReadyH.cons rfl (fun K1 hK1 => ?_) AllReadyH.nil
            go_simp
            refine hK1.out _ _ hHeld (fun hHeld => ?_)
            clear hK1
            try simp only [Act.put, List.setIfInBounds_toArray, List.set_cons_zero, List.set_cons_succ, List.getElem_toArray, List.getElem_cons_succ, List.getElem_cons_zero]
            refine wpAnyH_ready (rs := [5]) (by kernel_rfl) (by simp) ?_
            refine AllReadyH.cons rfl (fun K1 hK1 => ?_) AllReadyH.nil
            rw [if_pos (by rfl)]
            refine wp_app _ _ 24 rfl rfl rfl HRUN.out ?_
            refine hK1.out _ _ trivial (fun hHeld => ?_)
            clear hK1
            try simp only [Act.put, List.setIfInBounds_toArray, List.set_cons_zero, List.set_cons_succ, List.getElem_toArray, List.getElem_cons_succ, List.getElem_cons_zero]
            refine wpAnyH_take (i := 6) (v := ?_) rfl (by kernel_rfl) (by kernel_rfl) (by kernel_rfl) (fun _ _ _ h => h) (Or.inl ⟨by rfl, ?_⟩) hHeld ?_
            rotate_left
            · (intro W hSw; (try dsimp only at hSw); go_simp; try with_reducible rfl)
            try simp only [Act.put, List.setIfInBounds_toArray, List.set_cons_zero, List.set_cons_succ, List.getElem_toArray, List.getElem_cons_succ, List.getElem_cons_zero]
            refine wpAnyH_ready (rs := [7]) (by kernel_rfl) (by simp) ?_
            refine AllReadyH.cons rfl (fun K1 hK1 => ?_) AllReadyH.nil
            go_simp
            refine hK1.out _ _ trivial (fun hHeld => ?_)
            clear hK1
            try simp only [Act.put, List.setIfInBounds_toArray, List.set_cons_zero, List.set_cons_succ, List.getElem_toArray, List.getElem_cons_succ, List.getElem_cons_zero]
            refine wpAnyH_done (by kernel_rfl) ?_ _
            try simp only [Act.put, List.setIfInBounds_toArray, List.set_cons_zero, List.set_cons_succ, List.getElem_toArray, List.getElem_cons_succ, List.getElem_cons_zero]
            clear hHeld m3' m0 m1 m2 m3 f0 f1 f2 f3 x0 x1 x2 x3 p0 p1 p2 p3 t3
            generalize W9.setCell ⟨w.heap.size, 3, none⟩ (.slice a9 n9 c9) = u7 at *
            obtain ⟨m0, m1, m2, m3⟩ := cell_of4 HS9.out.blk
            obtain ⟨r0, r1, r2, r3⟩ := cell_of4 HS9.out.res
            obtain ⟨q0, q1, q2, q3⟩ := frozen_of4 HS9.out.res
            go_wp2_with fail
            have hp4 := put4 HS9.out.res (.int .i64 k) (.int .u64 N) ((.slice a2 nb' c2)) ((.slice a9 n9 c9))
            have hst := HS9.out.stop HNN.out.1 HNN.out.2
            generalize ((((u7).setCell ⟨w.heap.size + 1, 0, none⟩ (.int .i64 k)).setCell ⟨w.heap.size + 1, 1, none⟩ (.int .u64 N)).setCell ⟨w.heap.size + 1, 2, none⟩ ((.slice a2 nb' c2))).setCell ⟨w.heap.size + 1, 3, none⟩ ((.slice a9 n9 c9)) = W9 at *
            obtain ⟨g0, g1, g2, g3⟩ := cell_of4 hp4
            refine bodyPost_ret (v := .agg #[.int .i64 k, .int .u64 N, (.slice a2 nb' c2), (.slice a9 n9 c9)]) (by simp [results, Tryz.results50, go_sem, g0, g1, g2, g3]) rfl ?_
            exact hst

      · obtain ⟨m4, hm4, em4⟩ := bits_lt 64 (A := IntKind.u64.wrap (IntKind.u64.wrap q * 4294967296)) (B := 9219149912204115968) (a := (IntKind.u64.wrap (IntKind.u64.wrap q * 4294967296)).toNat) (b := 9219149912204115968) (by have := u64_in (IntKind.u64.wrap q * 4294967296); omega) rfl (by have := u64_in (IntKind.u64.wrap q * 4294967296); omega) (by decide) (by decide)
        obtain ⟨N4, hN4⟩ : ∃ N4, N4 = (m4 : Int) := ⟨_, rfl⟩
        have HN4 : Hid (0 ≤ N4 ∧ N4 < 18446744073709551616) := Lib.hid (by omega)
        rw [← hN4] at em4
        clear hN4 hm4
        have HS8 := Lib.hid (HSX.out.cell (k' := 8) (N' := N) 0 (.int .i64 8) (by simp))
        have HS9 := Lib.hid (HS8.out.cell (k' := 8) (N' := N4) 1 (.int .u64 N4) (by simp))
        go_upto_region 16 with fail
        clear m0 m1 m2 m3 f0 f1 f2 f3
        generalize hW7 : (u.setCell ⟨w.heap.size, 0, none⟩ (.int .i64 8)).setCell ⟨w.heap.size, 1, none⟩ (.int .u64 N4) = u7 at *
        clear hW7
        obtain ⟨m0, m1, m2, m3⟩ := cell_of4 HS9.out.blk
        obtain ⟨r0, r1, r2, r3⟩ := cell_of4 HS9.out.res
        obtain ⟨q0, q1, q2, q3⟩ := frozen_of4 HS9.out.res
        go_wp2_with fail
        have hp4 := put4 HS9.out.res (.int .i64 8) (.int .u64 N4) ((.slice a2 nb' c2)) ((.slice a3 ni' c3))
        have hst := HS9.out.stop HN4.out.1 HN4.out.2
        generalize ((((u7).setCell ⟨w.heap.size + 1, 0, none⟩ (.int .i64 8)).setCell ⟨w.heap.size + 1, 1, none⟩ (.int .u64 N4)).setCell ⟨w.heap.size + 1, 2, none⟩ ((.slice a2 nb' c2))).setCell ⟨w.heap.size + 1, 3, none⟩ ((.slice a3 ni' c3)) = W9 at *
        obtain ⟨g0, g1, g2, g3⟩ := cell_of4 hp4
        refine bodyPost_ret (v := .agg #[.int .i64 8, .int .u64 N4, (.slice a2 nb' c2), (.slice a3 ni' c3)]) (by simp [results, Tryz.results50, go_sem, g0, g1, g2, g3]) rfl ?_
        exact hst


  · have h0z : ¬ 0 < (ni' : Int) := by omega
    have h0d : decide (0 < (ni' : Int)) = false := decide_eq_false h0z
    have h0e : decide (0 < ni') = false := decide_eq_false h0
    go_wp2_with fail
    refine (mod_lt _ 5 u (by decide) (by decide)).mono ?_
    rintro e w' ⟨s, hs0, hs5, rfl, rfl⟩
    rcases (show s = 0 ∨ s = 1 ∨ s = 2 ∨ s = 3 ∨ s = 4 by omega) with rfl | rfl | rfl | rfl | rfl
    · go_wp2_with fail
      refine (mod_lt q 11 u (by decide) (by decide)).mono ?_
      rintro e w' ⟨t, ht0, ht1, rfl, rfl⟩
      obtain ⟨t1, ht⟩ : ∃ t1, IntKind.i64.wrap (t - 1) = t1 := ⟨_, rfl⟩
      have HS9 := Lib.hid (HSX.out.cell (k' := t1) (N' := N) 0 (.int .i64 t1) (by simp))
      go_upto_region 16 with fail
      clear m0 m1 m2 m3 f0 f1 f2 f3
      generalize hW7 : u.setCell ⟨w.heap.size, 0, none⟩ (.int .i64 t1) = u7 at *
      clear hW7
      obtain ⟨m0, m1, m2, m3⟩ := cell_of4 HS9.out.blk
      obtain ⟨r0, r1, r2, r3⟩ := cell_of4 HS9.out.res
      obtain ⟨q0, q1, q2, q3⟩ := frozen_of4 HS9.out.res
      go_wp2_with fail
      have hp4 := put4 HS9.out.res (.int .i64 t1) (.int .u64 N) ((.slice a2 nb' c2)) ((.slice a3 ni' c3))
      have hst := HS9.out.stop HNN.out.1 HNN.out.2
      generalize ((((u7).setCell ⟨w.heap.size + 1, 0, none⟩ (.int .i64 t1)).setCell ⟨w.heap.size + 1, 1, none⟩ (.int .u64 N)).setCell ⟨w.heap.size + 1, 2, none⟩ ((.slice a2 nb' c2))).setCell ⟨w.heap.size + 1, 3, none⟩ ((.slice a3 ni' c3)) = W9 at *
      obtain ⟨g0, g1, g2, g3⟩ := cell_of4 hp4
      refine bodyPost_ret (v := .agg #[.int .i64 t1, .int .u64 N, (.slice a2 nb' c2), (.slice a3 ni' c3)]) (by simp [results, Tryz.results50, go_sem, g0, g1, g2, g3]) rfl ?_
      exact hst

    · obtain ⟨N2, hN2⟩ : ∃ N2, IntKind.u64.wrap (N + IntKind.u64.wrap q) = N2 := ⟨_, rfl⟩
      have HN2 : Hid (0 ≤ N2 ∧ N2 < 18446744073709551616) := Lib.hid (by rw [← hN2]; exact u64_in _)
      have HS9 := Lib.hid (HSX.out.cell (k' := k) (N' := N2) 1 (.int .u64 N2) (by simp))
      go_upto_region 16 with fail
      clear m0 m1 m2 m3 f0 f1 f2 f3
      generalize hW7 : u.setCell ⟨w.heap.size, 1, none⟩ (.int .u64 N2) = u7 at *
      clear hW7
      obtain ⟨m0, m1, m2, m3⟩ := cell_of4 HS9.out.blk
      obtain ⟨r0, r1, r2, r3⟩ := cell_of4 HS9.out.res
      obtain ⟨q0, q1, q2, q3⟩ := frozen_of4 HS9.out.res
      go_wp2_with fail
      have hp4 := put4 HS9.out.res (.int .i64 k) (.int .u64 N2) ((.slice a2 nb' c2)) ((.slice a3 ni' c3))
      have hst := HS9.out.stop HN2.out.1 HN2.out.2
      generalize ((((u7).setCell ⟨w.heap.size + 1, 0, none⟩ (.int .i64 k)).setCell ⟨w.heap.size + 1, 1, none⟩ (.int .u64 N2)).setCell ⟨w.heap.size + 1, 2, none⟩ ((.slice a2 nb' c2))).setCell ⟨w.heap.size + 1, 3, none⟩ ((.slice a3 ni' c3)) = W9 at *
      obtain ⟨g0, g1, g2, g3⟩ := cell_of4 hp4
      refine bodyPost_ret (v := .agg #[.int .i64 k, .int .u64 N2, (.slice a2 nb' c2), (.slice a3 ni' c3)]) (by simp [results, Tryz.results50, go_sem, g0, g1, g2, g3]) rfl ?_
      exact hst

    · obtain ⟨c8, hc8⟩ : ∃ c8 : UInt8, IntKind.u8.wrap q = (c8.toNat : Int) := ⟨UInt8.ofNat (IntKind.u8.wrap q).toNat, by have := u8_in q; simp; omega⟩
      have P8 := pure_alloc u (.cells #[.int .u8 (c8.toNat : Int)] 5)
      have N8 := alloc_new u (.cells #[.int .u8 (c8.toNat : Int)] 5)
      have R8 : BR (fun _ => True) (u.alloc (.cells #[.int .u8 (c8.toNat : Int)] 5)) (some ⟨u.heap.size, 0, none⟩) 1 [c8] := by
        refine ⟨rfl, by omega, fun i hi => ⟨u.heap.size, 0, rfl, trivial, ?_⟩⟩
        simp at hi
        subst hi
        rw [cell_of_arr N8]; rfl
      have HSP := Lib.hid (HSX.out.pure P8)
      obtain ⟨a9, c9, W9, hrun, hO, hgr, hown⟩ := app_bytes (u.alloc (.cells #[.int .u8 (c8.toNat : Int)] 5)) (w.heap.size + 2) (.slice a2 nb' c2) bs HSP.out.own _ 1 1 _ _ R8 (by have := HL.out; omega) (by have := HSX.out.bel.size; have := lt_of_block HSX.out.res; have := P8.size; omega)
      generalize bs.length + 1 = n9 at *
      have HS9 := Lib.hid (HSP.out.bytes hO hgr hown)
      have hb9 : W9.heap[w.heap.size]? = some (.cells #[.int .i64 k, .int .u64 N, (.slice a2 nb' c2), (.slice a3 ni' c3)] 26 (0, 0)) := (hgr.block _ (lt_of_block HSP.out.blk) (fun e => by have := (own_lt HSP.out.own e.symm).2.1; omega)).trans HSP.out.blk
      obtain ⟨x0, x1, x2, x3⟩ := cell_of4 hb9
      obtain ⟨p0, p1, p2, p3⟩ := frozen_of4 hb9
      clear hb9 hO hgr hown N8 P8 R8
      obtain ⟨m0, m1, m2, m3⟩ := cell_of4 HS9.out.blk
      obtain ⟨r0, r1, r2, r3⟩ := cell_of4 HS9.out.res
      obtain ⟨q0, q1, q2, q3⟩ := frozen_of4 HS9.out.res
      go_wp2_with (at_builtin; refine wpList_app rfl _ _ 23 rfl rfl rfl hrun ?_)
      have hp4 := put4 HS9.out.res (.int .i64 k) (.int .u64 N) ((.slice a9 n9 c9)) ((.slice a3 ni' c3))
      have hst := HS9.out.stop HNN.out.1 HNN.out.2
      generalize ((((W9.setCell ⟨w.heap.size, 2, none⟩ (.slice a9 n9 c9)).setCell ⟨w.heap.size + 1, 0, none⟩ (.int .i64 k)).setCell ⟨w.heap.size + 1, 1, none⟩ (.int .u64 N)).setCell ⟨w.heap.size + 1, 2, none⟩ ((.slice a9 n9 c9))).setCell ⟨w.heap.size + 1, 3, none⟩ ((.slice a3 ni' c3)) = W9 at *
      obtain ⟨g0, g1, g2, g3⟩ := cell_of4 hp4
      refine bodyPost_ret (v := .agg #[.int .i64 k, .int .u64 N, (.slice a9 n9 c9), (.slice a3 ni' c3)]) (by simp [results, Tryz.results50, go_sem, g0, g1, g2, g3]) rfl ?_
      exact hst

    · have hXl : w.heap.size < u.heap.size := lt_of_block HSX.out.blk
      go_upto_region 15 with fail
      refine wp_region_held_drew (S := (fun w' => True)) (by kernel_rfl) trivial (fun hHeld => ?_)
      refine wpAnyH_take (i := 0) (v := ?_) rfl (by kernel_rfl) (by kernel_rfl) (by kernel_rfl) (fun _ _ _ h => h) (Or.inl ⟨by rfl, ?_⟩) hHeld ?_
      rotate_left
      · (intro W hSw; (try dsimp only at hSw); go_simp; try with_reducible rfl)
      try simp only [Act.put, List.setIfInBounds_toArray, List.set_cons_zero, List.set_cons_succ, List.getElem_toArray, List.getElem_cons_succ, List.getElem_cons_zero]
      refine wpAnyH_take (i := 2) (v := ?_) rfl (by kernel_rfl) (by kernel_rfl) (by kernel_rfl) (fun _ _ _ h => h) (Or.inl ⟨by rfl, ?_⟩) hHeld ?_
      rotate_left
      · (intro W hSw; (try dsimp only at hSw); go_simp; try with_reducible rfl)
      try simp only [Act.put, List.setIfInBounds_toArray, List.set_cons_zero, List.set_cons_succ, List.getElem_toArray, List.getElem_cons_succ, List.getElem_cons_zero]
      refine wpAnyH_ready (rs := [1, 3]) (by kernel_rfl) (by simp) ?_
      refine AllReadyH.cons rfl (fun K1 hK1 => ?_) (AllReadyH.cons rfl (fun K1 hK1 => ?_) AllReadyH.nil)
      · go_simp
        refine hK1.out _ _ hHeld (fun hHeld => ?_)
        clear hK1
        try simp only [Act.put, List.setIfInBounds_toArray, List.set_cons_zero, List.set_cons_succ, List.getElem_toArray, List.getElem_cons_succ, List.getElem_cons_zero]
        refine wpAnyH_ready (rs := [3]) (by kernel_rfl) (by simp) ?_
        refine AllReadyH.cons rfl (fun K1 hK1 => ?_) AllReadyH.nil
        go_simp
        refine (rint_any q hq0 hq1 _).mono ?_
        rintro e v8 ⟨A8, rfl, hI8, hB8⟩
        have HB8 := Lib.hid (pure_trans (below_drewN (Below.refl u.heap.size u) 1) hB8)
        generalize intIt q = y8 at *
        have HI8 := Lib.hid (hI8.imp (ok' := fun b => u.heap.size ≤ b) fun b hb _ => hb)
        clear hI8 hB8
        have m3' := (HB8.out.cell (p := ⟨w.heap.size, 3, none⟩) hXl).trans m3
        refine hK1.out _ _ trivial (fun hHeld => ?_)
        clear hK1
        try simp only [Act.put, List.setIfInBounds_toArray, List.set_cons_zero, List.set_cons_succ, List.getElem_toArray, List.getElem_cons_succ, List.getElem_cons_zero]
        refine wpAnyH_ready (rs := [4]) (by kernel_rfl) (by simp) ?_
        refine AllReadyH.cons rfl (fun K1 hK1 => ?_) AllReadyH.nil
        go_simp
        have P9 := pure_alloc v8 (.cells #[.int .i64 y8.kind, .int .u64 (y8.num : Int), .slice A8.ab A8.nb A8.cb, .slice A8.ai A8.ni A8.ci] 26)
        have N9 := alloc_new v8 (.cells #[.int .i64 y8.kind, .int .u64 (y8.num : Int), .slice A8.ab A8.nb A8.cb, .slice A8.ai A8.ni A8.ci] 26)
        have HSP := Lib.hid (HSX.out.pure (pure_trans HB8.out P9))
        have hsx := HSX.out.bel.size
        obtain ⟨v9, W9, hrun, hO, hgr, hown⟩ := HSP.out.out.app (news := [(y8, A8)]) (m := 1) (c := 1) (SrcI.one N9) (fun e he => by
          simp only [List.mem_singleton] at he
          subst he
          exact (HI8.out.below P9).imp fun b hb _ => ⟨⟨by have := lt_of_block HSX.out.res; omega, fun e => by have := (own_lt HSX.out.own e).1; omega⟩, fun e => by have := (own_lt HSX.out.out.row e).1; omega⟩) (by have := HNI.out; omega) (by have := HSP.out.bel.size; have := lt_of_block HSP.out.res; omega)
        obtain ⟨a9, c9, e9⟩ := own_form hO.row
        generalize (es ++ [(y8, A8)]).length = n9 at e9
        subst e9
        have HS9 := Lib.hid (HSP.out.items hO hgr hown)
        have hb9 : W9.heap[w.heap.size]? = some (.cells #[.int .i64 k, .int .u64 N, (.slice a2 nb' c2), (.slice a3 ni' c3)] 26 (0, 0)) := (hgr.block _ (lt_of_block HSP.out.blk) (fun e => by have := (own_lt HSP.out.out.row e.symm).2.1; omega)).trans HSP.out.blk
        have HRUN := Lib.hid hrun
        have hp4c := (HSP.out.blk)
        obtain ⟨t0, t1, t2, t3⟩ := cell_of4 hp4c
        obtain ⟨x0, x1, x2, x3⟩ := cell_of4 hb9
        obtain ⟨p0, p1, p2, p3⟩ := frozen_of4 hb9
        clear hb9 hO hgr hown N9 P9 hrun hp4c t0 t1 t2
        refine hK1.out _ _ trivial (fun hHeld => ?_)
        clear hK1
        try simp only [Act.put, List.setIfInBounds_toArray, List.set_cons_zero, List.set_cons_succ, List.getElem_toArray, List.getElem_cons_succ, List.getElem_cons_zero]
        refine wpAnyH_ready (rs := [5]) (by kernel_rfl) (by simp) ?_
        refine AllReadyH.cons rfl (fun K1 hK1 => ?_) AllReadyH.nil
        rw [if_pos (by rfl)]
        refine wp_app _ _ 24 rfl rfl rfl HRUN.out ?_
        refine hK1.out _ _ trivial (fun hHeld => ?_)
        clear hK1
        try simp only [Act.put, List.setIfInBounds_toArray, List.set_cons_zero, List.set_cons_succ, List.getElem_toArray, List.getElem_cons_succ, List.getElem_cons_zero]
        refine wpAnyH_take (i := 6) (v := ?_) rfl (by kernel_rfl) (by kernel_rfl) (by kernel_rfl) (fun _ _ _ h => h) (Or.inl ⟨by rfl, ?_⟩) hHeld ?_
        rotate_left
        · (intro W hSw; (try dsimp only at hSw); go_simp; try with_reducible rfl)
        try simp only [Act.put, List.setIfInBounds_toArray, List.set_cons_zero, List.set_cons_succ, List.getElem_toArray, List.getElem_cons_succ, List.getElem_cons_zero]
        refine wpAnyH_ready (rs := [7]) (by kernel_rfl) (by simp) ?_
        refine AllReadyH.cons rfl (fun K1 hK1 => ?_) AllReadyH.nil
        go_simp
        refine hK1.out _ _ trivial (fun hHeld => ?_)
        clear hK1
        try simp only [Act.put, List.setIfInBounds_toArray, List.set_cons_zero, List.set_cons_succ, List.getElem_toArray, List.getElem_cons_succ, List.getElem_cons_zero]
        refine wpAnyH_done (by kernel_rfl) ?_ _
        try simp only [Act.put, List.setIfInBounds_toArray, List.set_cons_zero, List.set_cons_succ, List.getElem_toArray, List.getElem_cons_succ, List.getElem_cons_zero]
        clear hHeld m3' m0 m1 m2 m3 f0 f1 f2 f3 x0 x1 x2 x3 p0 p1 p2 p3 t3
        generalize W9.setCell ⟨w.heap.size, 3, none⟩ (.slice a9 n9 c9) = u7 at *
        obtain ⟨m0, m1, m2, m3⟩ := cell_of4 HS9.out.blk
        obtain ⟨r0, r1, r2, r3⟩ := cell_of4 HS9.out.res
        obtain ⟨q0, q1, q2, q3⟩ := frozen_of4 HS9.out.res
        go_wp2_with fail
        have hp4 := put4 HS9.out.res (.int .i64 k) (.int .u64 N) ((.slice a2 nb' c2)) ((.slice a9 n9 c9))
        have hst := HS9.out.stop HNN.out.1 HNN.out.2
        generalize ((((u7).setCell ⟨w.heap.size + 1, 0, none⟩ (.int .i64 k)).setCell ⟨w.heap.size + 1, 1, none⟩ (.int .u64 N)).setCell ⟨w.heap.size + 1, 2, none⟩ ((.slice a2 nb' c2))).setCell ⟨w.heap.size + 1, 3, none⟩ ((.slice a9 n9 c9)) = W9 at *
        obtain ⟨g0, g1, g2, g3⟩ := cell_of4 hp4
        refine bodyPost_ret (v := .agg #[.int .i64 k, .int .u64 N, (.slice a2 nb' c2), (.slice a9 n9 c9)]) (by simp [results, Tryz.results50, go_sem, g0, g1, g2, g3]) rfl ?_
        exact hst
      · go_simp
        refine (rint_any q hq0 hq1 _).mono ?_
        rintro e v8 ⟨A8, rfl, hI8, hB8⟩
        have HB8 := Lib.hid (pure_trans (below_drewN (Below.refl u.heap.size u) 1) hB8)
        generalize intIt q = y8 at *
        have HI8 := Lib.hid (hI8.imp (ok' := fun b => u.heap.size ≤ b) fun b hb _ => hb)
        clear hI8 hB8
        have m3' := (HB8.out.cell (p := ⟨w.heap.size, 3, none⟩) hXl).trans m3
        refine hK1.out _ _ trivial (fun hHeld => ?_)
        clear hK1
        try simp only [Act.put, List.setIfInBounds_toArray, List.set_cons_zero, List.set_cons_succ, List.getElem_toArray, List.getElem_cons_succ, List.getElem_cons_zero]
        refine wpAnyH_ready (rs := [1, 4]) (by kernel_rfl) (by simp) ?_
        refine AllReadyH.cons rfl (fun K1 hK1 => ?_) (AllReadyH.cons rfl (fun K1 hK1 => ?_) AllReadyH.nil)
        · go_simp
          refine hK1.out _ _ hHeld (fun hHeld => ?_)
          clear hK1
          try simp only [Act.put, List.setIfInBounds_toArray, List.set_cons_zero, List.set_cons_succ, List.getElem_toArray, List.getElem_cons_succ, List.getElem_cons_zero]
          refine wpAnyH_ready (rs := [4]) (by kernel_rfl) (by simp) ?_
          refine AllReadyH.cons rfl (fun K1 hK1 => ?_) AllReadyH.nil
          go_simp
          have P9 := pure_alloc v8 (.cells #[.int .i64 y8.kind, .int .u64 (y8.num : Int), .slice A8.ab A8.nb A8.cb, .slice A8.ai A8.ni A8.ci] 26)
          have N9 := alloc_new v8 (.cells #[.int .i64 y8.kind, .int .u64 (y8.num : Int), .slice A8.ab A8.nb A8.cb, .slice A8.ai A8.ni A8.ci] 26)
          have HSP := Lib.hid (HSX.out.pure (pure_trans HB8.out P9))
          have hsx := HSX.out.bel.size
          obtain ⟨v9, W9, hrun, hO, hgr, hown⟩ := HSP.out.out.app (news := [(y8, A8)]) (m := 1) (c := 1) (SrcI.one N9) (fun e he => by
            simp only [List.mem_singleton] at he
            subst he
            exact (HI8.out.below P9).imp fun b hb _ => ⟨⟨by have := lt_of_block HSX.out.res; omega, fun e => by have := (own_lt HSX.out.own e).1; omega⟩, fun e => by have := (own_lt HSX.out.out.row e).1; omega⟩) (by have := HNI.out; omega) (by have := HSP.out.bel.size; have := lt_of_block HSP.out.res; omega)
          obtain ⟨a9, c9, e9⟩ := own_form hO.row
          generalize (es ++ [(y8, A8)]).length = n9 at e9
          subst e9
          have HS9 := Lib.hid (HSP.out.items hO hgr hown)
          have hb9 : W9.heap[w.heap.size]? = some (.cells #[.int .i64 k, .int .u64 N, (.slice a2 nb' c2), (.slice a3 ni' c3)] 26 (0, 0)) := (hgr.block _ (lt_of_block HSP.out.blk) (fun e => by have := (own_lt HSP.out.out.row e.symm).2.1; omega)).trans HSP.out.blk
          have HRUN := Lib.hid hrun
          have hp4c := (HSP.out.blk)
          obtain ⟨t0, t1, t2, t3⟩ := cell_of4 hp4c
          obtain ⟨x0, x1, x2, x3⟩ := cell_of4 hb9
          obtain ⟨p0, p1, p2, p3⟩ := frozen_of4 hb9
          clear hb9 hO hgr hown N9 P9 hrun hp4c t0 t1 t2
          refine hK1.out _ _ trivial (fun hHeld => ?_)
          clear hK1
          try simp only [Act.put, List.setIfInBounds_toArray, List.set_cons_zero, List.set_cons_succ, List.getElem_toArray, List.getElem_cons_succ, List.getElem_cons_zero]
          refine wpAnyH_ready (rs := [5]) (by kernel_rfl) (by simp) ?_
          refine AllReadyH.cons rfl (fun K1 hK1 => ?_) AllReadyH.nil
          rw [if_pos (by rfl)]
          refine wp_app _ _ 24 rfl rfl rfl HRUN.out ?_
          refine hK1.out _ _ trivial (fun hHeld => ?_)
          clear hK1
          try simp only [Act.put, List.setIfInBounds_toArray, List.set_cons_zero, List.set_cons_succ, List.getElem_toArray, List.getElem_cons_succ, List.getElem_cons_zero]
          refine wpAnyH_take (i := 6) (v := ?_) rfl (by kernel_rfl) (by kernel_rfl) (by kernel_rfl) (fun _ _ _ h => h) (Or.inl ⟨by rfl, ?_⟩) hHeld ?_
          rotate_left
          · (intro W hSw; (try dsimp only at hSw); go_simp; try with_reducible rfl)
          try simp only [Act.put, List.setIfInBounds_toArray, List.set_cons_zero, List.set_cons_succ, List.getElem_toArray, List.getElem_cons_succ, List.getElem_cons_zero]
          refine wpAnyH_ready (rs := [7]) (by kernel_rfl) (by simp) ?_
          refine AllReadyH.cons rfl (fun K1 hK1 => ?_) AllReadyH.nil
          go_simp
          refine hK1.out _ _ trivial (fun hHeld => ?_)
          clear hK1
          try simp only [Act.put, List.setIfInBounds_toArray, List.set_cons_zero, List.set_cons_succ, List.getElem_toArray, List.getElem_cons_succ, List.getElem_cons_zero]
          refine wpAnyH_done (by kernel_rfl) ?_ _
          try simp only [Act.put, List.setIfInBounds_toArray, List.set_cons_zero, List.set_cons_succ, List.getElem_toArray, List.getElem_cons_succ, List.getElem_cons_zero]
          clear hHeld m3' m0 m1 m2 m3 f0 f1 f2 f3 x0 x1 x2 x3 p0 p1 p2 p3 t3
          generalize W9.setCell ⟨w.heap.size, 3, none⟩ (.slice a9 n9 c9) = u7 at *
          obtain ⟨m0, m1, m2, m3⟩ := cell_of4 HS9.out.blk
          obtain ⟨r0, r1, r2, r3⟩ := cell_of4 HS9.out.res
          obtain ⟨q0, q1, q2, q3⟩ := frozen_of4 HS9.out.res
          go_wp2_with fail
          have hp4 := put4 HS9.out.res (.int .i64 k) (.int .u64 N) ((.slice a2 nb' c2)) ((.slice a9 n9 c9))
          have hst := HS9.out.stop HNN.out.1 HNN.out.2
          generalize ((((u7).setCell ⟨w.heap.size + 1, 0, none⟩ (.int .i64 k)).setCell ⟨w.heap.size + 1, 1, none⟩ (.int .u64 N)).setCell ⟨w.heap.size + 1, 2, none⟩ ((.slice a2 nb' c2))).setCell ⟨w.heap.size + 1, 3, none⟩ ((.slice a9 n9 c9)) = W9 at *
          obtain ⟨g0, g1, g2, g3⟩ := cell_of4 hp4
          refine bodyPost_ret (v := .agg #[.int .i64 k, .int .u64 N, (.slice a2 nb' c2), (.slice a9 n9 c9)]) (by simp [results, Tryz.results50, go_sem, g0, g1, g2, g3]) rfl ?_
          exact hst
        · go_simp
          have P9 := pure_alloc v8 (.cells #[.int .i64 y8.kind, .int .u64 (y8.num : Int), .slice A8.ab A8.nb A8.cb, .slice A8.ai A8.ni A8.ci] 26)
          have N9 := alloc_new v8 (.cells #[.int .i64 y8.kind, .int .u64 (y8.num : Int), .slice A8.ab A8.nb A8.cb, .slice A8.ai A8.ni A8.ci] 26)
          have HSP := Lib.hid (HSX.out.pure (pure_trans HB8.out P9))
          have hsx := HSX.out.bel.size
          obtain ⟨v9, W9, hrun, hO, hgr, hown⟩ := HSP.out.out.app (news := [(y8, A8)]) (m := 1) (c := 1) (SrcI.one N9) (fun e he => by
            simp only [List.mem_singleton] at he
            subst he
            exact (HI8.out.below P9).imp fun b hb _ => ⟨⟨by have := lt_of_block HSX.out.res; omega, fun e => by have := (own_lt HSX.out.own e).1; omega⟩, fun e => by have := (own_lt HSX.out.out.row e).1; omega⟩) (by have := HNI.out; omega) (by have := HSP.out.bel.size; have := lt_of_block HSP.out.res; omega)
          obtain ⟨a9, c9, e9⟩ := own_form hO.row
          generalize (es ++ [(y8, A8)]).length = n9 at e9
          subst e9
          have HS9 := Lib.hid (HSP.out.items hO hgr hown)
          have hb9 : W9.heap[w.heap.size]? = some (.cells #[.int .i64 k, .int .u64 N, (.slice a2 nb' c2), (.slice a3 ni' c3)] 26 (0, 0)) := (hgr.block _ (lt_of_block HSP.out.blk) (fun e => by have := (own_lt HSP.out.out.row e.symm).2.1; omega)).trans HSP.out.blk
          have HRUN := Lib.hid hrun
          have hp4c := (HSP.out.blk)
          obtain ⟨t0, t1, t2, t3⟩ := cell_of4 hp4c
          obtain ⟨x0, x1, x2, x3⟩ := cell_of4 hb9
          obtain ⟨p0, p1, p2, p3⟩ := frozen_of4 hb9
          clear hb9 hO hgr hown N9 P9 hrun hp4c t0 t1 t2
          refine hK1.out _ _ trivial (fun hHeld => ?_)
          clear hK1
          try simp only [Act.put, List.setIfInBounds_toArray, List.set_cons_zero, List.set_cons_succ, List.getElem_toArray, List.getElem_cons_succ, List.getElem_cons_zero]
          refine wpAnyH_ready (rs := [1]) (by kernel_rfl) (by simp) ?_
          refine AllReadyH.cons rfl (fun K1 hK1 => ?_) AllReadyH.nil
          go_simp
          refine hK1.out _ _ hHeld (fun hHeld => ?_)
          clear hK1
          try simp only [Act.put, List.setIfInBounds_toArray, List.set_cons_zero, List.set_cons_succ, List.getElem_toArray, List.getElem_cons_succ, List.getElem_cons_zero]
          refine wpAnyH_ready (rs := [5]) (by kernel_rfl) (by simp) ?_
          refine AllReadyH.cons rfl (fun K1 hK1 => ?_) AllReadyH.nil
          rw [if_pos (by rfl)]
          refine wp_app _ _ 24 rfl rfl rfl HRUN.out ?_
          refine hK1.out _ _ trivial (fun hHeld => ?_)
          clear hK1
          try simp only [Act.put, List.setIfInBounds_toArray, List.set_cons_zero, List.set_cons_succ, List.getElem_toArray, List.getElem_cons_succ, List.getElem_cons_zero]
          refine wpAnyH_take (i := 6) (v := ?_) rfl (by kernel_rfl) (by kernel_rfl) (by kernel_rfl) (fun _ _ _ h => h) (Or.inl ⟨by rfl, ?_⟩) hHeld ?_
          rotate_left
          · (intro W hSw; (try dsimp only at hSw); go_simp; try with_reducible rfl)
          try simp only [Act.put, List.setIfInBounds_toArray, List.set_cons_zero, List.set_cons_succ, List.getElem_toArray, List.getElem_cons_succ, List.getElem_cons_zero]
          refine wpAnyH_ready (rs := [7]) (by kernel_rfl) (by simp) ?_
          refine AllReadyH.cons rfl (fun K1 hK1 => ?_) AllReadyH.nil
          go_simp
          refine hK1.out _ _ trivial (fun hHeld => ?_)
          clear hK1
          try simp only [Act.put, List.setIfInBounds_toArray, List.set_cons_zero, List.set_cons_succ, List.getElem_toArray, List.getElem_cons_succ, List.getElem_cons_zero]
          refine wpAnyH_done (by kernel_rfl) ?_ _
          try simp only [Act.put, List.setIfInBounds_toArray, List.set_cons_zero, List.set_cons_succ, List.getElem_toArray, List.getElem_cons_succ, List.getElem_cons_zero]
          clear hHeld m3' m0 m1 m2 m3 f0 f1 f2 f3 x0 x1 x2 x3 p0 p1 p2 p3 t3
          generalize W9.setCell ⟨w.heap.size, 3, none⟩ (.slice a9 n9 c9) = u7 at *
          obtain ⟨m0, m1, m2, m3⟩ := cell_of4 HS9.out.blk
          obtain ⟨r0, r1, r2, r3⟩ := cell_of4 HS9.out.res
          obtain ⟨q0, q1, q2, q3⟩ := frozen_of4 HS9.out.res
          go_wp2_with fail
          have hp4 := put4 HS9.out.res (.int .i64 k) (.int .u64 N) ((.slice a2 nb' c2)) ((.slice a9 n9 c9))
          have hst := HS9.out.stop HNN.out.1 HNN.out.2
          generalize ((((u7).setCell ⟨w.heap.size + 1, 0, none⟩ (.int .i64 k)).setCell ⟨w.heap.size + 1, 1, none⟩ (.int .u64 N)).setCell ⟨w.heap.size + 1, 2, none⟩ ((.slice a2 nb' c2))).setCell ⟨w.heap.size + 1, 3, none⟩ ((.slice a9 n9 c9)) = W9 at *
          obtain ⟨g0, g1, g2, g3⟩ := cell_of4 hp4
          refine bodyPost_ret (v := .agg #[.int .i64 k, .int .u64 N, (.slice a2 nb' c2), (.slice a9 n9 c9)]) (by simp [results, Tryz.results50, go_sem, g0, g1, g2, g3]) rfl ?_
          exact hst

    · obtain ⟨m4, hm4, em4⟩ := bits_lt 64 (A := IntKind.u64.wrap (IntKind.u64.wrap q * 4294967296)) (B := 9219149912204115968) (a := (IntKind.u64.wrap (IntKind.u64.wrap q * 4294967296)).toNat) (b := 9219149912204115968) (by have := u64_in (IntKind.u64.wrap q * 4294967296); omega) rfl (by have := u64_in (IntKind.u64.wrap q * 4294967296); omega) (by decide) (by decide)
      obtain ⟨N4, hN4⟩ : ∃ N4, N4 = (m4 : Int) := ⟨_, rfl⟩
      have HN4 : Hid (0 ≤ N4 ∧ N4 < 18446744073709551616) := Lib.hid (by omega)
      rw [← hN4] at em4
      clear hN4 hm4
      have HS8 := Lib.hid (HSX.out.cell (k' := 8) (N' := N) 0 (.int .i64 8) (by simp))
      have HS9 := Lib.hid (HS8.out.cell (k' := 8) (N' := N4) 1 (.int .u64 N4) (by simp))
      go_upto_region 16 with fail
      clear m0 m1 m2 m3 f0 f1 f2 f3
      generalize hW7 : (u.setCell ⟨w.heap.size, 0, none⟩ (.int .i64 8)).setCell ⟨w.heap.size, 1, none⟩ (.int .u64 N4) = u7 at *
      clear hW7
      obtain ⟨m0, m1, m2, m3⟩ := cell_of4 HS9.out.blk
      obtain ⟨r0, r1, r2, r3⟩ := cell_of4 HS9.out.res
      obtain ⟨q0, q1, q2, q3⟩ := frozen_of4 HS9.out.res
      go_wp2_with fail
      have hp4 := put4 HS9.out.res (.int .i64 8) (.int .u64 N4) ((.slice a2 nb' c2)) ((.slice a3 ni' c3))
      have hst := HS9.out.stop HN4.out.1 HN4.out.2
      generalize ((((u7).setCell ⟨w.heap.size + 1, 0, none⟩ (.int .i64 8)).setCell ⟨w.heap.size + 1, 1, none⟩ (.int .u64 N4)).setCell ⟨w.heap.size + 1, 2, none⟩ ((.slice a2 nb' c2))).setCell ⟨w.heap.size + 1, 3, none⟩ ((.slice a3 ni' c3)) = W9 at *
      obtain ⟨g0, g1, g2, g3⟩ := cell_of4 hp4
      refine bodyPost_ret (v := .agg #[.int .i64 8, .int .u64 N4, (.slice a2 nb' c2), (.slice a3 ni' c3)]) (by simp [results, Tryz.results50, go_sem, g0, g1, g2, g3]) rfl ?_
      exact hst



theorem sp_any : ∀ (m : Nat) (x : It) (A : Ad) (w : World) (ok : Nat → Prop) (p q : Int), -9223372036854775808 ≤ q → q ≤ 9223372036854775807 → It.nodes x ≤ m → m ≤ 100000 → It.st x = true → IR ok w x A → Calls Tryz.prog 50 #[.agg #[.int .i64 x.kind, .int .u64 (x.num : Int), .slice A.ab A.nb A.cb, .slice A.ai A.ni A.ci], .int .i64 p, .int .i64 q] w (SpP w)
  | 0 => fun x A w ok p q _ _ hm _ _ _ => by have := It.nodes_pos x; omega
  | m + 1 => fun x A w ok p q h0 h1 hm hM hs hI => by
    have hnum := hI.num
    cases x with
    | mk k n b ks =>
      have hcp := fun W (hW : Below w.heap.size w W) => copy_any (m + 1) (.mk k n b ks) A W ok hm hM hs (hI.below hW)
      simp only [It.kind, It.num, It.bytes, It.kids] at *
      unfold It.st at hs
      simp only [Bool.and_eq_true, decide_eq_true_eq] at hs
      have hnn : It.nodes (.mk k n b ks) = 1 + It.nodesL ks := rfl
      have hkl := It.length_le_nodesL ks
      exact sp_one k n b ks _ _ _ _ _ _ w ok n p q rfl hnum h0 h1 hs.1 (by omega) hcp fun j hj A' W ok' p q h0 h1 hI' => sp_any m ks[j] A' W ok' p q h0 h1 (by have := nodes_get hj; omega) (by omega) (sts_get hs.2 hj) hI'
end Go.Proofs.YtelefkkkccilaaaGreatDoor
