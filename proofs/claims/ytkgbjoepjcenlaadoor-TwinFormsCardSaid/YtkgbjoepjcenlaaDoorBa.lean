/- Worlds, rows of one's own, and how terms lie in memory. -/
import Derived.Test.YtkgbjoepjcenlaaDoorRows
import Derived.Test.YtkgbjoepjcenlaaDoorPc
import Derived.WalkKit
import Derived.WalkSpells
import Derived.WalkLawsBesides
import Derived.Deep.QuietTactic
import Derived.BigQuiet
import Derived.Lib.Hide
import Derived.Deep.RegionHeld3
import Derived.Deep.DeepMust
import Derived.Deep.DeepCutAuto
import Derived.Maps.AppendAt
namespace Go.Proofs.YtkgbjoepjcenlaaDoor
open Go.RowKit

theorem ret_int {k : IntKind} {a b : Int} (h : a = b) : Ending.returned (.int k a) = .returned (.int k b) := by rw [h]
theorem bcell {W w1 : World} (hb : Below W.heap.size W w1) : (∀ b o, b < W.heap.size → w1.cell? ⟨b, o, none⟩ = W.cell? ⟨b, o, none⟩) ∧ (∀ b o, b < W.heap.size → w1.frozen? ⟨b, o, none⟩ = W.frozen? ⟨b, o, none⟩) :=
  ⟨fun b o h => hb.cell (p := ⟨b, o, none⟩) h, fun b o h => hb.frozen (p := ⟨b, o, none⟩) h⟩
theorem below_drewN {B : Nat} {a w : World} (h : Below B a w) (n : Nat) : Below B a (w.drewN n) := ⟨h.os, h.tape, h.output, h.size, h.block⟩
theorem lt_of_block {w : World} {b : Nat} {o : Obj} (h : w.heap[b]? = some o) : b < w.heap.size := by
  rcases Nat.lt_or_ge b w.heap.size with h1 | h1
  · exact h1
  · simp [Array.getElem?_eq_none h1] at h
theorem lt_of_cell {w : World} {b o : Nat} {v : Value} (h : w.cell? ⟨b, o, none⟩ = some v) : b < w.heap.size := by
  unfold World.cell? at h
  split at h
  · rename_i hb; exact lt_of_block hb
  · cases h
theorem Below.keep {B k : Nat} {w w' : World} {o : Obj} (h : Below B w w') (hk : w.heap[k]? = some o) (hb : k < B) : w'.heap[k]? = some o := (h.block k hb).trans hk
theorem alloc_new (w : World) (o : Obj) : (w.alloc o).heap[w.heap.size]? = some o := by
  show (w.heap.push o)[w.heap.size]? = _
  simp
theorem alloc_new' (w : World) (o : Obj) (b : Nat) (h : b = w.heap.size) : (w.alloc o).heap[b]? = some o := by subst h; exact alloc_new w o
theorem alloc_keep {w : World} {k : Nat} {o o' : Obj} (h : w.heap[k]? = some o) : (w.alloc o').heap[k]? = some o := (Below.heap_alloc _ _ _ (lt_of_block h)).trans h
/-- Two steps, each of which turns nothing that was there. -/
theorem pure_trans {a b c : World} (h : Below a.heap.size a b) (k : Below b.heap.size b c) : Below a.heap.size a c := h.trans (k.mono h.size)
theorem pure_alloc (w : World) (o : Obj) : Below w.heap.size w (w.alloc o) := (Below.refl _ _).alloc (Nat.le_refl _) o
/-- A callee that leaves the world alone, at a call of a quiet region. -/
theorem quiet_at {P : Program} {f : FuncId} {args : Array Value} {W : World} {v : Value} {C : World → Prop}
    (h : Calls P f args W fun e w' => e = .returned v ∧ W = w') (hC : C W) : Calls P f args W fun e w'' => e = .returned v ∧ C w'' :=
  h.mono fun _ _ ⟨he, hm⟩ => ⟨he, hm ▸ hC⟩

theorem cell_of_arr {w : World} {g : Nat} {A : Array Value} {e : TypeId} {f : Nat × Nat} (h : w.heap[g]? = some (.cells A e f)) (k : Nat) : w.cell? ⟨g, k, none⟩ = A[k]? := by
  simp [World.cell?, h]
theorem frozen_of_arr {w : World} {g : Nat} {A : Array Value} {e : TypeId} (h : w.heap[g]? = some (.cells A e (0, 0))) (k : Nat) : w.frozen? ⟨g, k, none⟩ = false := by
  simp [World.frozen?, h]
theorem set_arr {w : World} {g : Nat} {A : Array Value} {e : TypeId} {f : Nat × Nat} (h : w.heap[g]? = some (.cells A e f)) (k : Nat) (v : Value) : (w.setCell ⟨g, k, none⟩ v).heap[g]? = some (.cells (A.setIfInBounds k v) e f) := by
  simp [World.setCell, Array.getElem?_modify, h]
theorem set_other {w : World} {a : Addr} {v : Value} {k : Nat} {o : Obj} (h : w.heap[k]? = some o) (hk : k ≠ a.block) : (w.setCell a v).heap[k]? = some o := (Below.heap_setCell _ _ _ _ hk).trans h
theorem cell_block {w w' : World} {b o : Nat} (h : w'.heap[b]? = w.heap[b]?) : w'.cell? ⟨b, o, none⟩ = w.cell? ⟨b, o, none⟩ := by unfold World.cell?; rw [h]
theorem own_lt {w : World} {base e size : Nat} {v : Value} {n : Nat} {xs : List Value} (h : w.ownsRow base e size v n xs) {g : Nat} (hg : v.ownBlock = some g) : g < w.heap.size ∧ base ≤ g ∧ ∃ cur, w.heap[g]? = some (.cells cur e (0, 0)) := by
  rcases h.2 with ⟨rfl, _⟩ | ⟨g', cap, cur, rfl, hb, hh, _⟩
  · cases hg
  · simp only [Value.ownBlock, Option.some.injEq] at hg
    subst hg
    exact ⟨lt_of_block hh, hb, cur, hh⟩
theorem own_keep {w w' : World} {base e size : Nat} {v : Value} {n : Nat} {xs : List Value} (h : w.ownsRow base e size v n xs) (k : ∀ g, v.ownBlock = some g → w'.heap[g]? = w.heap[g]?) : w'.ownsRow base e size v n xs := by
  obtain ⟨h1, h2⟩ := h
  refine ⟨h1, ?_⟩
  rcases h2 with h2 | ⟨g, cap, cur, rfl, hb, hh, r⟩
  · exact .inl h2
  · exact .inr ⟨g, cap, cur, rfl, hb, (k g rfl).trans hh, r⟩
theorem own_pure {w w' : World} {base e size : Nat} {v : Value} {n : Nat} {xs : List Value} (h : w.ownsRow base e size v n xs) (k : Below w.heap.size w w') : w'.ownsRow base e size v n xs :=
  own_keep h fun g hg => k.block g (own_lt h hg).1
/-- Blocks of two kinds are two blocks. -/
theorem kind_ne {w : World} {a b : Nat} {c c' : Array Value} {e e' : TypeId} {f f' : Nat × Nat} (h : w.heap[a]? = some (.cells c e f)) (h' : w.heap[b]? = some (.cells c' e' f')) (he : e ≠ e') : a ≠ b := fun h2 => by
  subst h2; rw [h] at h'; cases h'; exact he rfl
theorem grown_pure {w w' : World} (h : w.grownBy w' none) : Below w.heap.size w w' := ⟨h.os, h.tape, h.output, h.size, fun k hk => h.block k hk (by simp)⟩

/-- An append whose run is known, at the operation. -/
theorem wp_app {P : Program} {w w' : World} {o : Oper} {a : Act} {K : Act → World → Prop} {Q : Exit → Act → World → Prop} (s x : Operand) (t : TypeId) (ho : o.op = .call { callee := .builtin .append, args := #[s, x], argTypes := #[t, t] })
    {vs vx v' : Value} (hs : a.eval s = vs) (hx : a.eval x = vx) (hrun : (Builtin.append_ #[t, t] o.type #[vs, vx]).run P w = .ok v' w') (h : K (a.put o.dst v') w') : o.wp P a w K Q := by
  unfold Oper.wp execOp
  simp only [ho, resolve, invoke, builtin, Sem.run_bind, Sem.run_pure, Result.andThen_ok, List.map_toArray, List.map_cons, List.map_nil, hs, hx, hrun]
  exact h
theorem wpList_app {P : Program} {w w' : World} {ops : Array Oper} {rest : List Oper} {o : Oper} {a : Act} {Q : Exit → Act → World → Prop} (hgd : o.guard = none) (s x : Operand) (t : TypeId) (ho : o.op = .call { callee := .builtin .append, args := #[s, x], argTypes := #[t, t] })
    {vs vx v' : Value} (hs : a.eval s = vs) (hx : a.eval x = vx) (hrun : (Builtin.append_ #[t, t] o.type #[vs, vx]).run P w = .ok v' w') (h : wpList P ops Q rest (a.put o.dst v') w') : wpList P ops Q (o :: rest) a w :=
  wpList_plain hgd fun _ hK => wp_app s x t ho hs hx hrun (hK _ _ h)
theorem own_form {w : World} {base e size : Nat} {v : Value} {n : Nat} {xs : List Value} (h : w.ownsRow base e size v n xs) : ∃ a c, v = .slice a n c := by
  rcases h.2 with ⟨rfl, rfl⟩ | ⟨g, cap, cur, rfl, _⟩
  · exact ⟨none, 0, rfl⟩
  · exact ⟨_, cap, rfl⟩
theorem below_grown {n : Nat} {w W W' : World} {e size : Nat} {v : Value} {k : Nat} {xs : List Value} (h1 : Below n w W) (hn : n ≤ W.heap.size) (hown : W.ownsRow n e size v k xs) (hgr : W.grownBy W' v.ownBlock) : Below n w W' :=
  ⟨hgr.os.trans h1.os, hgr.tape.trans h1.tape, hgr.output.trans h1.output, Nat.le_trans h1.size hgr.size, fun i hi => (hgr.block i (by omega) fun e => by have := (own_lt hown e.symm).2.1; omega).trans (h1.block i hi)⟩
theorem below_grownD {n b : Nat} {w W W' : World} {e size : Nat} {v : Value} {k : Nat} {xs : List Value} (h1 : Below n w W) (hn : n ≤ w.heap.size) (hown : W.ownsRow b e size v k xs) (hb : n ≤ b) (hgr : W.drew.grownBy W' v.ownBlock) : Below n w W' :=
  ⟨hgr.os.trans h1.os, hgr.tape.trans h1.tape, hgr.output.trans h1.output, Nat.le_trans h1.size hgr.size, fun i hi => by
    rcases Nat.lt_or_ge i W.heap.size with hl | hl
    · exact (hgr.block i hl fun e => by have := (own_lt hown e.symm).2.1; omega).trans (h1.block i hi)
    · have := h1.size; omega⟩
/-! ### Terms in memory: ok says which blocks they may lie in -/
mutual
/-- The slice a, n holds the kids of a term. -/
def TR (ok : Nat → Prop) (w : World) : Tm → Option Addr → Nat → Prop
  | .mk _ _ ks, a, n => n = ks.length ∧ n ≤ 9223372036854775807 ∧ KR ok w ks a 0
def KR (ok : Nat → Prop) (w : World) : List Tm → Option Addr → Nat → Prop
  | [], _, _ => True
  | k :: ks, a, i => (∃ b o an nn cc, a = some ⟨b, o, none⟩ ∧ (ok b ∧ nn ≤ cc) ∧ w.cell? ⟨b, o + i * 3, none⟩ = some (.int .i64 k.op) ∧ w.cell? ⟨b, o + i * 3 + 1, none⟩ = some (.int .i64 k.num) ∧ w.cell? ⟨b, o + i * 3 + 2, none⟩ = some (.slice an nn cc) ∧ TR ok w k an nn) ∧ KR ok w ks a (i + 1)
end
/-- One term of a slice. -/
def EL (ok : Nat → Prop) (w : World) (k : Tm) (a : Option Addr) (i : Nat) : Prop := ∃ b o an nn cc, a = some ⟨b, o, none⟩ ∧ (ok b ∧ nn ≤ cc) ∧ w.cell? ⟨b, o + i * 3, none⟩ = some (.int .i64 k.op) ∧ w.cell? ⟨b, o + i * 3 + 1, none⟩ = some (.int .i64 k.num) ∧ w.cell? ⟨b, o + i * 3 + 2, none⟩ = some (.slice an nn cc) ∧ TR ok w k an nn
theorem KR_iff {ok : Nat → Prop} {w : World} {a : Option Addr} : ∀ (l : List Tm) (i : Nat), KR ok w l a i ↔ ∀ j (h : j < l.length), EL ok w l[j] a (i + j)
  | [], i => by simp [KR]
  | k :: ks, i => by
    have ih := KR_iff (ok := ok) (w := w) (a := a) ks (i + 1)
    constructor
    · intro h j hj
      unfold KR at h
      cases j with
      | zero => exact h.1
      | succ j =>
        have := ih.1 h.2 j (by simpa using hj)
        have e : i + 1 + j = i + (j + 1) := by omega
        rw [e] at this
        exact this
    · intro h
      unfold KR
      refine ⟨h 0 (by simp), ih.2 fun j hj => ?_⟩
      have := h (j + 1) (by simpa using hj)
      have e : i + 1 + j = i + (j + 1) := by omega
      rw [e]; exact this
/-- The slice a, n holds the terms l. -/
def TL (ok : Nat → Prop) (w : World) (l : List Tm) (a : Option Addr) (n : Nat) : Prop := n = l.length ∧ n ≤ 9223372036854775807 ∧ ∀ j (h : j < l.length), EL ok w l[j] a j
theorem TR_iff {ok : Nat → Prop} {w : World} {t : Tm} {a : Option Addr} {n : Nat} : TR ok w t a n ↔ TL ok w t.kids a n := by
  cases t with
  | mk o m ks =>
    unfold TR TL
    rw [KR_iff]
    simp only [Tm.kids, Nat.zero_add]
theorem TL.nil (ok : Nat → Prop) (w : World) (a : Option Addr) : TL ok w [] a 0 := ⟨rfl, by omega, fun j h => by simp at h⟩
theorem TR.keep {ok ok' : Nat → Prop} {w w' : World} (hk : ∀ b, ok b → b < w.heap.size → w'.heap[b]? = w.heap[b]? ∧ ok' b) {t : Tm} : ∀ {a : Option Addr} {n : Nat}, TR ok w t a n → TR ok' w' t a n := by
  refine Tm.rec (motive_1 := fun t => ∀ {a : Option Addr} {n : Nat}, TR ok w t a n → TR ok' w' t a n) (motive_2 := fun l => ∀ t ∈ l, ∀ {a : Option Addr} {n : Nat}, TR ok w t a n → TR ok' w' t a n) ?_ ?_ ?_ t
  · intro o m ks ih a n h
    rw [TR_iff] at h ⊢
    refine ⟨h.1, h.2.1, fun j hj => ?_⟩
    obtain ⟨b, o, an, nn, cc, e, hb, c0, c1, c2, ht⟩ := h.2.2 j hj
    obtain ⟨hw, hb'⟩ := hk b hb.1 (lt_of_cell c0)
    refine ⟨b, o, an, nn, cc, e, ⟨hb', hb.2⟩, ?_, ?_, ?_, ih _ (List.getElem_mem hj) ht⟩
    · rw [cell_block hw]; exact c0
    · rw [cell_block hw]; exact c1
    · rw [cell_block hw]; exact c2
  · intro t ht; simp at ht
  · intro k ks h1 h2 t ht
    rcases List.mem_cons.1 ht with rfl | ht
    · exact h1
    · exact h2 t ht
theorem TR.below {ok : Nat → Prop} {w w' : World} {t : Tm} {a : Option Addr} {n : Nat} (h : TR ok w t a n) (k : Below w.heap.size w w') : TR ok w' t a n := h.keep fun b hb hl => ⟨k.block b hl, hb⟩
theorem TR.imp {ok ok' : Nat → Prop} {w : World} {t : Tm} {a : Option Addr} {n : Nat} (h : TR ok w t a n) (k : ∀ b, ok b → b < w.heap.size → ok' b) : TR ok' w t a n := h.keep fun b hb hl => ⟨rfl, k b hb hl⟩
theorem EL.keep {ok ok' : Nat → Prop} {w w' : World} (hk : ∀ b, ok b → b < w.heap.size → w'.heap[b]? = w.heap[b]? ∧ ok' b) {k : Tm} {a : Option Addr} {i : Nat} (h : EL ok w k a i) : EL ok' w' k a i := by
  obtain ⟨b, o, an, nn, cc, e, hb, c0, c1, c2, ht⟩ := h
  obtain ⟨hw, hb'⟩ := hk b hb.1 (lt_of_cell c0)
  exact ⟨b, o, an, nn, cc, e, ⟨hb', hb.2⟩, (cell_block hw).trans c0, (cell_block hw).trans c1, (cell_block hw).trans c2, ht.keep hk⟩
theorem TL.keep {ok ok' : Nat → Prop} {w w' : World} {l : List Tm} {a : Option Addr} {n : Nat} (h : TL ok w l a n) (hk : ∀ b, ok b → b < w.heap.size → w'.heap[b]? = w.heap[b]? ∧ ok' b) : TL ok' w' l a n := ⟨h.1, h.2.1, fun j hj => (h.2.2 j hj).keep hk⟩
theorem TL.below {ok : Nat → Prop} {w w' : World} {l : List Tm} {a : Option Addr} {n : Nat} (h : TL ok w l a n) (k : Below w.heap.size w w') : TL ok w' l a n := h.keep fun b hb hl => ⟨k.block b hl, hb⟩
theorem TL.imp {ok ok' : Nat → Prop} {w : World} {l : List Tm} {a : Option Addr} {n : Nat} (h : TL ok w l a n) (k : ∀ b, ok b → b < w.heap.size → ok' b) : TL ok' w l a n := h.keep fun b hb hl => ⟨rfl, k b hb hl⟩
/-- The slice from k on. -/
theorem TL.drop {ok : Nat → Prop} {w : World} {l : List Tm} {b o n : Nat} (h : TL ok w l (some ⟨b, o, none⟩) n) (k : Nat) : TL ok w (l.drop k) (some ⟨b, o + k * 3, none⟩) (n - k) := by
  refine ⟨by rw [List.length_drop, h.1], by have := h.2.1; omega, fun j hj => ?_⟩
  rw [List.length_drop] at hj
  obtain ⟨b', o', an, nn, cc, e, hb, c0, c1, c2, ht⟩ := h.2.2 (k + j) (by omega)
  cases e
  have e1 : o + k * 3 + j * 3 = o + (k + j) * 3 := by rw [Nat.add_mul]; omega
  refine ⟨b, o + k * 3, an, nn, cc, rfl, hb, ?_, ?_, ?_, ?_⟩
  · rw [e1, List.getElem_drop]; exact c0
  · rw [e1, List.getElem_drop]; exact c1
  · rw [e1]; exact c2
  · rw [List.getElem_drop]; exact ht
end Go.Proofs.YtkgbjoepjcenlaaDoor
