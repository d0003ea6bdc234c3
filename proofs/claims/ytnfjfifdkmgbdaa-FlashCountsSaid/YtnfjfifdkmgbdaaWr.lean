/- What the loop of Torn owns, and the contract of its iterator. -/
import Derived.Test.YtnfjfifdkmgbdaaWq
namespace Go.Proofs.Ytnfjfifdkmgbdaa
open Go.RowKit Go.Shelf
attribute [local go_sem] Oper.semAt_some

/-- Every row of cells lies as it lay. -/
def CellsKept (W W' : World) : Prop := ∀ (k : Nat) (c : Array Value) (e : TypeId) (f : Nat × Nat), W.heap[k]? = some (.cells c e f) → W'.heap[k]? = some (.cells c e f)
theorem OwnF.cells {W W' : World} {base X : Nat} {m : Fl.Mem} {pa : Option Addr} {pc : Nat} {ea : Option Addr} {ec : Nat} {vs : List Value} (h : OwnF W base X m pa pc ea ec vs) (k : CellsKept W W') : OwnF W' base X m pa pc ea ec vs :=
  ⟨k _ _ _ _ h.box,
   h.pages.keep (fun g hg => by obtain ⟨_, _, c, hc⟩ := own_lt h.pages.row hg; exact (k _ _ _ _ hc).trans hc.symm) (fun i g hi hg => by obtain ⟨_, _, c, hc⟩ := own_lt (h.pages.each i hi) hg; exact (k _ _ _ _ hc).trans hc.symm),
   own_keep h.erased (fun g hg => by obtain ⟨_, _, c, hc⟩ := own_lt h.erased hg; exact (k _ _ _ _ hc).trans hc.symm)⟩
theorem CellsKept.of_below {W W' : World} (h : Below W.heap.size W W') : CellsKept W W' := fun _ _ _ _ hk => Below.keep h hk (lt_of_block hk)
theorem CellsKept.of_grown {W W' : World} {row : Option Nat} (hg : W.grownBy W' row) (hr : ∀ r, row = some r → ∃ o : Obj, W.heap[r]? = some o ∧ o.isCells = false) : CellsKept W W' := fun k c e f hk => by
  refine (hg.block k (lt_of_block hk) fun e' => ?_).trans hk
  obtain ⟨o, ho, hc⟩ := hr k e'.symm
  rw [hk] at ho; cases ho; cases hc

/-- The blocks that the loop of Torn owns: the count's box, the rows of its memory. -/
def TO (bk g pn : Nat) (ea : Option Addr) (W : World) (k : Nat) : Prop := k = bk ∨ k = g ∨ (∃ a, ea = some a ∧ a.block = k) ∨ ∃ i, i < pn ∧ ∃ v, W.cell? ⟨g, i, none⟩ = some v ∧ v.ownBlock = some k
theorem TO_iff {W : World} {base X g pc : Nat} {m : Fl.Mem} {ea : Option Addr} {ec : Nat} {vs : List Value} {bk pn k : Nat} (h : OwnF W base X m (some ⟨g, 0, none⟩) pc ea ec vs) (hp : m.pages.length = pn) :
    TO bk g pn ea W k ↔ k = bk ∨ FBlk (some ⟨g, 0, none⟩) ea vs k := by
  have hl := h.pages.len
  have hc : ∀ i, i < pn → W.cell? ⟨g, i, none⟩ = some (vs.getD i undef) := fun i hi => by
    obtain ⟨g', a, c, e, hv, _, _, hc, _⟩ := h.reads (i := i) (by omega)
    simp only [Option.some.injEq, Addr.mk.injEq, and_true] at e
    rw [hv]; subst e; exact hc
  constructor
  · rintro (h1 | h1 | h1 | ⟨i, hi, v, hv, hb⟩)
    · exact .inl h1
    · exact .inr (.inl ⟨_, rfl, h1.symm⟩)
    · exact .inr (.inr (.inl h1))
    · rw [hc i hi] at hv
      cases hv
      exact .inr (.inr (.inr ⟨i, by omega, hb⟩))
  · rintro (h1 | ⟨a, e, h1⟩ | h1 | ⟨i, hi, hb⟩)
    · exact .inl h1
    · cases e; exact .inr (.inl h1.symm)
    · exact .inr (.inr (.inl h1))
    · exact .inr (.inr (.inr ⟨i, by omega, _, hc i (by omega), hb⟩))
/-- What holds of it. -/
structure TW (n0 bk cb X g pc ec pn : Nat) (ea : Option Addr) (W : World) : Prop where
  lo : n0 ≤ bk
  mid : bk < cb
  hi : cb ≤ W.heap.size
  f : ∃ m vs, OwnF W cb X m (some ⟨g, 0, none⟩) pc ea ec vs ∧ m.pages.length = pn
section
variable {n0 bk cb X g pc ec pn : Nat} {ea : Option Addr} {W W' : World}
theorem TW.kept (h : TW n0 bk cb X g pc ec pn ea W) (hs : W.heap.size ≤ W'.heap.size) (k : CellsKept W W') : TW n0 bk cb X g pc ec pn ea W' ∧ ∀ j, TO bk g pn ea W' j → TO bk g pn ea W j := by
  obtain ⟨m, vs, hf, hp⟩ := h.f
  exact ⟨⟨h.lo, h.mid, Nat.le_trans h.hi hs, m, vs, hf.cells k, hp⟩, fun j o => (TO_iff hf hp).2 ((TO_iff (hf.cells k) hp).1 o)⟩
theorem tIface : Iface (TW n0 bk cb X g pc ec pn ea) (TO bk g pn ea) n0 :=
  ⟨fun W W' h hb => h.kept hb.size (.of_below hb), fun W k h o => by
    obtain ⟨m, vs, hf, hp⟩ := h.f
    have := h.lo; have := h.mid; have := h.hi
    rcases (TO_iff hf hp).1 o with rfl | o
    · omega
    · have := hf.blk o; omega⟩
theorem tKy_put {l : Nat} {o : Obj} (o' : Obj) (hl : W.heap[l]? = some o) (ho : o.isCells = false) (hn : n0 ≤ l) : Ky (TW n0 bk cb X g pc ec pn ea) (TO bk g pn ea) n0 W (W.putObj l o') := by
  have hg := grownBy_putObj' W l o'
  have hk : CellsKept W (W.putObj l o') := .of_grown hg (fun r e => by cases e; exact ⟨o, hl, ho⟩)
  refine ⟨⟨hg.os, hg.tape, hg.output, hg.size, fun k hk => World.putObj_heap_other (by omega)⟩, fun h => ?_⟩
  have := h.kept hg.size hk
  exact ⟨this.1, fun k c e f hc _ => hk k c e f hc, fun k o => .inl (this.2 k o)⟩
/-- A step on the memory, and the count set. -/
theorem tKy_step {W2 : World} {m m' : Fl.Mem} {vs vs' : List Value} {c : Value} (v : Value) (hlo : n0 ≤ bk) (hmid : bk < cb) (hcb : cb ≤ W.heap.size) (hf : OwnF W cb X m (some ⟨g, 0, none⟩) pc ea ec vs) (hp : m.pages.length = pn) (hf2 : OwnF W2 cb X m' (some ⟨g, 0, none⟩) pc ea ec vs') (hp2 : m'.pages.length = pn) (hk : FK W W2 (some ⟨g, 0, none⟩) ea vs vs')
    (hb : W.heap[bk]? = some (.cells #[c] 3 (0, 0))) :
    OwnF (W2.setCell ⟨bk, 0, none⟩ v) cb X m' (some ⟨g, 0, none⟩) pc ea ec vs' ∧ (W2.setCell ⟨bk, 0, none⟩ v).heap[bk]? = some (.cells #[v] 3 (0, 0)) ∧ KeepsOthers W (W2.setCell ⟨bk, 0, none⟩ v) ∧ Ky (TW n0 bk cb X g pc ec pn ea) (TO bk g pn ea) n0 W (W2.setCell ⟨bk, 0, none⟩ v) := by
  have nb : ∀ k, FBlk (some ⟨g, 0, none⟩) ea vs' k → k ≠ bk := fun k o => by have := (hf2.blk o).1; omega
  have nb1 : ¬ FBlk (some ⟨g, 0, none⟩) ea vs bk := fun o => by have := (hf.blk o).1; omega
  have hb2 : W2.heap[bk]? = some (.cells #[c] 3 (0, 0)) := (hk.blk bk (lt_of_block hb) nb1).trans hb
  have hX : X ≠ bk := kind_ne hf2.box hb2 (by decide)
  have hf3 : OwnF (W2.setCell ⟨bk, 0, none⟩ v) cb X m' (some ⟨g, 0, none⟩) pc ea ec vs' :=
    ⟨set_other hf2.box hX, hf2.pages.keep (fun k hk => Below.heap_setCell _ _ _ _ (nb k (by cases hk; exact .inl ⟨_, rfl, rfl⟩))) (fun i k hi hk => Below.heap_setCell _ _ _ _ (nb k (.inr (.inr ⟨i, hi, hk⟩)))),
     own_keep hf2.erased (fun k hk => Below.heap_setCell _ _ _ _ (nb k (by cases ea with | none => cases hk | some a => cases hk; exact .inr (.inl ⟨_, rfl, rfl⟩))))⟩
  have sz : (W2.setCell ⟨bk, 0, none⟩ v).heap.size = W2.heap.size := by simp [World.setCell]
  have keep : ∀ k, k < W.heap.size → ¬ TO bk g pn ea W k → (W2.setCell ⟨bk, 0, none⟩ v).heap[k]? = W.heap[k]? := fun k hl o => by
    rw [TO_iff hf hp] at o
    rw [Below.heap_setCell _ _ _ _ (fun e => o (.inl e))]
    exact hk.blk k hl (fun o' => o (.inr o'))
  have cellsO : ∀ k, TO bk g pn ea W k → ∃ c e f, W.heap[k]? = some (.cells c e f) := fun k o => by
    rcases (TO_iff hf hp).1 o with rfl | ⟨a, e, h1⟩ | ⟨a, rfl, rfl⟩ | ⟨i, hi, h1⟩
    · exact ⟨_, _, _, hb⟩
    · cases e
      obtain ⟨_, _, c, hc⟩ := own_lt hf.pages.row (g := g) rfl
      exact ⟨_, _, _, by rw [← h1]; exact hc⟩
    · obtain ⟨_, _, c, hc⟩ := own_lt hf.erased (g := a.block) rfl
      exact ⟨_, _, _, hc⟩
    · obtain ⟨_, _, c, hc⟩ := own_lt (hf.pages.each i hi) h1
      exact ⟨_, _, _, hc⟩
  have o3 : ∀ k, TO bk g pn ea (W2.setCell ⟨bk, 0, none⟩ v) k → TO bk g pn ea W k ∨ W.heap.size ≤ k := fun k o => by
    rcases (TO_iff hf3 hp2).1 o with rfl | o
    · exact .inl (.inl rfl)
    · rcases hk.own k o with o | o
      · exact .inl ((TO_iff hf hp).2 (.inr o))
      · exact .inr o
  refine ⟨hf3, set_arr hb2 0 v, ⟨by rw [sz]; exact hk.size, fun k o hk ho => ?_⟩, ⟨⟨hk.os, hk.tape, hk.output, by rw [sz]; exact hk.size, fun k hl => ?_⟩, fun hw => ⟨⟨hlo, hmid, by rw [sz]; exact Nat.le_trans hcb hk.size, m', vs', hf3, hp2⟩, fun k c e f hc o => ?_, o3⟩⟩⟩
  · rw [keep k (lt_of_block hk) (fun o' => ?_)]
    · exact hk
    · obtain ⟨c, e, f, hc⟩ := cellsO k o'
      rw [hk] at hc; cases hc; cases ho
  · refine keep k (by omega) fun o => ?_
    rcases (TO_iff hf hp).1 o with rfl | o
    · omega
    · have := (hf.blk o).1; omega
  · exact (keep k (lt_of_block hc) o).trans hc
end

set_option maxHeartbeats 800000 in
/-- The iterator of Torn. -/
theorem torn1_stops {Wf : World → Prop} {O : World → Nat → Prop} {n0 : Nat} (I : Iface Wf O n0) (nd : Nat)
    (sz : Int) (pa : Option Addr) (pn pc : Nat) (ea : Option Addr) (en ec : Nat) (m : Fl.Mem) (key v : Int) (w0 w : World) (h : FRep w0 sz pa pn ea en m) (hv : Fl.validP m = true) (hn0 : n0 = w0.heap.size) (h0 : Below w0.heap.size w0 w) (hW : Wf w)
    (k0 : 0 ≤ key) (k1 : key ≤ 15) (v0 : 0 ≤ v) (v1 : v ≤ 1099511627775) (bf bq bv : Nat) (hbf : w.heap[bf]? = some (.cells #[.int .i64 sz, .slice pa pn pc, .slice ea en ec] 32 (0, 0))) (hbq : w.heap[bq]? = some (.cells #[.int .i64 key] 3 (0, 0))) (hbv : w.heap[bv]? = some (.cells #[.int .i64 v] 3 (0, 0))) :
    SeqStopsK Fence.wide nd Try.prog 43 #[.pointer (some ⟨bf, 0, none⟩), .pointer (some ⟨bq, 0, none⟩), .pointer (some ⟨bv, 0, none⟩)] (fun s : OkStep pn => #[encS s.1]) (Ky Wf O n0) (fun xs => stepsOf xs = Fl.stepsP m key v) (fun pre => stepsOf pre <+: Fl.stepsP m key v) 1000 w := by
  intro l J Jx W hb hJ hJx hY hj
  refine callsIn_wide.2 ?_
  show Calls Try.prog 43 #[.func (.yield l) #[] #[], .pointer (some ⟨bf, 0, none⟩), .pointer (some ⟨bq, 0, none⟩), .pointer (some ⟨bv, 0, none⟩)] W _
  have c1 := cell_of_arr (Below.keep hb hbf (lt_of_block hbf)) 0
  have c2 := cell_of_arr (Below.keep hb hbf (lt_of_block hbf)) 1
  have c3 := cell_of_arr (Below.keep hb hbf (lt_of_block hbf)) 2
  have c4 := cell_of_arr (Below.keep hb hbq (lt_of_block hbq)) 0
  have c5 := cell_of_arr (Below.keep hb hbv (lt_of_block hbv)) 0
  simp at c1 c2 c3 c4 c5
  have HS := Lib.hid (steps_y I pn l (nd - 1) 1000 J Jx (fun pre W W' hp hb => hJ pre W W' none hp ⟨hb.os, hb.tape, hb.output, hb.size, fun k hk _ => hb.block k hk⟩ (fun r e => by cases e)) sz pa pc ea en ec m key v w0 W h hv hn0 (h0.trans (hb.mono h0.size)) (fun pre s W1 hp _ hl => hY pre s W1 hp hl) hj (I.pure _ _ hW hb).1 k0 k1 v0 v1 (by omega))
  clear hY hJ hJx hj h hb I hW hbf hbq hbv hv h0
  go_enter Try.func43, Try.ntmps43
  go_wp2_with fail
  refine HS.out.mono ?_
  rintro e w2 ⟨rfl, hr⟩
  have HR := Lib.hid hr
  clear hr HS
  go_wp2_with fail
  go_end0
  refine ⟨⟨_, rfl⟩, ?_⟩
  rcases HR.out with ⟨r, h1, h2, _⟩ | ⟨r, h1, h2⟩
  · exact .inl ⟨r, h1, h2⟩
  · exact .inr ⟨r, h1, h2⟩
end Go.Proofs.Ytnfjfifdkmgbdaa
