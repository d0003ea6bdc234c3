/- Worlds and slices of bytes: what a call may have turned, and how bytes lie in memory. -/
import Derived.Test.YtnfjfifdkmgbdaaRows
import Derived.Test.YtnfjfifdkmgbdaaPa
import Derived.WalkKit
import Derived.WalkSpells
import Derived.WalkLawsBesides
import Derived.Deep.QuietTactic
import Derived.BigQuiet
import Derived.Lib.Hide
import Derived.Deep.RegionHeld3
import Derived.Deep.DeepMust
import Derived.Deep.DeepCutAuto
namespace Go.Proofs.Ytnfjfifdkmgbdaa
open Go.RowKit

theorem ret_int {k : IntKind} {a b : Int} (h : a = b) : Ending.returned (.int k a) = .returned (.int k b) := by rw [h]
theorem bcell {W w1 : World} (hb : Below W.heap.size W w1) : (∀ b o, b < W.heap.size → w1.cell? ⟨b, o, none⟩ = W.cell? ⟨b, o, none⟩) ∧ (∀ b o, b < W.heap.size → w1.frozen? ⟨b, o, none⟩ = W.frozen? ⟨b, o, none⟩) :=
  ⟨fun b o h => hb.cell (p := ⟨b, o, none⟩) h, fun b o h => hb.frozen (p := ⟨b, o, none⟩) h⟩
theorem below_drewN {B : Nat} {a w : World} (h : Below B a w) (n : Nat) : Below B a (w.drewN n) := ⟨h.os, h.tape, h.output, h.size, h.block⟩
theorem lt_of_block {w : World} {b : Nat} {o : Obj} (h : w.heap[b]? = some o) : b < w.heap.size := by
  rcases Nat.lt_or_ge b w.heap.size with h1 | h1
  · exact h1
  · simp [Array.getElem?_eq_none h1] at h
theorem lt_of_cell {w : World} {b o : Nat} {v : Value} (h : w.cell? ⟨b, o, none⟩ = some v) : b < w.heap.size := by
  unfold World.cell? at h
  split at h
  · rename_i hb; exact lt_of_block hb
  · cases h
theorem Below.keep {B k : Nat} {w w' : World} {o : Obj} (h : Below B w w') (hk : w.heap[k]? = some o) (hb : k < B) : w'.heap[k]? = some o := (h.block k hb).trans hk
theorem alloc_new (w : World) (o : Obj) : (w.alloc o).heap[w.heap.size]? = some o := by
  show (w.heap.push o)[w.heap.size]? = _
  simp
theorem alloc_new' (w : World) (o : Obj) (b : Nat) (h : b = w.heap.size) : (w.alloc o).heap[b]? = some o := by subst h; exact alloc_new w o
theorem alloc_keep {w : World} {k : Nat} {o o' : Obj} (h : w.heap[k]? = some o) : (w.alloc o').heap[k]? = some o := (Below.heap_alloc _ _ _ (lt_of_block h)).trans h
/-- Two steps, each of which turns nothing that was there. -/
theorem pure_trans {a b c : World} (h : Below a.heap.size a b) (k : Below b.heap.size b c) : Below a.heap.size a c := h.trans (k.mono h.size)
theorem pure_alloc (w : World) (o : Obj) : Below w.heap.size w (w.alloc o) := (Below.refl _ _).alloc (Nat.le_refl _) o
/-- A callee that leaves the world alone, at a call of a quiet region. -/
theorem quiet_at {P : Program} {f : FuncId} {args : Array Value} {W : World} {v : Value} {C : World → Prop}
    (h : Calls P f args W fun e w' => e = .returned v ∧ W = w') (hC : C W) : Calls P f args W fun e w'' => e = .returned v ∧ C w'' :=
  h.mono fun _ _ ⟨he, hm⟩ => ⟨he, hm ▸ hC⟩

/-- The slice a, len holds the bytes l. -/
def Bs (w : World) (a : Option Addr) (len : Nat) (l : List UInt8) : Prop :=
  l.length = len ∧ len ≤ 9223372036854775807 ∧ ∀ i, i < len → ∃ b o, a = some ⟨b, o, none⟩ ∧ w.cell? ⟨b, o + i, none⟩ = some (.int .u8 (l.getD i 0).toNat)
theorem Bs.nil (w : World) (a : Option Addr) : Bs w a 0 [] := ⟨rfl, by omega, fun i h => by omega⟩
theorem Bs.keep {w w' : World} {a : Option Addr} {len : Nat} {l : List UInt8} (h : Bs w a len l) (k : ∀ b o v, w.cell? ⟨b, o, none⟩ = some v → w'.cell? ⟨b, o, none⟩ = some v) : Bs w' a len l := by
  obtain ⟨h1, h2, h3⟩ := h
  refine ⟨h1, h2, fun i hi => ?_⟩
  obtain ⟨b, o, e1, e2⟩ := h3 i hi
  exact ⟨b, o, e1, k _ _ _ e2⟩
theorem Bs.below {w w' : World} {a : Option Addr} {len : Nat} {l : List UInt8} (h : Bs w a len l) (k : Below w.heap.size w w') : Bs w' a len l :=
  h.keep fun b o v hc => (k.cell (p := ⟨b, o, none⟩) (lt_of_cell hc)).trans hc
theorem Bs.len {w : World} {a : Option Addr} {len : Nat} {l : List UInt8} (h : Bs w a len l) : len ≤ 9223372036854775807 := h.2.1

theorem i64_nat (a : Nat) (ha : a < 9223372036854775808) : (BitVec.ofInt 64 (a : Int)).toNat = a := by
  rw [BitVec.toNat_ofInt]; omega
theorem wrap_i64 (n : Int) (h1 : -9223372036854775808 ≤ n) (h2 : n ≤ 9223372036854775807) : IntKind.i64.wrap n = n := IntWalk.i64_in _ ⟨h1, h2⟩
theorem i64_xor (a b : Nat) (ha : a < 9223372036854775808) (hb : b < 9223372036854775808) : bits .xor .i64 (a : Int) (b : Int) = ((a ^^^ b : Nat) : Int) := by
  have h : a ^^^ b < 9223372036854775808 := Nat.xor_lt_two_pow (n := 63) ha hb
  show IntKind.i64.wrap ((BitVec.ofInt 64 (a : Int) ^^^ BitVec.ofInt 64 (b : Int)).toNat : Int) = _
  rw [BitVec.toNat_xor, i64_nat a ha, i64_nat b hb, wrap_i64] <;> omega
theorem i64_and (a b : Nat) (ha : a < 9223372036854775808) (hb : b < 9223372036854775808) : bits .and .i64 (a : Int) (b : Int) = ((a &&& b : Nat) : Int) := by
  have h : a &&& b < 9223372036854775808 := Nat.and_lt_two_pow (n := 63) a hb
  show IntKind.i64.wrap ((BitVec.ofInt 64 (a : Int) &&& BitVec.ofInt 64 (b : Int)).toNat : Int) = _
  rw [BitVec.toNat_and, i64_nat a ha, i64_nat b hb, wrap_i64] <;> omega
theorem i64_or (a b : Nat) (ha : a < 9223372036854775808) (hb : b < 9223372036854775808) : bits .or .i64 (a : Int) (b : Int) = ((a ||| b : Nat) : Int) := by
  have h : a ||| b < 9223372036854775808 := Nat.or_lt_two_pow (n := 63) ha hb
  show IntKind.i64.wrap ((BitVec.ofInt 64 (a : Int) ||| BitVec.ofInt 64 (b : Int)).toNat : Int) = _
  rw [BitVec.toNat_or, i64_nat a ha, i64_nat b hb, wrap_i64] <;> omega
end Go.Proofs.Ytnfjfifdkmgbdaa
