/- Walks of slot and read. -/
import Derived.Test.YtnfjfifdkmgbdaaWb
import Derived.Test.YtnfjfifdkmgbdaaPb
namespace Go.Proofs.Ytnfjfifdkmgbdaa
open Go.RowKit

theorem mk8 (w : World) : (Instr.makeSlice 22 (.int .i64 8) (.int .i64 8)).run Try.prog w = .ok (.slice (some ⟨w.heap.size, 0, none⟩) 8 8) (w.alloc (.cells #[.int .u8 0, .int .u8 0, .int .u8 0, .int .u8 0, .int .u8 0, .int .u8 0, .int .u8 0, .int .u8 0] 5)) := by kernel_rfl

theorem cell_of_arr {w : World} {g : Nat} {A : Array Value} {e : TypeId} {f : Nat × Nat} (h : w.heap[g]? = some (.cells A e f)) (k : Nat) : w.cell? ⟨g, k, none⟩ = A[k]? := by
  simp [World.cell?, h]
theorem frozen_of_arr {w : World} {g : Nat} {A : Array Value} {e : TypeId} (h : w.heap[g]? = some (.cells A e (0, 0))) (k : Nat) : w.frozen? ⟨g, k, none⟩ = false := by
  simp [World.frozen?, h]
theorem set_arr {w : World} {g : Nat} {A : Array Value} {e : TypeId} {f : Nat × Nat} (h : w.heap[g]? = some (.cells A e f)) (k : Nat) (v : Value) : (w.setCell ⟨g, k, none⟩ v).heap[g]? = some (.cells (A.setIfInBounds k v) e f) := by
  simp [World.setCell, Array.getElem?_modify, h]

def SlotPost (p : List UInt8) (n : Nat) (w : World) (e : Ending) (w' : World) : Prop :=
  ∃ g, e = .returned (.slice (some ⟨g, 0, none⟩) 8 8) ∧ w.heap.size ≤ g ∧ w'.heap[g]? = some (.cells ((Fl.slotB p n).map bv).toArray 5 (0, 0)) ∧ Below w.heap.size w w'
/-- The row after k bytes. -/
def SlotRow (p : List UInt8) (n k : Nat) (A : Array Value) : Prop := A.size = 8 ∧ ∀ j, j < k → A[j]? = some (bv (Fl.at255 p (n * 8 + j)))
theorem SlotRow.step {p : List UInt8} {n k : Nat} {A : Array Value} (h : SlotRow p n k A) (hk : k < 8) : SlotRow p n (k + 1) (A.setIfInBounds k (bv (Fl.at255 p (n * 8 + k)))) := by
  obtain ⟨h1, h2⟩ := h
  refine ⟨by simpa using h1, fun j hj => ?_⟩
  by_cases e : j = k
  · subst e; simp [h1, hk]
  · rw [Array.getElem?_setIfInBounds_ne (by omega)]; exact h2 j (by omega)
theorem SlotRow.done {p : List UInt8} {n : Nat} {A : Array Value} (h : SlotRow p n 8 A) : A = ((Fl.slotB p n).map bv).toArray := by
  obtain ⟨h1, h2⟩ := h
  apply Array.ext'
  apply List.ext_getElem?
  intro i
  by_cases hi : i < 8
  · have := h2 i hi
    rw [Array.getElem?_toList, this]
    have e := Fl.slotB_get p n i hi
    simp [hi, Fl.slotB_length, ← e, List.getElem?_eq_getElem (show i < (Fl.slotB p n).length from hi)]
  · rw [List.getElem?_eq_none (by simp; omega), List.getElem?_eq_none (by simp [Fl.slotB_length]; omega)]

set_option maxHeartbeats 800000 in
theorem slot_any (a : Option Addr) (len cap : Nat) (p : List UInt8) (n : Nat) (w : World) (h : Bs w a len p) (hn : n ≤ 1000000) :
    Calls Try.prog 60 #[.slice a len cap, .int .i64 n] w (SlotPost p n w) := by
  obtain ⟨h1, h2, h3⟩ := h
  have H1 := Lib.hid h1
  have H3 := Lib.hid h3
  clear h1 h3
  have hmk := mk8
  go_enter Try.func60, Try.ntmps60
  go_wp2
  clear hmk
  go_loopw [11] (fun i wr => ∃ (k : Nat) (A : Array Value), k ≤ 8 ∧ i = .int .i64 k ∧ wr.heap[w.heap.size]? = some (.cells A 5 (0, 0)) ∧ SlotRow p n k A ∧ Below w.heap.size w wr) (fun i _ => 8 - (intOf i).toNat)
  case atStart => exact ⟨0, _, by omega, rfl, alloc_new _ _, ⟨rfl, fun j hj => by omega⟩, pure_alloc _ _⟩
  case round =>
    obtain ⟨k, A, hk, rfl, hg, hA, hb⟩ := hrel
    have HA := Lib.hid hA
    have HB := Lib.hid hb
    have HG := Lib.hid hg
    by_cases hk8 : k < 8
    · have c1 : wr.cell? ⟨w.heap.size, k, none⟩ = some A[k]! := by rw [cell_of_arr hg]; simp [hA.1, hk8]
      have c2 := frozen_of_arr hg k
      have hsz := lt_of_block hg
      clear hA hb hg
      by_cases hi : n * 8 + k < len
      · obtain ⟨b, o, e1, e2⟩ := H3.out (n * 8 + k) hi
        have e3 := (HB.out.cell (p := ⟨b, o + (n * 8 + k), none⟩) (lt_of_cell e2)).trans e2
        subst e1
        have hne : b ≠ w.heap.size := Nat.ne_of_lt (lt_of_cell e2)
        clear e2
        go_wp2
        go_roundw
        case rel =>
          have e4 : Value.int .u8 ((p[n * 8 + k]?.getD 0).toNat : Int) = bv (Fl.at255 p (n * 8 + k)) := by
            have := H1.out
            simp [bv, Fl.at255, List.getElem?_eq_getElem (show n * 8 + k < p.length by omega)]
          rw [e4]
          exact ⟨k + 1, _, by omega, by go_num, set_arr (set_arr HG.out k _) k _, (by simpa using HA.out.step hk8), (HB.out.setCell (p := ⟨w.heap.size, k, none⟩) (Nat.le_refl _) _).setCell (p := ⟨w.heap.size, k, none⟩) (Nat.le_refl _) _⟩
        case measure => simp [intOf]; omega
      · go_wp2
        go_roundw
        case rel =>
          have e4 : Value.int .u8 255 = bv (Fl.at255 p (n * 8 + k)) := by
            have := H1.out
            simp [bv, Fl.at255, List.getElem?_eq_none (show p.length ≤ n * 8 + k by omega)]
          rw [e4]
          exact ⟨k + 1, _, by omega, by go_num, set_arr HG.out k _, HA.out.step hk8, (HB.out.setCell (p := ⟨w.heap.size, k, none⟩) (Nat.le_refl _) _)⟩
        case measure => simp [intOf]; omega
    · obtain rfl : k = 8 := by omega
      clear hA hb hg
      go_wp2
      go_ret
      exact ⟨_, rfl, Nat.le_refl _, by rw [HG.out, ← HA.out.done], HB.out⟩
end Go.Proofs.Ytnfjfifdkmgbdaa
