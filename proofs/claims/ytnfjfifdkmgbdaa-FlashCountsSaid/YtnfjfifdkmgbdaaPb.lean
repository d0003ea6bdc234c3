/- Plain functions of flash memories: slots, pages, values. No program in sight. -/
import Derived.Test.YtnfjfifdkmgbdaaPa
namespace Go.Proofs.Ytnfjfifdkmgbdaa
namespace Fl

def at255 (p : List UInt8) (i : Nat) : UInt8 := p.getD i 255
def slotB (p : List UInt8) (n : Nat) : List UInt8 := [at255 p (n * 8), at255 p (n * 8 + 1), at255 p (n * 8 + 2), at255 p (n * 8 + 3), at255 p (n * 8 + 4), at255 p (n * 8 + 5), at255 p (n * 8 + 6), at255 p (n * 8 + 7)]
theorem slotB_length (p : List UInt8) (n : Nat) : (slotB p n).length = 8 := rfl
theorem slotB_get (p : List UInt8) (n i : Nat) (h : i < 8) : (slotB p n).getD i 0 = at255 p (n * 8 + i) := by
  have : i = 0 ∨ i = 1 ∨ i = 2 ∨ i = 3 ∨ i = 4 ∨ i = 5 ∨ i = 6 ∨ i = 7 := by omega
  rcases this with rfl | rfl | rfl | rfl | rfl | rfl | rfl | rfl <;> rfl
/-- The key, the value and the goodness of a slot. -/
def keyAt (p : List UInt8) (n : Nat) : Nat := (at255 p (n * 8)).toNat
def valAt (p : List UInt8) (n : Nat) : Nat := ((((at255 p (n * 8 + 1)).toNat * 256 + (at255 p (n * 8 + 2)).toNat) * 256 + (at255 p (n * 8 + 3)).toNat) * 256 + (at255 p (n * 8 + 4)).toNat) * 256 + (at255 p (n * 8 + 5)).toNat
/-- The value's first k bytes. -/
def valK (p : List UInt8) (n : Nat) : Nat → Nat
  | 0 => 0
  | k + 1 => valK p n k * 256 + (at255 p (n * 8 + (k + 1))).toNat
theorem valK_five (p : List UInt8) (n : Nat) : valK p n 5 = valAt p n := by simp [valK, valAt]
theorem valK_lt (p : List UInt8) (n k : Nat) : valK p n k < 256 ^ k := by
  induction k with
  | zero => simp [valK]
  | succ k ih => have := byte_lt (at255 p (n * 8 + (k + 1))); rw [valK, Nat.pow_succ]; omega
theorem valAt_lt (p : List UInt8) (n : Nat) : valAt p n < 1099511627776 := by rw [← valK_five]; exact valK_lt p n 5
theorem keyAt_lt (p : List UInt8) (n : Nat) : keyAt p n < 256 := byte_lt _
theorem or_byte (a x : Nat) (h : x < 256) : (a * 256) ||| x = a * 256 + x := by
  have := Nat.two_pow_add_eq_or_of_lt (i := 8) (b := x) (by omega) a
  rw [show a * 256 = 2 ^ 8 * a by omega, ← this]
def goodAt (p : List UInt8) (n : Nat) : Bool := record (keyAt p n) (valAt p n) == slotB p n
end Fl
end Go.Proofs.Ytnfjfifdkmgbdaa
