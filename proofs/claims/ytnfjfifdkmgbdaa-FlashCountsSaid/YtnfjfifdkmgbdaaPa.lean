/- Plain functions of flash memories: checks and records. No program in sight. -/
import Derived.WalkKit
namespace Go.Proofs.Ytnfjfifdkmgbdaa
namespace Fl

def crcBit (c : Nat) : Nat := if 65536 ≤ c * 2 then (c * 2 - 65536) ^^^ 4129 else c * 2
def crcBits : Nat → Nat → Nat
  | 0, c => c
  | n + 1, c => crcBit (crcBits n c)
def crcByte (c : Nat) (x : UInt8) : Nat := crcBits 8 (c ^^^ (x.toNat * 256))
def crc (l : List UInt8) : Nat := l.foldl crcByte 65535
def check (l : List UInt8) : Nat := crc l % 32768

theorem xor_lt {a b : Nat} (ha : a < 65536) (hb : b < 65536) : a ^^^ b < 65536 := Nat.xor_lt_two_pow (n := 16) ha hb
theorem crcBit_lt {c : Nat} (h : c < 65536) : crcBit c < 65536 := by
  unfold crcBit; split
  · exact xor_lt (by omega) (by omega)
  · omega
theorem crcBits_lt {c : Nat} (h : c < 65536) (n : Nat) : crcBits n c < 65536 := by
  induction n with
  | zero => exact h
  | succ n ih => exact crcBit_lt ih
theorem byte_lt (x : UInt8) : x.toNat < 256 := x.toNat_lt
theorem crcByte_lt {c : Nat} (h : c < 65536) (x : UInt8) : crcByte c x < 65536 :=
  crcBits_lt (xor_lt h (by have := byte_lt x; omega)) 8
theorem foldl_lt (l : List UInt8) : ∀ c, c < 65536 → l.foldl crcByte c < 65536 := by
  induction l with
  | nil => intro c h; exact h
  | cons x l ih => intro c h; rw [List.foldl_cons]; exact ih (crcByte c x) (crcByte_lt h x)
theorem crc_lt (l : List UInt8) : crc l < 65536 := by unfold crc; exact foldl_lt l 65535 (by omega)
theorem check_lt (l : List UInt8) : check l < 32768 := Nat.mod_lt _ (by omega)
theorem crc_snoc (l : List UInt8) (x : UInt8) : crc (l ++ [x]) = crcByte (crc l) x := by simp [crc]
theorem and_mask (c : Nat) : c &&& 65535 = c % 65536 := Nat.and_two_pow_sub_one_eq_mod c 16

/-- The five bytes of a value, big-endian, and the record. -/
def keyOk (key : Int) : Bool := (decide (0 ≤ key) && decide (key ≤ 15)) || key == 240 || key == 241
def recOk (key value : Int) : Bool := keyOk key && decide (0 ≤ value) && decide (value ≤ 1099511627775)
def u8 (n : Int) : UInt8 := UInt8.ofNat (n % 256).toNat
def body (key value : Int) : List UInt8 := [u8 key, u8 (value / 4294967296), u8 (value / 16777216), u8 (value / 65536), u8 (value / 256), u8 value]
def full (key value : Int) : List UInt8 := body key value ++ [u8 (check (body key value) / 256 : Nat), u8 (check (body key value) : Nat)]
def record (key value : Int) : List UInt8 := if recOk key value then full key value else []
end Fl
end Go.Proofs.Ytnfjfifdkmgbdaa
