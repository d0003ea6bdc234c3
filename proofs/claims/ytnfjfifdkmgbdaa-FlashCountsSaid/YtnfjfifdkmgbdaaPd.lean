/- Plain functions of flash memories: the steps of a Put. No program in sight. -/
import Derived.Test.YtnfjfifdkmgbdaaPc
namespace Go.Proofs.Ytnfjfifdkmgbdaa
namespace Fl

structure Step where
  page : Int
  at_ : Int
  erase : Bool
  b : UInt8
def writesFrom (page base : Int) : List UInt8 → Nat → List Step
  | [], _ => []
  | x :: l, i => ⟨page, base + i, false, x⟩ :: writesFrom page base l (i + 1)
def writes (page : Int) (n : Nat) (r : List UInt8) : List Step := writesFrom page (n * 8 : Nat) r 0
theorem writesFrom_append (page base : Int) (l r : List UInt8) : ∀ i, writesFrom page base (l ++ r) i = writesFrom page base l i ++ writesFrom page base r (i + l.length) := by
  induction l with
  | nil => intro i; simp [writesFrom]
  | cons x l ih => intro i; simp only [List.cons_append, writesFrom, ih, List.length_cons]; rw [show i + 1 + l.length = i + (l.length + 1) by omega]
theorem writes_snoc (page : Int) (n : Nat) (l : List UInt8) (x : UInt8) : writes page n (l ++ [x]) = writes page n l ++ [⟨page, (n * 8 : Nat) + (l.length : Int), false, x⟩] := by
  unfold writes; rw [writesFrom_append]; simp [writesFrom]

/-- What is copied for key k. -/
def copyAt (p : List UInt8) (N : Nat) (key v : Int) (k : Nat) : Int × Bool := if (k : Int) == key then (v, true) else valueBelow p k N
/-- The records of the keys from k on, from slot n on: the steps, and the slot behind them. -/
def copies (p : List UInt8) (N : Nat) (key v next : Int) : Nat → Nat → Nat → List Step × Nat
  | 0, _, n => ([], n)
  | f + 1, k, n => if (copyAt p N key v k).2 then (writes next n (record k (copyAt p N key v k).1) ++ (copies p N key v next f (k + 1) (n + 1)).1, (copies p N key v next f (k + 1) (n + 1)).2) else copies p N key v next f (k + 1) n
def slotOf (p : List UInt8) : Nat := (p.length + 7) / 8
def cur (m : Mem) : List UInt8 := page m (newest m).1.toNat
def nextOf (m : Mem) : Int := ((newest m).1 + 1) % m.pages.length
def moved (m : Mem) (key v : Int) : List Step × Nat := copies (cur m) (N m) key v (nextOf m) 16 0 1
def eraseSteps (m : Mem) : List Step := if (page m (nextOf m).toNat).length = 0 then [] else [⟨nextOf m, 0, true, 0⟩]
def stepsMove (m : Mem) (key v : Int) : List Step :=
  eraseSteps m ++ writes (nextOf m) 0 (record 240 ((newest m).2 + 1)) ++ (moved m key v).1 ++ writes (nextOf m) (moved m key v).2 (record 241 ((newest m).2 + 1))
def stays (m : Mem) : Bool := decide (((slotOf (cur m) * 8 : Nat) : Int) < m.size)
def stepsP (m : Mem) (key v : Int) : List Step := if stays m then writes (newest m).1 (slotOf (cur m)) (record key v) else stepsMove m key v

theorem copies_slot (p : List UInt8) (N : Nat) (key v next : Int) : ∀ f k n, n ≤ (copies p N key v next f k n).2 ∧ (copies p N key v next f k n).2 ≤ n + f
  | 0, k, n => by simp [copies]
  | f + 1, k, n => by
    unfold copies
    split
    · have := copies_slot p N key v next f (k + 1) (n + 1); simp only; omega
    · have := copies_slot p N key v next f (k + 1) n; omega
end Fl
end Go.Proofs.Ytnfjfifdkmgbdaa
