/- Plain functions of flash memories: closed pages, the newest page, values of keys. No program in sight. -/
import Derived.Test.YtnfjfifdkmgbdaaPb
namespace Go.Proofs.Ytnfjfifdkmgbdaa
namespace Fl

def closedFrom (p : List UInt8) (g : Nat) : Nat → Nat → Int × Bool
  | 0, _ => (0, false)
  | f + 1, j => if !goodAt p j || keyAt p j == 240 then (0, false) else if keyAt p j == 241 then ((g : Int), valAt p j == g) else closedFrom p g f (j + 1)
def closedP (p : List UInt8) (N : Nat) : Int × Bool := if !goodAt p 0 || keyAt p 0 != 240 then (0, false) else closedFrom p (valAt p 0) (N - 1) 1

def newestStep (p : List UInt8) (N i : Nat) (s : Int × Int) : Int × Int := if (closedP p N).2 && decide (s.2 < (closedP p N).1) then ((i : Int), (closedP p N).1) else s
def newestL (N : Nat) : List (List UInt8) → Nat → Int × Int → Int × Int
  | [], _, s => s
  | p :: ps, i, s => newestL N ps (i + 1) (newestStep p N i s)
def newestP (ps : List (List UInt8)) (N : Nat) : Int × Int := newestL N ps 0 (-1, -1)

/-- The value of a key: the last good slot below n. -/
def valueBelow (p : List UInt8) (key : Int) : Nat → Int × Bool
  | 0 => (0, false)
  | n + 1 => if goodAt p n && ((keyAt p n : Nat) : Int) == key then ((valAt p n : Nat), true) else valueBelow p key n

theorem closedFrom_bd (p : List UInt8) (g : Nat) (hg : g < 1099511627776) : ∀ f j, 0 ≤ (closedFrom p g f j).1 ∧ (closedFrom p g f j).1 < 1099511627776
  | 0, _ => by simp [closedFrom]
  | f + 1, j => by
    unfold closedFrom
    split
    · simp
    · split
      · simp; omega
      · exact closedFrom_bd p g hg f (j + 1)
theorem closedP_bd (p : List UInt8) (N : Nat) : 0 ≤ (closedP p N).1 ∧ (closedP p N).1 < 1099511627776 := by
  unfold closedP
  split
  · simp
  · exact closedFrom_bd p _ (valAt_lt p 0) _ _
theorem newestStep_bd (p : List UInt8) (N i : Nat) (s : Int × Int) (h : -1 ≤ s.1 ∧ s.1 < (i : Int) ∧ -1 ≤ s.2 ∧ s.2 < 1099511627776) :
    -1 ≤ (newestStep p N i s).1 ∧ (newestStep p N i s).1 < ((i + 1 : Nat) : Int) ∧ -1 ≤ (newestStep p N i s).2 ∧ (newestStep p N i s).2 < 1099511627776 := by
  have := closedP_bd p N
  unfold newestStep
  split
  · simp; omega
  · omega
theorem newestL_bd (N : Nat) : ∀ (ps : List (List UInt8)) (i : Nat) (s : Int × Int), (-1 ≤ s.1 ∧ s.1 < (i : Int) ∧ -1 ≤ s.2 ∧ s.2 < 1099511627776) →
    -1 ≤ (newestL N ps i s).1 ∧ (newestL N ps i s).1 < ((i + ps.length : Nat) : Int) ∧ -1 ≤ (newestL N ps i s).2 ∧ (newestL N ps i s).2 < 1099511627776
  | [], i, s, h => by simpa [newestL] using h
  | p :: ps, i, s, h => by
    have := newestL_bd N ps (i + 1) _ (newestStep_bd p N i s h)
    rw [newestL]
    simp only [List.length_cons]
    omega
theorem newestP_bd (ps : List (List UInt8)) (N : Nat) : -1 ≤ (newestP ps N).1 ∧ (newestP ps N).1 < (ps.length : Int) ∧ -1 ≤ (newestP ps N).2 ∧ (newestP ps N).2 < 1099511627776 := by
  cases ps with
  | nil => simp [newestP, newestL]
  | cons p ps =>
    have h0 := closedP_bd p N
    have h1 : -1 ≤ (newestStep p N 0 (-1, -1)).1 ∧ (newestStep p N 0 (-1, -1)).1 < ((0 + 1 : Nat) : Int) ∧ -1 ≤ (newestStep p N 0 (-1, -1)).2 ∧ (newestStep p N 0 (-1, -1)).2 < 1099511627776 := newestStep_bd p N 0 (-1, -1) (by simp)
    have := newestL_bd N ps 1 _ h1
    simp only [newestP, newestL, List.length_cons, Nat.zero_add]
    omega
/-- A flash memory. -/
structure Mem where
  size : Int
  pages : List (List UInt8)
  erased : List Int
def sizedP (size pages : Int) : Bool := size % 8 == 0 && decide (160 ≤ size) && decide (size ≤ 256) && decide (2 ≤ pages) && decide (pages ≤ 8)
def N (m : Mem) : Nat := (m.size / 8).toNat
def rowOk (size : Int) (p : List UInt8) (e : Int) : Bool := decide ((p.length : Int) ≤ size) && decide (0 ≤ e) && decide (e ≤ 1000)
def rowsOk (size : Int) : List (List UInt8) → List Int → Bool
  | [], _ => true
  | p :: ps, e => rowOk size p (e.getD 0 0) && rowsOk size ps (e.drop 1)
def newest (m : Mem) : Int × Int := newestP m.pages (N m)
def validP (m : Mem) : Bool := sizedP m.size m.pages.length && (m.erased.length == m.pages.length) && rowsOk m.size m.pages m.erased && decide (0 ≤ (newest m).1) && decide ((newest m).2 < 549755813888)
def currentP (m : Mem) : Int := if validP m then (newest m).1 else -1
def page (m : Mem) (i : Nat) : List UInt8 := m.pages.getD i []
def getP (m : Mem) (key : Int) : Int × Bool := if validP m && decide (0 ≤ key) && decide (key ≤ 15) then valueBelow (page m (newest m).1.toNat) key (N m) else (0, false)
theorem validP_sized {m : Mem} (h : validP m = true) : sizedP m.size m.pages.length = true := by
  simp [validP] at h; exact h.1.1.1.1
theorem sized_bd {s p : Int} (h : sizedP s p = true) : 160 ≤ s ∧ s ≤ 256 ∧ s % 8 = 0 ∧ 2 ≤ p ∧ p ≤ 8 := by
  simp [sizedP] at h; omega
end Fl
end Go.Proofs.Ytnfjfifdkmgbdaa
