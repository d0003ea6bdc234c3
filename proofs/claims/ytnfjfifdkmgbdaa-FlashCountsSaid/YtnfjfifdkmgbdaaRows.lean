/-
  No cell of these rows narrows 'for every input' (looked for: loops, veiled, ifaces, maps, wideKeys, modest, calm, conditions, laid).
  DERIVED. THE GIVEN ROWS OF THIS SEAT. 5 by the template 'for every input the law returns true; each argument reads behind the call as it read before'; 0 by the template 'total and deterministic' (their statements: YtnfjfifdkmgbdaaTotals.lean).
  GIVEN WITH THE SEED: the statements are not yours to turn. If you find one false, say at which input.
  Laid BY PROGRAM, IN A SANDBOX (cutbox-rows.mjs): the forced cells as the released guide's own fill.sh prints them over the translation b00cb16c26dc63b4… (all of the seat's roots in one cut). By AI agents, Wed Nov 11 2026. No macro, syntax, notation, axiom, sorry.
-/
import Derived.Test.YtnfjfifdkmgbdaaChecked
import GoSem.Claim
import GoSem.ClaimJoined
import GoSem.ClaimMapViews
import Derived.JoinedTies
import Derived.KernelRfl
namespace Go.Proofs.Ytnfjfifdkmgbdaa
/- THE CELL 'sum', in the pinned program and in every row, IS THE sha256 OF THE DUMP (.gsa) THAT YtnfjfifdkmgbdaaProg.lean LOADS. Nothing in Lean hashes anything: it is a label: what it is worth is what the hold of that sum in a sandbox is worth. -/
noncomputable def Try.pinned : Pinned := { name := "ytnfjfifdkmgbdaa", sum := "b00cb16c26dc63b4c508fe80d21cbe325f96e283a1a06f3c3f2be102b84ff82f", checked := Try.checked }
namespace Rows
def none {H : Type} : Left H := { results := [], args := [] }

/-- 'coreseclaw29.FlashRecords': WHATEVER THE INPUT: true; the input reads as it did. -/
def flashRecordsSpec : ChangeSpec := { name := "flashRecords", fn := fun _ => fun
  | [d1, d2, d3, d4, d5] => { results := [.lit (.bool true)], args := [d1, d2, d3, d4, d5] }
  | _ => none }
def flashRecordsRow : OpenClaim := { program := "ytnfjfifdkmgbdaa", sum := "b00cb16c26dc63b4c508fe80d21cbe325f96e283a1a06f3c3f2be102b84ff82f", func := "coresec/coreseclaw29.FlashRecords", spec := "flashRecords", unfollowed := true, recurses := true, apart := false }
def FlashRecordsSaid : Prop := flashRecordsRow.holds Try.pinned (OpenSpec.ofChange flashRecordsSpec)

/-- ITS FALSE NEIGHBOUR: 'it returns false'. Refute it at one input. -/
def flashRecordsWrong : ChangeSpec := { name := "flashRecords", fn := fun _ => fun
  | [d1, d2, d3, d4, d5] => { results := [.lit (.bool false)], args := [d1, d2, d3, d4, d5] }
  | _ => none }
def FlashRecordsWrongFalsely : Prop := flashRecordsRow.holds Try.pinned (OpenSpec.ofChange flashRecordsWrong)

/-- 'coreseclaw29.FlashTorn': WHATEVER THE INPUT: true; the input reads as it did. -/
def flashTornSpec : ChangeSpec := { name := "flashTorn", fn := fun _ => fun
  | [d1, d2, d3, d4] => { results := [.lit (.bool true)], args := [d1, d2, d3, d4] }
  | _ => none }
def flashTornRow : OpenClaim := { program := "ytnfjfifdkmgbdaa", sum := "b00cb16c26dc63b4c508fe80d21cbe325f96e283a1a06f3c3f2be102b84ff82f", func := "coresec/coreseclaw29.FlashTorn", spec := "flashTorn", unfollowed := true, recurses := true, apart := false }
def FlashTornSaid : Prop := flashTornRow.holds Try.pinned (OpenSpec.ofChange flashTornSpec)

/-- ITS FALSE NEIGHBOUR: 'it returns false'. Refute it at one input. -/
def flashTornWrong : ChangeSpec := { name := "flashTorn", fn := fun _ => fun
  | [d1, d2, d3, d4] => { results := [.lit (.bool false)], args := [d1, d2, d3, d4] }
  | _ => none }
def FlashTornWrongFalsely : Prop := flashTornRow.holds Try.pinned (OpenSpec.ofChange flashTornWrong)

/-- 'coreseclaw29.FlashCounts': WHATEVER THE INPUT: true; the input reads as it did. -/
def flashCountsSpec : ChangeSpec := { name := "flashCounts", fn := fun _ => fun
  | [d1, d2, d3, d4, d5, d6] => { results := [.lit (.bool true)], args := [d1, d2, d3, d4, d5, d6] }
  | _ => none }
def flashCountsRow : OpenClaim := { program := "ytnfjfifdkmgbdaa", sum := "b00cb16c26dc63b4c508fe80d21cbe325f96e283a1a06f3c3f2be102b84ff82f", func := "coresec/coreseclaw29.FlashCounts", spec := "flashCounts", unfollowed := true, recurses := true, apart := false }
def FlashCountsSaid : Prop := flashCountsRow.holds Try.pinned (OpenSpec.ofChange flashCountsSpec)

/-- ITS FALSE NEIGHBOUR: 'it returns false'. Refute it at one input. -/
def flashCountsWrong : ChangeSpec := { name := "flashCounts", fn := fun _ => fun
  | [d1, d2, d3, d4, d5, d6] => { results := [.lit (.bool false)], args := [d1, d2, d3, d4, d5, d6] }
  | _ => none }
def FlashCountsWrongFalsely : Prop := flashCountsRow.holds Try.pinned (OpenSpec.ofChange flashCountsWrong)

/-- 'coreseclaw29.FlashNever': WHATEVER THE INPUT: true; the input reads as it did. -/
def flashNeverSpec : ChangeSpec := { name := "flashNever", fn := fun _ => fun
  | [d1, d2] => { results := [.lit (.bool true)], args := [d1, d2] }
  | _ => none }
def flashNeverRow : OpenClaim := { program := "ytnfjfifdkmgbdaa", sum := "b00cb16c26dc63b4c508fe80d21cbe325f96e283a1a06f3c3f2be102b84ff82f", func := "coresec/coreseclaw29.FlashNever", spec := "flashNever", unfollowed := true, recurses := true, apart := false }
def FlashNeverSaid : Prop := flashNeverRow.holds Try.pinned (OpenSpec.ofChange flashNeverSpec)

/-- ITS FALSE NEIGHBOUR: 'it returns false'. Refute it at one input. -/
def flashNeverWrong : ChangeSpec := { name := "flashNever", fn := fun _ => fun
  | [d1, d2] => { results := [.lit (.bool false)], args := [d1, d2] }
  | _ => none }
def FlashNeverWrongFalsely : Prop := flashNeverRow.holds Try.pinned (OpenSpec.ofChange flashNeverWrong)

/-- 'coreseclaw29.FlashWears': WHATEVER THE INPUT: true; the input reads as it did. -/
def flashWearsSpec : ChangeSpec := { name := "flashWears", fn := fun _ => fun
  | [d1, d2, d3] => { results := [.lit (.bool true)], args := [d1, d2, d3] }
  | _ => none }
def flashWearsRow : OpenClaim := { program := "ytnfjfifdkmgbdaa", sum := "b00cb16c26dc63b4c508fe80d21cbe325f96e283a1a06f3c3f2be102b84ff82f", func := "coresec/coreseclaw29.FlashWears", spec := "flashWears", unfollowed := true, recurses := true, apart := false }
def FlashWearsSaid : Prop := flashWearsRow.holds Try.pinned (OpenSpec.ofChange flashWearsSpec)

/-- ITS FALSE NEIGHBOUR: 'it returns false'. Refute it at one input. -/
def flashWearsWrong : ChangeSpec := { name := "flashWears", fn := fun _ => fun
  | [d1, d2, d3] => { results := [.lit (.bool false)], args := [d1, d2, d3] }
  | _ => none }
def FlashWearsWrongFalsely : Prop := flashWearsRow.holds Try.pinned (OpenSpec.ofChange flashWearsWrong)

/- THE SECOND FORM. 'bulk': how many values and letters a reading holds, each counted each time it is reached (what is shared counts as often as it is met; a slice's spare places count too). A statement '..UptoSaid' is the law's where the arguments, and the package variables that the reading takes, are together of bulk at most 1048576: NARROWER than '..Said'. Prove '..Said' where nothing that the law and all that it calls make is longer than what came in: it says more and counts as full. Else prove '..UptoSaid'. A law counts once. -/
mutual
def uptoBulk {H : Type} : DataW H → Nat
  | .lit (.string bytes) => bytes.length + 1
  | .lit _ => 1
  | .nil => 1
  | .ptr d => uptoBulk d + 1
  | .slice elems spare => uptoBulkAll elems + uptoBulkAll spare + 1
  | .agg parts => uptoBulkAll parts + 1
  | .iface _ d => uptoBulk d + 1
  | .map entries => uptoBulkEntries entries + 1
  | .held _ => 1
def uptoBulkAll {H : Type} : List (DataW H) → Nat
  | [] => 0
  | d :: r => uptoBulk d + uptoBulkAll r
def uptoBulkEntries {H : Type} : List (Lit × DataW H) → Nat
  | [] => 0
  | x :: r => uptoBulkEntry x + uptoBulkEntries r
def uptoBulkEntry {H : Type} : Lit × DataW H → Nat
  | (.string bytes, d) => bytes.length + uptoBulk d + 1
  | (_, d) => uptoBulk d + 1
 end
def uptoSmall : (H : Type) → List (DataW H) → Bool := fun _ ds => decide (uptoBulkAll ds ≤ 1048576)
def OpenSpec.upto (s : _root_.Go.ChangeSpec) : _root_.Go.OpenSpec := { _root_.Go.OpenSpec.ofChange s with cond := some uptoSmall }

/-- 'coreseclaw29.FlashRecords', WHERE WHAT IT READS IS OF BULK AT MOST 1048576: true; the input reads as it did. -/
def flashRecordsUptoRow : OpenClaim := { program := "ytnfjfifdkmgbdaa", sum := "b00cb16c26dc63b4c508fe80d21cbe325f96e283a1a06f3c3f2be102b84ff82f", func := "coresec/coreseclaw29.FlashRecords", spec := "flashRecords", unfollowed := true, recurses := true, apart := false, narrowed := true }
def FlashRecordsUptoSaid : Prop := flashRecordsUptoRow.holds Try.pinned (OpenSpec.upto flashRecordsSpec)

/-- 'coreseclaw29.FlashTorn', WHERE WHAT IT READS IS OF BULK AT MOST 1048576: true; the input reads as it did. -/
def flashTornUptoRow : OpenClaim := { program := "ytnfjfifdkmgbdaa", sum := "b00cb16c26dc63b4c508fe80d21cbe325f96e283a1a06f3c3f2be102b84ff82f", func := "coresec/coreseclaw29.FlashTorn", spec := "flashTorn", unfollowed := true, recurses := true, apart := false, narrowed := true }
def FlashTornUptoSaid : Prop := flashTornUptoRow.holds Try.pinned (OpenSpec.upto flashTornSpec)

/-- 'coreseclaw29.FlashCounts', WHERE WHAT IT READS IS OF BULK AT MOST 1048576: true; the input reads as it did. -/
def flashCountsUptoRow : OpenClaim := { program := "ytnfjfifdkmgbdaa", sum := "b00cb16c26dc63b4c508fe80d21cbe325f96e283a1a06f3c3f2be102b84ff82f", func := "coresec/coreseclaw29.FlashCounts", spec := "flashCounts", unfollowed := true, recurses := true, apart := false, narrowed := true }
def FlashCountsUptoSaid : Prop := flashCountsUptoRow.holds Try.pinned (OpenSpec.upto flashCountsSpec)

/-- 'coreseclaw29.FlashNever', WHERE WHAT IT READS IS OF BULK AT MOST 1048576: true; the input reads as it did. -/
def flashNeverUptoRow : OpenClaim := { program := "ytnfjfifdkmgbdaa", sum := "b00cb16c26dc63b4c508fe80d21cbe325f96e283a1a06f3c3f2be102b84ff82f", func := "coresec/coreseclaw29.FlashNever", spec := "flashNever", unfollowed := true, recurses := true, apart := false, narrowed := true }
def FlashNeverUptoSaid : Prop := flashNeverUptoRow.holds Try.pinned (OpenSpec.upto flashNeverSpec)

/-- 'coreseclaw29.FlashWears', WHERE WHAT IT READS IS OF BULK AT MOST 1048576: true; the input reads as it did. -/
def flashWearsUptoRow : OpenClaim := { program := "ytnfjfifdkmgbdaa", sum := "b00cb16c26dc63b4c508fe80d21cbe325f96e283a1a06f3c3f2be102b84ff82f", func := "coresec/coreseclaw29.FlashWears", spec := "flashWears", unfollowed := true, recurses := true, apart := false, narrowed := true }
def FlashWearsUptoSaid : Prop := flashWearsUptoRow.holds Try.pinned (OpenSpec.upto flashWearsSpec)

end Rows
end Go.Proofs.Ytnfjfifdkmgbdaa
