/-
  DERIVED. GIVEN WITH THE SEED: THE CARDS: each row of YtelefkkkccilaaaDoorRows.lean that lists a variable, with what it lists TIED to the program's text (the seventh form; the later family's looks); each row that meets fmt, with fmt's text TOLD by the authors' own Lean function (tested against real Go, not proved from fmt's source: count such statements apart). THE CARD IS WHAT COUNTS. Prove the row's statement (the work); the ties are given (YtelefkkkccilaaaDoorTie.lean); close each card by the builder's one call (the guide's Derived/Test/ToyasCard.lean, 'card_holds'). Laid BY PROGRAM, IN A SANDBOX (cutbox-door.mjs). By AI agents, Wed Nov 11 2026. No macro, syntax, notation, axiom, sorry.
-/
import Derived.Test.YtelefkkkccilaaaDoorRows
import GoSem.ClaimSeven
namespace Go.Proofs.YtelefkkkccilaaaDoor
namespace Rows

/-- THE TIED CARD OF 'coreseclaw02.WellformLimits'. -/
def wellformLimitsCard : Claim7 := { stood := { row := wellformLimitsRow, standIns := [], harness := (true, "1a5016b7ed53f62a8d9576d4937de542092c261ae428010e98de3a6f54138ace"), looks := false }, kinds := [], alts := [], laidByText := true, laidKinds := [.data, .pinned], laidTests := true, laidLooks := .later }
def WellformLimitsCardSaid : Prop := Claim7.holds Tryd.pinned (.plain (OpenSpec.ofChange wellformLimitsSpec)) wellformLimitsCard

/-- THE TIED CARD OF 'coreseclaw02.WellformMeans'. -/
def wellformMeansCard : Claim7 := { stood := { row := wellformMeansRow, standIns := [], harness := (true, "1a5016b7ed53f62a8d9576d4937de542092c261ae428010e98de3a6f54138ace"), looks := false }, kinds := [], alts := [], laidByText := true, laidKinds := [.data, .pinned], laidTests := true, laidLooks := .later }
def WellformMeansCardSaid : Prop := Claim7.holds Tryd.pinned (.plain (OpenSpec.ofChange wellformMeansSpec)) wellformMeansCard

/-- THE TIED CARD OF 'coreseclaw01.CborLimits'. -/
def cborLimitsCard : Claim7 := { stood := { row := cborLimitsRow, standIns := [], harness := (true, "1a5016b7ed53f62a8d9576d4937de542092c261ae428010e98de3a6f54138ace"), looks := false }, kinds := [], alts := [], laidByText := true, laidKinds := [.data, .pinned], laidTests := true, laidLooks := .later }
def CborLimitsCardSaid : Prop := Claim7.holds Tryd.pinned (.plain (OpenSpec.ofChange cborLimitsSpec)) cborLimitsCard

/-- THE SECOND FORM's CARD OF 'coreseclaw02.WellformLimits'. -/
def wellformLimitsUptoCard : Claim7 := { stood := { row := wellformLimitsUptoRow, standIns := [], harness := (true, "1a5016b7ed53f62a8d9576d4937de542092c261ae428010e98de3a6f54138ace"), looks := false }, kinds := [], alts := [], laidByText := true, laidKinds := [.data, .pinned], laidTests := true, laidLooks := .later }
def WellformLimitsUptoCardSaid : Prop := Claim7.holds Tryd.pinned (.plain (OpenSpec.upto wellformLimitsSpec)) wellformLimitsUptoCard

/-- THE SECOND FORM's CARD OF 'coreseclaw02.WellformMeans'. -/
def wellformMeansUptoCard : Claim7 := { stood := { row := wellformMeansUptoRow, standIns := [], harness := (true, "1a5016b7ed53f62a8d9576d4937de542092c261ae428010e98de3a6f54138ace"), looks := false }, kinds := [], alts := [], laidByText := true, laidKinds := [.data, .pinned], laidTests := true, laidLooks := .later }
def WellformMeansUptoCardSaid : Prop := Claim7.holds Tryd.pinned (.plain (OpenSpec.upto wellformMeansSpec)) wellformMeansUptoCard

/-- THE SECOND FORM's CARD OF 'coreseclaw01.CborLimits'. -/
def cborLimitsUptoCard : Claim7 := { stood := { row := cborLimitsUptoRow, standIns := [], harness := (true, "1a5016b7ed53f62a8d9576d4937de542092c261ae428010e98de3a6f54138ace"), looks := false }, kinds := [], alts := [], laidByText := true, laidKinds := [.data, .pinned], laidTests := true, laidLooks := .later }
def CborLimitsUptoCardSaid : Prop := Claim7.holds Tryd.pinned (.plain (OpenSpec.upto cborLimitsSpec)) cborLimitsUptoCard
end Rows
end Go.Proofs.YtelefkkkccilaaaDoor
