/-
  DERIVED. GIVEN WITH THE SEED: THE CARDS: each row of YtelefkkkccilaaaGreatDoorRows.lean that lists a variable, with what it lists TIED to the program's text (the seventh form; the later family's looks); each row that meets fmt, with fmt's text TOLD by the authors' own Lean function (tested against real Go, not proved from fmt's source: count such statements apart). THE CARD IS WHAT COUNTS. Prove the row's statement (the work); the ties are given (YtelefkkkccilaaaGreatDoorTie.lean); close each card by the builder's one call (the guide's Derived/Test/ToyasCard.lean, 'card_holds'). Laid BY PROGRAM, IN A SANDBOX (cutbox-door.mjs). By AI agents, Wed Nov 11 2026. No macro, syntax, notation, axiom, sorry.
-/
import Derived.Test.YtelefkkkccilaaaGreatDoorRows
import GoSem.ClaimSeven
namespace Go.Proofs.YtelefkkkccilaaaGreatDoor
namespace Rows

/-- THE TIED CARD OF 'coreseclaw12.HeaderValid'. -/
def headerValidCard : Claim7 := { stood := { row := headerValidRow, standIns := [], harness := (true, "5ad4c9347680e9fa1dd28ad70e011319988117c68d7b7451b133420e0feaf240"), looks := false }, kinds := [], alts := [], laidByText := true, laidKinds := [.data, .pinned], laidTests := true, laidLooks := .later }
def HeaderValidCardSaid : Prop := Claim7.holds Tryz.pinned (.plain (OpenSpec.ofChange headerValidSpec)) headerValidCard

/-- THE TIED CARD OF 'coreseclaw12.HeaderPuts'. -/
def headerPutsCard : Claim7 := { stood := { row := headerPutsRow, standIns := [], harness := (true, "5ad4c9347680e9fa1dd28ad70e011319988117c68d7b7451b133420e0feaf240"), looks := false }, kinds := [], alts := [], laidByText := true, laidKinds := [.data, .pinned], laidTests := true, laidLooks := .later }
def HeaderPutsCardSaid : Prop := Claim7.holds Tryz.pinned (.plain (OpenSpec.ofChange headerPutsSpec)) headerPutsCard

/-- THE TIED CARD OF 'coreseclaw12.HeaderBack'. -/
def headerBackCard : Claim7 := { stood := { row := headerBackRow, standIns := [], harness := (true, "5ad4c9347680e9fa1dd28ad70e011319988117c68d7b7451b133420e0feaf240"), looks := false }, kinds := [], alts := [], laidByText := true, laidKinds := [.data, .pinned], laidTests := true, laidLooks := .later }
def HeaderBackCardSaid : Prop := Claim7.holds Tryz.pinned (.plain (OpenSpec.ofChange headerBackSpec)) headerBackCard

/-- THE TIED CARD OF 'coreseclaw12.HeaderCritical'. -/
def headerCriticalCard : Claim7 := { stood := { row := headerCriticalRow, standIns := [], harness := (true, "5ad4c9347680e9fa1dd28ad70e011319988117c68d7b7451b133420e0feaf240"), looks := false }, kinds := [], alts := [], laidByText := true, laidKinds := [.data, .pinned], laidTests := true, laidLooks := .later }
def HeaderCriticalCardSaid : Prop := Claim7.holds Tryz.pinned (.plain (OpenSpec.ofChange headerCriticalSpec)) headerCriticalCard

/-- THE TIED CARD OF 'coreseclaw02.WellformScans'. -/
def wellformScansCard : Claim7 := { stood := { row := wellformScansRow, standIns := [], harness := (true, "5ad4c9347680e9fa1dd28ad70e011319988117c68d7b7451b133420e0feaf240"), looks := false }, kinds := [], alts := [], laidByText := true, laidKinds := [.data, .pinned], laidTests := true, laidLooks := .later }
def WellformScansCardSaid : Prop := Claim7.holds Tryz.pinned (.plain (OpenSpec.ofChange wellformScansSpec)) wellformScansCard

/-- THE TIED CARD OF 'coreseclaw02.WellformCanon'. -/
def wellformCanonCard : Claim7 := { stood := { row := wellformCanonRow, standIns := [], harness := (true, "5ad4c9347680e9fa1dd28ad70e011319988117c68d7b7451b133420e0feaf240"), looks := false }, kinds := [], alts := [], laidByText := true, laidKinds := [.data, .pinned], laidTests := true, laidLooks := .later }
def WellformCanonCardSaid : Prop := Claim7.holds Tryz.pinned (.plain (OpenSpec.ofChange wellformCanonSpec)) wellformCanonCard

/-- THE TIED CARD OF 'coreseclaw01.CborEncodes'. -/
def cborEncodesCard : Claim7 := { stood := { row := cborEncodesRow, standIns := [], harness := (true, "5ad4c9347680e9fa1dd28ad70e011319988117c68d7b7451b133420e0feaf240"), looks := false }, kinds := [], alts := [], laidByText := true, laidKinds := [.data, .pinned], laidTests := true, laidLooks := .later }
def CborEncodesCardSaid : Prop := Claim7.holds Tryz.pinned (.plain (OpenSpec.ofChange cborEncodesSpec)) cborEncodesCard

/-- THE TIED CARD OF 'coreseclaw01.CborDecodes'. -/
def cborDecodesCard : Claim7 := { stood := { row := cborDecodesRow, standIns := [], harness := (true, "5ad4c9347680e9fa1dd28ad70e011319988117c68d7b7451b133420e0feaf240"), looks := false }, kinds := [], alts := [], laidByText := true, laidKinds := [.data, .pinned], laidTests := true, laidLooks := .later }
def CborDecodesCardSaid : Prop := Claim7.holds Tryz.pinned (.plain (OpenSpec.ofChange cborDecodesSpec)) cborDecodesCard

/-- THE TIED CARD OF 'coreseclaw01.CborOne'. -/
def cborOneCard : Claim7 := { stood := { row := cborOneRow, standIns := [], harness := (true, "5ad4c9347680e9fa1dd28ad70e011319988117c68d7b7451b133420e0feaf240"), looks := false }, kinds := [], alts := [], laidByText := true, laidKinds := [.data, .pinned], laidTests := true, laidLooks := .later }
def CborOneCardSaid : Prop := Claim7.holds Tryz.pinned (.plain (OpenSpec.ofChange cborOneSpec)) cborOneCard

/-- THE TIED CARD OF 'coreseclaw01.CborMaps'. -/
def cborMapsCard : Claim7 := { stood := { row := cborMapsRow, standIns := [], harness := (true, "5ad4c9347680e9fa1dd28ad70e011319988117c68d7b7451b133420e0feaf240"), looks := false }, kinds := [], alts := [], laidByText := true, laidKinds := [.data, .pinned], laidTests := true, laidLooks := .later }
def CborMapsCardSaid : Prop := Claim7.holds Tryz.pinned (.plain (OpenSpec.ofChange cborMapsSpec)) cborMapsCard

/-- THE TIED CARD OF 'coreseclaw01.CborMakes'. -/
def cborMakesCard : Claim7 := { stood := { row := cborMakesRow, standIns := [], harness := (true, "5ad4c9347680e9fa1dd28ad70e011319988117c68d7b7451b133420e0feaf240"), looks := false }, kinds := [], alts := [], laidByText := true, laidKinds := [.data, .pinned], laidTests := true, laidLooks := .later }
def CborMakesCardSaid : Prop := Claim7.holds Tryz.pinned (.plain (OpenSpec.ofChange cborMakesSpec)) cborMakesCard

/-- THE TIED CARD OF 'coreseclaw01.CborOrder'. -/
def cborOrderCard : Claim7 := { stood := { row := cborOrderRow, standIns := [], harness := (true, "5ad4c9347680e9fa1dd28ad70e011319988117c68d7b7451b133420e0feaf240"), looks := false }, kinds := [], alts := [], laidByText := true, laidKinds := [.data, .pinned], laidTests := true, laidLooks := .later }
def CborOrderCardSaid : Prop := Claim7.holds Tryz.pinned (.plain (OpenSpec.ofChange cborOrderSpec)) cborOrderCard

/-- THE TIED CARD OF 'coreseclaw02.WellformForms'. -/
def wellformFormsCard : Claim7 := { stood := { row := wellformFormsRow, standIns := [], harness := (true, "5ad4c9347680e9fa1dd28ad70e011319988117c68d7b7451b133420e0feaf240"), looks := false }, kinds := [], alts := [], laidByText := true, laidKinds := [.data, .pinned], laidTests := true, laidLooks := .later }
def WellformFormsCardSaid : Prop := Claim7.holds Tryz.pinned (.plain (OpenSpec.ofChange wellformFormsSpec)) wellformFormsCard

/-- THE TIED CARD OF 'coreseclaw02.WellformFixed'. -/
def wellformFixedCard : Claim7 := { stood := { row := wellformFixedRow, standIns := [], harness := (true, "5ad4c9347680e9fa1dd28ad70e011319988117c68d7b7451b133420e0feaf240"), looks := false }, kinds := [], alts := [], laidByText := true, laidKinds := [.data, .pinned], laidTests := true, laidLooks := .later }
def WellformFixedCardSaid : Prop := Claim7.holds Tryz.pinned (.plain (OpenSpec.ofChange wellformFixedSpec)) wellformFixedCard

/-- THE SECOND FORM's CARD OF 'coreseclaw12.HeaderValid'. -/
def headerValidUptoCard : Claim7 := { stood := { row := headerValidUptoRow, standIns := [], harness := (true, "5ad4c9347680e9fa1dd28ad70e011319988117c68d7b7451b133420e0feaf240"), looks := false }, kinds := [], alts := [], laidByText := true, laidKinds := [.data, .pinned], laidTests := true, laidLooks := .later }
def HeaderValidUptoCardSaid : Prop := Claim7.holds Tryz.pinned (.plain (OpenSpec.upto headerValidSpec)) headerValidUptoCard

/-- THE SECOND FORM's CARD OF 'coreseclaw12.HeaderPuts'. -/
def headerPutsUptoCard : Claim7 := { stood := { row := headerPutsUptoRow, standIns := [], harness := (true, "5ad4c9347680e9fa1dd28ad70e011319988117c68d7b7451b133420e0feaf240"), looks := false }, kinds := [], alts := [], laidByText := true, laidKinds := [.data, .pinned], laidTests := true, laidLooks := .later }
def HeaderPutsUptoCardSaid : Prop := Claim7.holds Tryz.pinned (.plain (OpenSpec.upto headerPutsSpec)) headerPutsUptoCard

/-- THE SECOND FORM's CARD OF 'coreseclaw12.HeaderBack'. -/
def headerBackUptoCard : Claim7 := { stood := { row := headerBackUptoRow, standIns := [], harness := (true, "5ad4c9347680e9fa1dd28ad70e011319988117c68d7b7451b133420e0feaf240"), looks := false }, kinds := [], alts := [], laidByText := true, laidKinds := [.data, .pinned], laidTests := true, laidLooks := .later }
def HeaderBackUptoCardSaid : Prop := Claim7.holds Tryz.pinned (.plain (OpenSpec.upto headerBackSpec)) headerBackUptoCard

/-- THE SECOND FORM's CARD OF 'coreseclaw12.HeaderCritical'. -/
def headerCriticalUptoCard : Claim7 := { stood := { row := headerCriticalUptoRow, standIns := [], harness := (true, "5ad4c9347680e9fa1dd28ad70e011319988117c68d7b7451b133420e0feaf240"), looks := false }, kinds := [], alts := [], laidByText := true, laidKinds := [.data, .pinned], laidTests := true, laidLooks := .later }
def HeaderCriticalUptoCardSaid : Prop := Claim7.holds Tryz.pinned (.plain (OpenSpec.upto headerCriticalSpec)) headerCriticalUptoCard

/-- THE SECOND FORM's CARD OF 'coreseclaw02.WellformScans'. -/
def wellformScansUptoCard : Claim7 := { stood := { row := wellformScansUptoRow, standIns := [], harness := (true, "5ad4c9347680e9fa1dd28ad70e011319988117c68d7b7451b133420e0feaf240"), looks := false }, kinds := [], alts := [], laidByText := true, laidKinds := [.data, .pinned], laidTests := true, laidLooks := .later }
def WellformScansUptoCardSaid : Prop := Claim7.holds Tryz.pinned (.plain (OpenSpec.upto wellformScansSpec)) wellformScansUptoCard

/-- THE SECOND FORM's CARD OF 'coreseclaw02.WellformCanon'. -/
def wellformCanonUptoCard : Claim7 := { stood := { row := wellformCanonUptoRow, standIns := [], harness := (true, "5ad4c9347680e9fa1dd28ad70e011319988117c68d7b7451b133420e0feaf240"), looks := false }, kinds := [], alts := [], laidByText := true, laidKinds := [.data, .pinned], laidTests := true, laidLooks := .later }
def WellformCanonUptoCardSaid : Prop := Claim7.holds Tryz.pinned (.plain (OpenSpec.upto wellformCanonSpec)) wellformCanonUptoCard

/-- THE SECOND FORM's CARD OF 'coreseclaw01.CborEncodes'. -/
def cborEncodesUptoCard : Claim7 := { stood := { row := cborEncodesUptoRow, standIns := [], harness := (true, "5ad4c9347680e9fa1dd28ad70e011319988117c68d7b7451b133420e0feaf240"), looks := false }, kinds := [], alts := [], laidByText := true, laidKinds := [.data, .pinned], laidTests := true, laidLooks := .later }
def CborEncodesUptoCardSaid : Prop := Claim7.holds Tryz.pinned (.plain (OpenSpec.upto cborEncodesSpec)) cborEncodesUptoCard

/-- THE SECOND FORM's CARD OF 'coreseclaw01.CborDecodes'. -/
def cborDecodesUptoCard : Claim7 := { stood := { row := cborDecodesUptoRow, standIns := [], harness := (true, "5ad4c9347680e9fa1dd28ad70e011319988117c68d7b7451b133420e0feaf240"), looks := false }, kinds := [], alts := [], laidByText := true, laidKinds := [.data, .pinned], laidTests := true, laidLooks := .later }
def CborDecodesUptoCardSaid : Prop := Claim7.holds Tryz.pinned (.plain (OpenSpec.upto cborDecodesSpec)) cborDecodesUptoCard

/-- THE SECOND FORM's CARD OF 'coreseclaw01.CborOne'. -/
def cborOneUptoCard : Claim7 := { stood := { row := cborOneUptoRow, standIns := [], harness := (true, "5ad4c9347680e9fa1dd28ad70e011319988117c68d7b7451b133420e0feaf240"), looks := false }, kinds := [], alts := [], laidByText := true, laidKinds := [.data, .pinned], laidTests := true, laidLooks := .later }
def CborOneUptoCardSaid : Prop := Claim7.holds Tryz.pinned (.plain (OpenSpec.upto cborOneSpec)) cborOneUptoCard

/-- THE SECOND FORM's CARD OF 'coreseclaw01.CborMaps'. -/
def cborMapsUptoCard : Claim7 := { stood := { row := cborMapsUptoRow, standIns := [], harness := (true, "5ad4c9347680e9fa1dd28ad70e011319988117c68d7b7451b133420e0feaf240"), looks := false }, kinds := [], alts := [], laidByText := true, laidKinds := [.data, .pinned], laidTests := true, laidLooks := .later }
def CborMapsUptoCardSaid : Prop := Claim7.holds Tryz.pinned (.plain (OpenSpec.upto cborMapsSpec)) cborMapsUptoCard

/-- THE SECOND FORM's CARD OF 'coreseclaw01.CborMakes'. -/
def cborMakesUptoCard : Claim7 := { stood := { row := cborMakesUptoRow, standIns := [], harness := (true, "5ad4c9347680e9fa1dd28ad70e011319988117c68d7b7451b133420e0feaf240"), looks := false }, kinds := [], alts := [], laidByText := true, laidKinds := [.data, .pinned], laidTests := true, laidLooks := .later }
def CborMakesUptoCardSaid : Prop := Claim7.holds Tryz.pinned (.plain (OpenSpec.upto cborMakesSpec)) cborMakesUptoCard

/-- THE SECOND FORM's CARD OF 'coreseclaw01.CborOrder'. -/
def cborOrderUptoCard : Claim7 := { stood := { row := cborOrderUptoRow, standIns := [], harness := (true, "5ad4c9347680e9fa1dd28ad70e011319988117c68d7b7451b133420e0feaf240"), looks := false }, kinds := [], alts := [], laidByText := true, laidKinds := [.data, .pinned], laidTests := true, laidLooks := .later }
def CborOrderUptoCardSaid : Prop := Claim7.holds Tryz.pinned (.plain (OpenSpec.upto cborOrderSpec)) cborOrderUptoCard

/-- THE SECOND FORM's CARD OF 'coreseclaw02.WellformForms'. -/
def wellformFormsUptoCard : Claim7 := { stood := { row := wellformFormsUptoRow, standIns := [], harness := (true, "5ad4c9347680e9fa1dd28ad70e011319988117c68d7b7451b133420e0feaf240"), looks := false }, kinds := [], alts := [], laidByText := true, laidKinds := [.data, .pinned], laidTests := true, laidLooks := .later }
def WellformFormsUptoCardSaid : Prop := Claim7.holds Tryz.pinned (.plain (OpenSpec.upto wellformFormsSpec)) wellformFormsUptoCard

/-- THE SECOND FORM's CARD OF 'coreseclaw02.WellformFixed'. -/
def wellformFixedUptoCard : Claim7 := { stood := { row := wellformFixedUptoRow, standIns := [], harness := (true, "5ad4c9347680e9fa1dd28ad70e011319988117c68d7b7451b133420e0feaf240"), looks := false }, kinds := [], alts := [], laidByText := true, laidKinds := [.data, .pinned], laidTests := true, laidLooks := .later }
def WellformFixedUptoCardSaid : Prop := Claim7.holds Tryz.pinned (.plain (OpenSpec.upto wellformFixedSpec)) wellformFixedUptoCard
end Rows
end Go.Proofs.YtelefkkkccilaaaGreatDoor
