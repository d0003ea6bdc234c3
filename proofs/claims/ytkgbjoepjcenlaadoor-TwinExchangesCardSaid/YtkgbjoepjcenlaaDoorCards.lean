/-
  DERIVED. GIVEN WITH THE SEED: THE CARDS: each row of YtkgbjoepjcenlaaDoorRows.lean that lists a variable, with what it lists TIED to the program's text (the seventh form; the later family's looks); each row that meets fmt, with fmt's text TOLD by the authors' own Lean function (tested against real Go, not proved from fmt's source: count such statements apart). THE CARD IS WHAT COUNTS. Prove the row's statement (the work); the ties are given (YtkgbjoepjcenlaaDoorTie.lean); close each card by the builder's one call (the guide's Derived/Test/ToyasCard.lean, 'card_holds'). Laid BY PROGRAM, IN A SANDBOX (cutbox-door.mjs). By AI agents, Wed Nov 11 2026. No macro, syntax, notation, axiom, sorry.
-/
import Derived.Test.YtkgbjoepjcenlaaDoorRows
import GoSem.ClaimSeven
namespace Go.Proofs.YtkgbjoepjcenlaaDoor
namespace Rows

/-- THE TIED CARD OF 'coreseclaw45.TwinGrows'. -/
def twinGrowsCard : Claim7 := { stood := { row := twinGrowsRow, standIns := [], harness := (true, "a3cb250701b4efb8d31300c0bf1b452b0bd8d36b738dd66acf6625e13a8710fb"), looks := false }, kinds := [], alts := [], laidByText := true, laidKinds := [.data, .data, .data], laidTests := true, laidLooks := .later }
def TwinGrowsCardSaid : Prop := Claim7.holds Tryd.pinned (.plain (OpenSpec.ofChange twinGrowsSpec)) twinGrowsCard

/-- THE TIED CARD OF 'coreseclaw45.TwinForms'. -/
def twinFormsCard : Claim7 := { stood := { row := twinFormsRow, standIns := [], harness := (true, "a3cb250701b4efb8d31300c0bf1b452b0bd8d36b738dd66acf6625e13a8710fb"), looks := false }, kinds := [], alts := [], laidByText := true, laidKinds := [.data, .data, .data], laidTests := true, laidLooks := .later }
def TwinFormsCardSaid : Prop := Claim7.holds Tryd.pinned (.plain (OpenSpec.ofChange twinFormsSpec)) twinFormsCard

/-- THE TIED CARD OF 'coreseclaw45.TwinSecrets'. -/
def twinSecretsCard : Claim7 := { stood := { row := twinSecretsRow, standIns := [], harness := (true, "a3cb250701b4efb8d31300c0bf1b452b0bd8d36b738dd66acf6625e13a8710fb"), looks := false }, kinds := [], alts := [], laidByText := true, laidKinds := [.data, .data, .data], laidTests := true, laidLooks := .later }
def TwinSecretsCardSaid : Prop := Claim7.holds Tryd.pinned (.plain (OpenSpec.ofChange twinSecretsSpec)) twinSecretsCard

/-- THE TIED CARD OF 'coreseclaw45.TwinExchanges'. -/
def twinExchangesCard : Claim7 := { stood := { row := twinExchangesRow, standIns := [], harness := (true, "a3cb250701b4efb8d31300c0bf1b452b0bd8d36b738dd66acf6625e13a8710fb"), looks := false }, kinds := [], alts := [], laidByText := true, laidKinds := [.data, .data, .data], laidTests := true, laidLooks := .later }
def TwinExchangesCardSaid : Prop := Claim7.holds Tryd.pinned (.plain (OpenSpec.ofChange twinExchangesSpec)) twinExchangesCard

/-- THE SECOND FORM's CARD OF 'coreseclaw45.TwinGrows'. -/
def twinGrowsUptoCard : Claim7 := { stood := { row := twinGrowsUptoRow, standIns := [], harness := (true, "a3cb250701b4efb8d31300c0bf1b452b0bd8d36b738dd66acf6625e13a8710fb"), looks := false }, kinds := [], alts := [], laidByText := true, laidKinds := [.data, .data, .data], laidTests := true, laidLooks := .later }
def TwinGrowsUptoCardSaid : Prop := Claim7.holds Tryd.pinned (.plain (OpenSpec.upto twinGrowsSpec)) twinGrowsUptoCard

/-- THE SECOND FORM's CARD OF 'coreseclaw45.TwinForms'. -/
def twinFormsUptoCard : Claim7 := { stood := { row := twinFormsUptoRow, standIns := [], harness := (true, "a3cb250701b4efb8d31300c0bf1b452b0bd8d36b738dd66acf6625e13a8710fb"), looks := false }, kinds := [], alts := [], laidByText := true, laidKinds := [.data, .data, .data], laidTests := true, laidLooks := .later }
def TwinFormsUptoCardSaid : Prop := Claim7.holds Tryd.pinned (.plain (OpenSpec.upto twinFormsSpec)) twinFormsUptoCard

/-- THE SECOND FORM's CARD OF 'coreseclaw45.TwinSecrets'. -/
def twinSecretsUptoCard : Claim7 := { stood := { row := twinSecretsUptoRow, standIns := [], harness := (true, "a3cb250701b4efb8d31300c0bf1b452b0bd8d36b738dd66acf6625e13a8710fb"), looks := false }, kinds := [], alts := [], laidByText := true, laidKinds := [.data, .data, .data], laidTests := true, laidLooks := .later }
def TwinSecretsUptoCardSaid : Prop := Claim7.holds Tryd.pinned (.plain (OpenSpec.upto twinSecretsSpec)) twinSecretsUptoCard

/-- THE SECOND FORM's CARD OF 'coreseclaw45.TwinExchanges'. -/
def twinExchangesUptoCard : Claim7 := { stood := { row := twinExchangesUptoRow, standIns := [], harness := (true, "a3cb250701b4efb8d31300c0bf1b452b0bd8d36b738dd66acf6625e13a8710fb"), looks := false }, kinds := [], alts := [], laidByText := true, laidKinds := [.data, .data, .data], laidTests := true, laidLooks := .later }
def TwinExchangesUptoCardSaid : Prop := Claim7.holds Tryd.pinned (.plain (OpenSpec.upto twinExchangesSpec)) twinExchangesUptoCard
end Rows
end Go.Proofs.YtkgbjoepjcenlaaDoor
