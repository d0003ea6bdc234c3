/-
  NARROWER THAN 'FOR EVERY INPUT', by the rows' own cells (each row's printed sentence says how): HeaderValid: loops, laid · HeaderPuts: loops, laid · HeaderBack: laid · HeaderCritical: loops, laid · WellformScans: laid · WellformCanon: laid · CborEncodes: loops, laid · CborDecodes: laid · CborOne: laid · CborMaps: loops, laid · CborMakes: laid · CborOrder: laid · WellformForms: laid · WellformFixed: laid.
  DERIVED. THE GIVEN ROWS OF THIS SEAT. 14 by the template 'for every input the law returns true; each argument reads behind the call as it read before'; 0 by the template 'total and deterministic' (their statements: YtelefkkkccilaaaGreatDoorTotals.lean).
  GIVEN WITH THE SEED: the statements are not yours to turn. If you find one false, say at which input.
  Laid BY PROGRAM, IN A SANDBOX (cutbox-rows.mjs): the forced cells as the released guide's own fill.sh prints them over the translation 6bef4f62a82c5b3c… (all of the seat's roots in one cut). By AI agents, Wed Nov 11 2026. No macro, syntax, notation, axiom, sorry.
-/
import Derived.Test.YtelefkkkccilaaaGreatDoorChecked
import GoSem.PinnedTables
import GoSem.Claim
import GoSem.ClaimJoined
import GoSem.ClaimMapViews
import Derived.JoinedTies
import Derived.KernelRfl
namespace Go.Proofs.YtelefkkkccilaaaGreatDoor
/- THE CELL 'sum', in the pinned program and in every row, IS THE sha256 OF THE DUMP (.gsa) THAT YtelefkkkccilaaaGreatDoorProg.lean LOADS. Nothing in Lean hashes anything: it is a label: what it is worth is what the hold of that sum in a sandbox is worth. -/
noncomputable def Tryz.pinned : Pinned := { name := "ytelefkkkccilaaagreatdoor", sum := "6bef4f62a82c5b3cb7e810bd6970415e63a7d230b678d867148f0cdd77882839", checked := Tryz.checked }
namespace Rows
def none {H : Type} : Left H := { results := [], args := [] }

/- WHAT THE LISTED PACKAGE-LEVEL VARIABLES READ AS WHEN THE CALL BEGINS. Each datum BY PROGRAM (the guide's laid-datum.mjs) off the statement by which the dump's own 'gosem.cut.vars' lays the variable. In a bare row this is a premise. The card (YtelefkkkccilaaaGreatDoorCards.lean) ties it to the program's text. -/
def laid_unicode_utf8_acceptRanges {H : Type} : DataW H := .agg [.agg [.lit (.int .u8 128), .lit (.int .u8 191)], .agg [.lit (.int .u8 160), .lit (.int .u8 191)], .agg [.lit (.int .u8 128), .lit (.int .u8 159)], .agg [.lit (.int .u8 144), .lit (.int .u8 191)], .agg [.lit (.int .u8 128), .lit (.int .u8 143)], .agg [.lit (.int .u8 0), .lit (.int .u8 0)], .agg [.lit (.int .u8 0), .lit (.int .u8 0)], .agg [.lit (.int .u8 0), .lit (.int .u8 0)], .agg [.lit (.int .u8 0), .lit (.int .u8 0)], .agg [.lit (.int .u8 0), .lit (.int .u8 0)], .agg [.lit (.int .u8 0), .lit (.int .u8 0)], .agg [.lit (.int .u8 0), .lit (.int .u8 0)], .agg [.lit (.int .u8 0), .lit (.int .u8 0)], .agg [.lit (.int .u8 0), .lit (.int .u8 0)], .agg [.lit (.int .u8 0), .lit (.int .u8 0)], .agg [.lit (.int .u8 0), .lit (.int .u8 0)]]
/-- One of Go's own tables, pinned by name: the form's constant. -/
def laid_unicode_utf8_first : DataW Unit := Go.Pinned.utf8First

/-- 'coreseclaw12.HeaderValid': WHATEVER THE INPUT: true; the input reads as it did. -/
def headerValidSpec : ChangeSpec := { name := "headerValid", fn := fun _ => fun
  | [d1, d2] => { results := [.lit (.bool true)], args := [d1, d2] }
  | _ => none }
def headerValidRow : OpenClaim := { program := "ytelefkkkccilaaagreatdoor", sum := "6bef4f62a82c5b3cb7e810bd6970415e63a7d230b678d867148f0cdd77882839", func := "coresec/coreseclaw12.HeaderValid", spec := "headerValid", inPlace := ["math.Float64frombits", "math.Float64bits", "math.Float32bits", "internal/bytealg.Compare", "internal/reflectlite.ValueOf", "internal/reflectlite.Swapper", "(internal/reflectlite.Value).Len"], unfollowed := true, recurses := true, named := ["unicode/utf8.first", "unicode/utf8.acceptRanges"], loops := true, apart := false, laid := [("unicode/utf8.acceptRanges", laid_unicode_utf8_acceptRanges), ("unicode/utf8.first", laid_unicode_utf8_first)] }
def HeaderValidSaid : Prop := headerValidRow.holds Tryz.pinned (OpenSpec.ofChange headerValidSpec)

/-- ITS FALSE NEIGHBOUR: 'it returns false'. Refute it at one input. -/
def headerValidWrong : ChangeSpec := { name := "headerValid", fn := fun _ => fun
  | [d1, d2] => { results := [.lit (.bool false)], args := [d1, d2] }
  | _ => none }
def HeaderValidWrongFalsely : Prop := headerValidRow.holds Tryz.pinned (OpenSpec.ofChange headerValidWrong)

/-- 'coreseclaw12.HeaderPuts': WHATEVER THE INPUT: true; the input reads as it did. -/
def headerPutsSpec : ChangeSpec := { name := "headerPuts", fn := fun _ => fun
  | [d1, d2, d3, d4, d5] => { results := [.lit (.bool true)], args := [d1, d2, d3, d4, d5] }
  | _ => none }
def headerPutsRow : OpenClaim := { program := "ytelefkkkccilaaagreatdoor", sum := "6bef4f62a82c5b3cb7e810bd6970415e63a7d230b678d867148f0cdd77882839", func := "coresec/coreseclaw12.HeaderPuts", spec := "headerPuts", inPlace := ["math.Float64frombits", "math.Float64bits", "math.Float32bits", "internal/bytealg.Compare", "internal/reflectlite.ValueOf", "internal/reflectlite.Swapper", "(internal/reflectlite.Value).Len"], unfollowed := true, recurses := true, named := ["unicode/utf8.first", "unicode/utf8.acceptRanges"], loops := true, apart := false, laid := [("unicode/utf8.acceptRanges", laid_unicode_utf8_acceptRanges), ("unicode/utf8.first", laid_unicode_utf8_first)] }
def HeaderPutsSaid : Prop := headerPutsRow.holds Tryz.pinned (OpenSpec.ofChange headerPutsSpec)

/-- ITS FALSE NEIGHBOUR: 'it returns false'. Refute it at one input. -/
def headerPutsWrong : ChangeSpec := { name := "headerPuts", fn := fun _ => fun
  | [d1, d2, d3, d4, d5] => { results := [.lit (.bool false)], args := [d1, d2, d3, d4, d5] }
  | _ => none }
def HeaderPutsWrongFalsely : Prop := headerPutsRow.holds Tryz.pinned (OpenSpec.ofChange headerPutsWrong)

/-- 'coreseclaw12.HeaderBack': WHATEVER THE INPUT: true; the input reads as it did. -/
def headerBackSpec : ChangeSpec := { name := "headerBack", fn := fun _ => fun
  | [d1, d2, d3] => { results := [.lit (.bool true)], args := [d1, d2, d3] }
  | _ => none }
def headerBackRow : OpenClaim := { program := "ytelefkkkccilaaagreatdoor", sum := "6bef4f62a82c5b3cb7e810bd6970415e63a7d230b678d867148f0cdd77882839", func := "coresec/coreseclaw12.HeaderBack", spec := "headerBack", inPlace := ["math.Float64frombits", "math.Float64bits", "math.Float32bits", "internal/bytealg.Compare", "internal/reflectlite.ValueOf", "internal/reflectlite.Swapper", "(internal/reflectlite.Value).Len"], unfollowed := true, recurses := true, named := ["unicode/utf8.first", "unicode/utf8.acceptRanges"], apart := false, laid := [("unicode/utf8.acceptRanges", laid_unicode_utf8_acceptRanges), ("unicode/utf8.first", laid_unicode_utf8_first)] }
def HeaderBackSaid : Prop := headerBackRow.holds Tryz.pinned (OpenSpec.ofChange headerBackSpec)

/-- ITS FALSE NEIGHBOUR: 'it returns false'. Refute it at one input. -/
def headerBackWrong : ChangeSpec := { name := "headerBack", fn := fun _ => fun
  | [d1, d2, d3] => { results := [.lit (.bool false)], args := [d1, d2, d3] }
  | _ => none }
def HeaderBackWrongFalsely : Prop := headerBackRow.holds Tryz.pinned (OpenSpec.ofChange headerBackWrong)

/-- 'coreseclaw12.HeaderCritical': WHATEVER THE INPUT: true; the input reads as it did. -/
def headerCriticalSpec : ChangeSpec := { name := "headerCritical", fn := fun _ => fun
  | [d1, d2, d3] => { results := [.lit (.bool true)], args := [d1, d2, d3] }
  | _ => none }
def headerCriticalRow : OpenClaim := { program := "ytelefkkkccilaaagreatdoor", sum := "6bef4f62a82c5b3cb7e810bd6970415e63a7d230b678d867148f0cdd77882839", func := "coresec/coreseclaw12.HeaderCritical", spec := "headerCritical", inPlace := ["math.Float64frombits", "math.Float64bits", "math.Float32bits", "internal/bytealg.Compare", "internal/reflectlite.ValueOf", "internal/reflectlite.Swapper", "(internal/reflectlite.Value).Len"], unfollowed := true, recurses := true, named := ["unicode/utf8.first", "unicode/utf8.acceptRanges"], loops := true, apart := false, laid := [("unicode/utf8.acceptRanges", laid_unicode_utf8_acceptRanges), ("unicode/utf8.first", laid_unicode_utf8_first)] }
def HeaderCriticalSaid : Prop := headerCriticalRow.holds Tryz.pinned (OpenSpec.ofChange headerCriticalSpec)

/-- ITS FALSE NEIGHBOUR: 'it returns false'. Refute it at one input. -/
def headerCriticalWrong : ChangeSpec := { name := "headerCritical", fn := fun _ => fun
  | [d1, d2, d3] => { results := [.lit (.bool false)], args := [d1, d2, d3] }
  | _ => none }
def HeaderCriticalWrongFalsely : Prop := headerCriticalRow.holds Tryz.pinned (OpenSpec.ofChange headerCriticalWrong)

/-- 'coreseclaw02.WellformScans': WHATEVER THE INPUT: true; the input reads as it did. -/
def wellformScansSpec : ChangeSpec := { name := "wellformScans", fn := fun _ => fun
  | [d1, d2, d3, d4] => { results := [.lit (.bool true)], args := [d1, d2, d3, d4] }
  | _ => none }
def wellformScansRow : OpenClaim := { program := "ytelefkkkccilaaagreatdoor", sum := "6bef4f62a82c5b3cb7e810bd6970415e63a7d230b678d867148f0cdd77882839", func := "coresec/coreseclaw02.WellformScans", spec := "wellformScans", inPlace := ["math.Float64frombits", "math.Float64bits", "math.Float32frombits", "math.Float32bits", "internal/bytealg.Compare"], unfollowed := true, recurses := true, named := ["unicode/utf8.first", "unicode/utf8.acceptRanges"], apart := false, laid := [("unicode/utf8.acceptRanges", laid_unicode_utf8_acceptRanges), ("unicode/utf8.first", laid_unicode_utf8_first)] }
def WellformScansSaid : Prop := wellformScansRow.holds Tryz.pinned (OpenSpec.ofChange wellformScansSpec)

/-- ITS FALSE NEIGHBOUR: 'it returns false'. Refute it at one input. -/
def wellformScansWrong : ChangeSpec := { name := "wellformScans", fn := fun _ => fun
  | [d1, d2, d3, d4] => { results := [.lit (.bool false)], args := [d1, d2, d3, d4] }
  | _ => none }
def WellformScansWrongFalsely : Prop := wellformScansRow.holds Tryz.pinned (OpenSpec.ofChange wellformScansWrong)

/-- 'coreseclaw02.WellformCanon': WHATEVER THE INPUT: true; the input reads as it did. -/
def wellformCanonSpec : ChangeSpec := { name := "wellformCanon", fn := fun _ => fun
  | [d1, d2, d3, d4] => { results := [.lit (.bool true)], args := [d1, d2, d3, d4] }
  | _ => none }
def wellformCanonRow : OpenClaim := { program := "ytelefkkkccilaaagreatdoor", sum := "6bef4f62a82c5b3cb7e810bd6970415e63a7d230b678d867148f0cdd77882839", func := "coresec/coreseclaw02.WellformCanon", spec := "wellformCanon", inPlace := ["math.Float64frombits", "math.Float64bits", "math.Float32frombits", "math.Float32bits", "internal/bytealg.Compare"], unfollowed := true, recurses := true, named := ["unicode/utf8.first", "unicode/utf8.acceptRanges"], apart := false, laid := [("unicode/utf8.acceptRanges", laid_unicode_utf8_acceptRanges), ("unicode/utf8.first", laid_unicode_utf8_first)] }
def WellformCanonSaid : Prop := wellformCanonRow.holds Tryz.pinned (OpenSpec.ofChange wellformCanonSpec)

/-- ITS FALSE NEIGHBOUR: 'it returns false'. Refute it at one input. -/
def wellformCanonWrong : ChangeSpec := { name := "wellformCanon", fn := fun _ => fun
  | [d1, d2, d3, d4] => { results := [.lit (.bool false)], args := [d1, d2, d3, d4] }
  | _ => none }
def WellformCanonWrongFalsely : Prop := wellformCanonRow.holds Tryz.pinned (OpenSpec.ofChange wellformCanonWrong)

/-- 'coreseclaw01.CborEncodes': WHATEVER THE INPUT: true; the input reads as it did. -/
def cborEncodesSpec : ChangeSpec := { name := "cborEncodes", fn := fun _ => fun
  | [d1, d2, d3, d4] => { results := [.lit (.bool true)], args := [d1, d2, d3, d4] }
  | _ => none }
def cborEncodesRow : OpenClaim := { program := "ytelefkkkccilaaagreatdoor", sum := "6bef4f62a82c5b3cb7e810bd6970415e63a7d230b678d867148f0cdd77882839", func := "coresec/coreseclaw01.CborEncodes", spec := "cborEncodes", inPlace := ["math.Float64frombits", "math.Float64bits", "math.Float32bits", "internal/bytealg.Compare", "internal/reflectlite.ValueOf", "internal/reflectlite.Swapper", "(internal/reflectlite.Value).Len", "math.Float32frombits"], unfollowed := true, recurses := true, named := ["unicode/utf8.first", "unicode/utf8.acceptRanges"], loops := true, apart := false, laid := [("unicode/utf8.acceptRanges", laid_unicode_utf8_acceptRanges), ("unicode/utf8.first", laid_unicode_utf8_first)] }
def CborEncodesSaid : Prop := cborEncodesRow.holds Tryz.pinned (OpenSpec.ofChange cborEncodesSpec)

/-- ITS FALSE NEIGHBOUR: 'it returns false'. Refute it at one input. -/
def cborEncodesWrong : ChangeSpec := { name := "cborEncodes", fn := fun _ => fun
  | [d1, d2, d3, d4] => { results := [.lit (.bool false)], args := [d1, d2, d3, d4] }
  | _ => none }
def CborEncodesWrongFalsely : Prop := cborEncodesRow.holds Tryz.pinned (OpenSpec.ofChange cborEncodesWrong)

/-- 'coreseclaw01.CborDecodes': WHATEVER THE INPUT: true; the input reads as it did. -/
def cborDecodesSpec : ChangeSpec := { name := "cborDecodes", fn := fun _ => fun
  | [d1, d2, d3, d4] => { results := [.lit (.bool true)], args := [d1, d2, d3, d4] }
  | _ => none }
def cborDecodesRow : OpenClaim := { program := "ytelefkkkccilaaagreatdoor", sum := "6bef4f62a82c5b3cb7e810bd6970415e63a7d230b678d867148f0cdd77882839", func := "coresec/coreseclaw01.CborDecodes", spec := "cborDecodes", inPlace := ["math.Float64frombits", "math.Float64bits", "math.Float32bits", "internal/bytealg.Compare", "internal/reflectlite.ValueOf", "internal/reflectlite.Swapper", "(internal/reflectlite.Value).Len", "math.Float32frombits"], unfollowed := true, recurses := true, named := ["unicode/utf8.first", "unicode/utf8.acceptRanges"], apart := false, laid := [("unicode/utf8.acceptRanges", laid_unicode_utf8_acceptRanges), ("unicode/utf8.first", laid_unicode_utf8_first)] }
def CborDecodesSaid : Prop := cborDecodesRow.holds Tryz.pinned (OpenSpec.ofChange cborDecodesSpec)

/-- ITS FALSE NEIGHBOUR: 'it returns false'. Refute it at one input. -/
def cborDecodesWrong : ChangeSpec := { name := "cborDecodes", fn := fun _ => fun
  | [d1, d2, d3, d4] => { results := [.lit (.bool false)], args := [d1, d2, d3, d4] }
  | _ => none }
def CborDecodesWrongFalsely : Prop := cborDecodesRow.holds Tryz.pinned (OpenSpec.ofChange cborDecodesWrong)

/-- 'coreseclaw01.CborOne': WHATEVER THE INPUT: true; the input reads as it did. -/
def cborOneSpec : ChangeSpec := { name := "cborOne", fn := fun _ => fun
  | [d1, d2, d3, d4] => { results := [.lit (.bool true)], args := [d1, d2, d3, d4] }
  | _ => none }
def cborOneRow : OpenClaim := { program := "ytelefkkkccilaaagreatdoor", sum := "6bef4f62a82c5b3cb7e810bd6970415e63a7d230b678d867148f0cdd77882839", func := "coresec/coreseclaw01.CborOne", spec := "cborOne", inPlace := ["math.Float64frombits", "math.Float64bits", "math.Float32bits", "internal/bytealg.Compare", "internal/reflectlite.ValueOf", "internal/reflectlite.Swapper", "(internal/reflectlite.Value).Len", "math.Float32frombits"], unfollowed := true, recurses := true, named := ["unicode/utf8.first", "unicode/utf8.acceptRanges"], apart := false, laid := [("unicode/utf8.acceptRanges", laid_unicode_utf8_acceptRanges), ("unicode/utf8.first", laid_unicode_utf8_first)] }
def CborOneSaid : Prop := cborOneRow.holds Tryz.pinned (OpenSpec.ofChange cborOneSpec)

/-- ITS FALSE NEIGHBOUR: 'it returns false'. Refute it at one input. -/
def cborOneWrong : ChangeSpec := { name := "cborOne", fn := fun _ => fun
  | [d1, d2, d3, d4] => { results := [.lit (.bool false)], args := [d1, d2, d3, d4] }
  | _ => none }
def CborOneWrongFalsely : Prop := cborOneRow.holds Tryz.pinned (OpenSpec.ofChange cborOneWrong)

/-- 'coreseclaw01.CborMaps': WHATEVER THE INPUT: true; the input reads as it did. -/
def cborMapsSpec : ChangeSpec := { name := "cborMaps", fn := fun _ => fun
  | [d1, d2, d3, d4, d5] => { results := [.lit (.bool true)], args := [d1, d2, d3, d4, d5] }
  | _ => none }
def cborMapsRow : OpenClaim := { program := "ytelefkkkccilaaagreatdoor", sum := "6bef4f62a82c5b3cb7e810bd6970415e63a7d230b678d867148f0cdd77882839", func := "coresec/coreseclaw01.CborMaps", spec := "cborMaps", inPlace := ["math.Float64frombits", "math.Float64bits", "math.Float32bits", "internal/bytealg.Compare", "internal/reflectlite.ValueOf", "internal/reflectlite.Swapper", "(internal/reflectlite.Value).Len", "math.Float32frombits"], unfollowed := true, recurses := true, named := ["unicode/utf8.first", "unicode/utf8.acceptRanges"], loops := true, apart := false, laid := [("unicode/utf8.acceptRanges", laid_unicode_utf8_acceptRanges), ("unicode/utf8.first", laid_unicode_utf8_first)] }
def CborMapsSaid : Prop := cborMapsRow.holds Tryz.pinned (OpenSpec.ofChange cborMapsSpec)

/-- ITS FALSE NEIGHBOUR: 'it returns false'. Refute it at one input. -/
def cborMapsWrong : ChangeSpec := { name := "cborMaps", fn := fun _ => fun
  | [d1, d2, d3, d4, d5] => { results := [.lit (.bool false)], args := [d1, d2, d3, d4, d5] }
  | _ => none }
def CborMapsWrongFalsely : Prop := cborMapsRow.holds Tryz.pinned (OpenSpec.ofChange cborMapsWrong)

/-- 'coreseclaw01.CborMakes': WHATEVER THE INPUT: true; the input reads as it did. -/
def cborMakesSpec : ChangeSpec := { name := "cborMakes", fn := fun _ => fun
  | [d1, d2, d3, d4, d5] => { results := [.lit (.bool true)], args := [d1, d2, d3, d4, d5] }
  | _ => none }
def cborMakesRow : OpenClaim := { program := "ytelefkkkccilaaagreatdoor", sum := "6bef4f62a82c5b3cb7e810bd6970415e63a7d230b678d867148f0cdd77882839", func := "coresec/coreseclaw01.CborMakes", spec := "cborMakes", inPlace := ["math.Float64frombits", "math.Float64bits", "math.Float32bits", "internal/bytealg.Compare", "internal/reflectlite.ValueOf", "internal/reflectlite.Swapper", "(internal/reflectlite.Value).Len", "math.Float32frombits"], unfollowed := true, recurses := true, named := ["unicode/utf8.first", "unicode/utf8.acceptRanges"], apart := false, laid := [("unicode/utf8.acceptRanges", laid_unicode_utf8_acceptRanges), ("unicode/utf8.first", laid_unicode_utf8_first)] }
def CborMakesSaid : Prop := cborMakesRow.holds Tryz.pinned (OpenSpec.ofChange cborMakesSpec)

/-- ITS FALSE NEIGHBOUR: 'it returns false'. Refute it at one input. -/
def cborMakesWrong : ChangeSpec := { name := "cborMakes", fn := fun _ => fun
  | [d1, d2, d3, d4, d5] => { results := [.lit (.bool false)], args := [d1, d2, d3, d4, d5] }
  | _ => none }
def CborMakesWrongFalsely : Prop := cborMakesRow.holds Tryz.pinned (OpenSpec.ofChange cborMakesWrong)

/-- 'coreseclaw01.CborOrder': WHATEVER THE INPUT: true; the input reads as it did. -/
def cborOrderSpec : ChangeSpec := { name := "cborOrder", fn := fun _ => fun
  | [d1, d2] => { results := [.lit (.bool true)], args := [d1, d2] }
  | _ => none }
def cborOrderRow : OpenClaim := { program := "ytelefkkkccilaaagreatdoor", sum := "6bef4f62a82c5b3cb7e810bd6970415e63a7d230b678d867148f0cdd77882839", func := "coresec/coreseclaw01.CborOrder", spec := "cborOrder", inPlace := ["math.Float64frombits", "math.Float64bits", "math.Float32bits", "internal/bytealg.Compare", "internal/reflectlite.ValueOf", "internal/reflectlite.Swapper", "(internal/reflectlite.Value).Len", "math.Float32frombits"], unfollowed := true, recurses := true, named := ["unicode/utf8.first", "unicode/utf8.acceptRanges"], apart := false, laid := [("unicode/utf8.acceptRanges", laid_unicode_utf8_acceptRanges), ("unicode/utf8.first", laid_unicode_utf8_first)] }
def CborOrderSaid : Prop := cborOrderRow.holds Tryz.pinned (OpenSpec.ofChange cborOrderSpec)

/-- ITS FALSE NEIGHBOUR: 'it returns false'. Refute it at one input. -/
def cborOrderWrong : ChangeSpec := { name := "cborOrder", fn := fun _ => fun
  | [d1, d2] => { results := [.lit (.bool false)], args := [d1, d2] }
  | _ => none }
def CborOrderWrongFalsely : Prop := cborOrderRow.holds Tryz.pinned (OpenSpec.ofChange cborOrderWrong)

/-- 'coreseclaw02.WellformForms': WHATEVER THE INPUT: true; the input reads as it did. -/
def wellformFormsSpec : ChangeSpec := { name := "wellformForms", fn := fun _ => fun
  | [d1, d2, d3, d4] => { results := [.lit (.bool true)], args := [d1, d2, d3, d4] }
  | _ => none }
def wellformFormsRow : OpenClaim := { program := "ytelefkkkccilaaagreatdoor", sum := "6bef4f62a82c5b3cb7e810bd6970415e63a7d230b678d867148f0cdd77882839", func := "coresec/coreseclaw02.WellformForms", spec := "wellformForms", inPlace := ["math.Float64frombits", "math.Float64bits", "math.Float32frombits", "math.Float32bits", "internal/bytealg.Compare"], unfollowed := true, recurses := true, named := ["unicode/utf8.first", "unicode/utf8.acceptRanges"], apart := false, laid := [("unicode/utf8.acceptRanges", laid_unicode_utf8_acceptRanges), ("unicode/utf8.first", laid_unicode_utf8_first)] }
def WellformFormsSaid : Prop := wellformFormsRow.holds Tryz.pinned (OpenSpec.ofChange wellformFormsSpec)

/-- ITS FALSE NEIGHBOUR: 'it returns false'. Refute it at one input. -/
def wellformFormsWrong : ChangeSpec := { name := "wellformForms", fn := fun _ => fun
  | [d1, d2, d3, d4] => { results := [.lit (.bool false)], args := [d1, d2, d3, d4] }
  | _ => none }
def WellformFormsWrongFalsely : Prop := wellformFormsRow.holds Tryz.pinned (OpenSpec.ofChange wellformFormsWrong)

/-- 'coreseclaw02.WellformFixed': WHATEVER THE INPUT: true; the input reads as it did. -/
def wellformFixedSpec : ChangeSpec := { name := "wellformFixed", fn := fun _ => fun
  | [d1, d2, d3, d4] => { results := [.lit (.bool true)], args := [d1, d2, d3, d4] }
  | _ => none }
def wellformFixedRow : OpenClaim := { program := "ytelefkkkccilaaagreatdoor", sum := "6bef4f62a82c5b3cb7e810bd6970415e63a7d230b678d867148f0cdd77882839", func := "coresec/coreseclaw02.WellformFixed", spec := "wellformFixed", inPlace := ["math.Float64frombits", "math.Float64bits", "math.Float32frombits", "math.Float32bits", "internal/bytealg.Compare"], unfollowed := true, recurses := true, named := ["unicode/utf8.first", "unicode/utf8.acceptRanges"], apart := false, laid := [("unicode/utf8.acceptRanges", laid_unicode_utf8_acceptRanges), ("unicode/utf8.first", laid_unicode_utf8_first)] }
def WellformFixedSaid : Prop := wellformFixedRow.holds Tryz.pinned (OpenSpec.ofChange wellformFixedSpec)

/-- ITS FALSE NEIGHBOUR: 'it returns false'. Refute it at one input. -/
def wellformFixedWrong : ChangeSpec := { name := "wellformFixed", fn := fun _ => fun
  | [d1, d2, d3, d4] => { results := [.lit (.bool false)], args := [d1, d2, d3, d4] }
  | _ => none }
def WellformFixedWrongFalsely : Prop := wellformFixedRow.holds Tryz.pinned (OpenSpec.ofChange wellformFixedWrong)

/- THE SECOND FORM. 'bulk': how many values and letters a reading holds, each counted each time it is reached (what is shared counts as often as it is met; a slice's spare places count too). A statement '..UptoSaid' is the law's where the arguments, and the package variables that the reading takes, are together of bulk at most 1048576: NARROWER than '..Said'. Prove '..Said' where nothing that the law and all that it calls make is longer than what came in: it says more and counts as full. Else prove '..UptoSaid'. A law counts once. -/
mutual
def uptoBulk {H : Type} : DataW H → Nat
  | .lit (.string bytes) => bytes.length + 1
  | .lit _ => 1
  | .nil => 1
  | .ptr d => uptoBulk d + 1
  | .slice elems spare => uptoBulkAll elems + uptoBulkAll spare + 1
  | .agg parts => uptoBulkAll parts + 1
  | .iface _ d => uptoBulk d + 1
  | .map entries => uptoBulkEntries entries + 1
  | .held _ => 1
def uptoBulkAll {H : Type} : List (DataW H) → Nat
  | [] => 0
  | d :: r => uptoBulk d + uptoBulkAll r
def uptoBulkEntries {H : Type} : List (Lit × DataW H) → Nat
  | [] => 0
  | x :: r => uptoBulkEntry x + uptoBulkEntries r
def uptoBulkEntry {H : Type} : Lit × DataW H → Nat
  | (.string bytes, d) => bytes.length + uptoBulk d + 1
  | (_, d) => uptoBulk d + 1
 end
def uptoSmall : (H : Type) → List (DataW H) → Bool := fun _ ds => decide (uptoBulkAll ds ≤ 1048576)
def OpenSpec.upto (s : _root_.Go.ChangeSpec) : _root_.Go.OpenSpec := { _root_.Go.OpenSpec.ofChange s with cond := some uptoSmall }

/-- 'coreseclaw12.HeaderValid', WHERE WHAT IT READS IS OF BULK AT MOST 1048576: true; the input reads as it did. -/
def headerValidUptoRow : OpenClaim := { program := "ytelefkkkccilaaagreatdoor", sum := "6bef4f62a82c5b3cb7e810bd6970415e63a7d230b678d867148f0cdd77882839", func := "coresec/coreseclaw12.HeaderValid", spec := "headerValid", inPlace := ["math.Float64frombits", "math.Float64bits", "math.Float32bits", "internal/bytealg.Compare", "internal/reflectlite.ValueOf", "internal/reflectlite.Swapper", "(internal/reflectlite.Value).Len"], unfollowed := true, recurses := true, named := ["unicode/utf8.first", "unicode/utf8.acceptRanges"], loops := true, apart := false, laid := [("unicode/utf8.acceptRanges", laid_unicode_utf8_acceptRanges), ("unicode/utf8.first", laid_unicode_utf8_first)], narrowed := true }
def HeaderValidUptoSaid : Prop := headerValidUptoRow.holds Tryz.pinned (OpenSpec.upto headerValidSpec)

/-- 'coreseclaw12.HeaderPuts', WHERE WHAT IT READS IS OF BULK AT MOST 1048576: true; the input reads as it did. -/
def headerPutsUptoRow : OpenClaim := { program := "ytelefkkkccilaaagreatdoor", sum := "6bef4f62a82c5b3cb7e810bd6970415e63a7d230b678d867148f0cdd77882839", func := "coresec/coreseclaw12.HeaderPuts", spec := "headerPuts", inPlace := ["math.Float64frombits", "math.Float64bits", "math.Float32bits", "internal/bytealg.Compare", "internal/reflectlite.ValueOf", "internal/reflectlite.Swapper", "(internal/reflectlite.Value).Len"], unfollowed := true, recurses := true, named := ["unicode/utf8.first", "unicode/utf8.acceptRanges"], loops := true, apart := false, laid := [("unicode/utf8.acceptRanges", laid_unicode_utf8_acceptRanges), ("unicode/utf8.first", laid_unicode_utf8_first)], narrowed := true }
def HeaderPutsUptoSaid : Prop := headerPutsUptoRow.holds Tryz.pinned (OpenSpec.upto headerPutsSpec)

/-- 'coreseclaw12.HeaderBack', WHERE WHAT IT READS IS OF BULK AT MOST 1048576: true; the input reads as it did. -/
def headerBackUptoRow : OpenClaim := { program := "ytelefkkkccilaaagreatdoor", sum := "6bef4f62a82c5b3cb7e810bd6970415e63a7d230b678d867148f0cdd77882839", func := "coresec/coreseclaw12.HeaderBack", spec := "headerBack", inPlace := ["math.Float64frombits", "math.Float64bits", "math.Float32bits", "internal/bytealg.Compare", "internal/reflectlite.ValueOf", "internal/reflectlite.Swapper", "(internal/reflectlite.Value).Len"], unfollowed := true, recurses := true, named := ["unicode/utf8.first", "unicode/utf8.acceptRanges"], apart := false, laid := [("unicode/utf8.acceptRanges", laid_unicode_utf8_acceptRanges), ("unicode/utf8.first", laid_unicode_utf8_first)], narrowed := true }
def HeaderBackUptoSaid : Prop := headerBackUptoRow.holds Tryz.pinned (OpenSpec.upto headerBackSpec)

/-- 'coreseclaw12.HeaderCritical', WHERE WHAT IT READS IS OF BULK AT MOST 1048576: true; the input reads as it did. -/
def headerCriticalUptoRow : OpenClaim := { program := "ytelefkkkccilaaagreatdoor", sum := "6bef4f62a82c5b3cb7e810bd6970415e63a7d230b678d867148f0cdd77882839", func := "coresec/coreseclaw12.HeaderCritical", spec := "headerCritical", inPlace := ["math.Float64frombits", "math.Float64bits", "math.Float32bits", "internal/bytealg.Compare", "internal/reflectlite.ValueOf", "internal/reflectlite.Swapper", "(internal/reflectlite.Value).Len"], unfollowed := true, recurses := true, named := ["unicode/utf8.first", "unicode/utf8.acceptRanges"], loops := true, apart := false, laid := [("unicode/utf8.acceptRanges", laid_unicode_utf8_acceptRanges), ("unicode/utf8.first", laid_unicode_utf8_first)], narrowed := true }
def HeaderCriticalUptoSaid : Prop := headerCriticalUptoRow.holds Tryz.pinned (OpenSpec.upto headerCriticalSpec)

/-- 'coreseclaw02.WellformScans', WHERE WHAT IT READS IS OF BULK AT MOST 1048576: true; the input reads as it did. -/
def wellformScansUptoRow : OpenClaim := { program := "ytelefkkkccilaaagreatdoor", sum := "6bef4f62a82c5b3cb7e810bd6970415e63a7d230b678d867148f0cdd77882839", func := "coresec/coreseclaw02.WellformScans", spec := "wellformScans", inPlace := ["math.Float64frombits", "math.Float64bits", "math.Float32frombits", "math.Float32bits", "internal/bytealg.Compare"], unfollowed := true, recurses := true, named := ["unicode/utf8.first", "unicode/utf8.acceptRanges"], apart := false, laid := [("unicode/utf8.acceptRanges", laid_unicode_utf8_acceptRanges), ("unicode/utf8.first", laid_unicode_utf8_first)], narrowed := true }
def WellformScansUptoSaid : Prop := wellformScansUptoRow.holds Tryz.pinned (OpenSpec.upto wellformScansSpec)

/-- 'coreseclaw02.WellformCanon', WHERE WHAT IT READS IS OF BULK AT MOST 1048576: true; the input reads as it did. -/
def wellformCanonUptoRow : OpenClaim := { program := "ytelefkkkccilaaagreatdoor", sum := "6bef4f62a82c5b3cb7e810bd6970415e63a7d230b678d867148f0cdd77882839", func := "coresec/coreseclaw02.WellformCanon", spec := "wellformCanon", inPlace := ["math.Float64frombits", "math.Float64bits", "math.Float32frombits", "math.Float32bits", "internal/bytealg.Compare"], unfollowed := true, recurses := true, named := ["unicode/utf8.first", "unicode/utf8.acceptRanges"], apart := false, laid := [("unicode/utf8.acceptRanges", laid_unicode_utf8_acceptRanges), ("unicode/utf8.first", laid_unicode_utf8_first)], narrowed := true }
def WellformCanonUptoSaid : Prop := wellformCanonUptoRow.holds Tryz.pinned (OpenSpec.upto wellformCanonSpec)

/-- 'coreseclaw01.CborEncodes', WHERE WHAT IT READS IS OF BULK AT MOST 1048576: true; the input reads as it did. -/
def cborEncodesUptoRow : OpenClaim := { program := "ytelefkkkccilaaagreatdoor", sum := "6bef4f62a82c5b3cb7e810bd6970415e63a7d230b678d867148f0cdd77882839", func := "coresec/coreseclaw01.CborEncodes", spec := "cborEncodes", inPlace := ["math.Float64frombits", "math.Float64bits", "math.Float32bits", "internal/bytealg.Compare", "internal/reflectlite.ValueOf", "internal/reflectlite.Swapper", "(internal/reflectlite.Value).Len", "math.Float32frombits"], unfollowed := true, recurses := true, named := ["unicode/utf8.first", "unicode/utf8.acceptRanges"], loops := true, apart := false, laid := [("unicode/utf8.acceptRanges", laid_unicode_utf8_acceptRanges), ("unicode/utf8.first", laid_unicode_utf8_first)], narrowed := true }
def CborEncodesUptoSaid : Prop := cborEncodesUptoRow.holds Tryz.pinned (OpenSpec.upto cborEncodesSpec)

/-- 'coreseclaw01.CborDecodes', WHERE WHAT IT READS IS OF BULK AT MOST 1048576: true; the input reads as it did. -/
def cborDecodesUptoRow : OpenClaim := { program := "ytelefkkkccilaaagreatdoor", sum := "6bef4f62a82c5b3cb7e810bd6970415e63a7d230b678d867148f0cdd77882839", func := "coresec/coreseclaw01.CborDecodes", spec := "cborDecodes", inPlace := ["math.Float64frombits", "math.Float64bits", "math.Float32bits", "internal/bytealg.Compare", "internal/reflectlite.ValueOf", "internal/reflectlite.Swapper", "(internal/reflectlite.Value).Len", "math.Float32frombits"], unfollowed := true, recurses := true, named := ["unicode/utf8.first", "unicode/utf8.acceptRanges"], apart := false, laid := [("unicode/utf8.acceptRanges", laid_unicode_utf8_acceptRanges), ("unicode/utf8.first", laid_unicode_utf8_first)], narrowed := true }
def CborDecodesUptoSaid : Prop := cborDecodesUptoRow.holds Tryz.pinned (OpenSpec.upto cborDecodesSpec)

/-- 'coreseclaw01.CborOne', WHERE WHAT IT READS IS OF BULK AT MOST 1048576: true; the input reads as it did. -/
def cborOneUptoRow : OpenClaim := { program := "ytelefkkkccilaaagreatdoor", sum := "6bef4f62a82c5b3cb7e810bd6970415e63a7d230b678d867148f0cdd77882839", func := "coresec/coreseclaw01.CborOne", spec := "cborOne", inPlace := ["math.Float64frombits", "math.Float64bits", "math.Float32bits", "internal/bytealg.Compare", "internal/reflectlite.ValueOf", "internal/reflectlite.Swapper", "(internal/reflectlite.Value).Len", "math.Float32frombits"], unfollowed := true, recurses := true, named := ["unicode/utf8.first", "unicode/utf8.acceptRanges"], apart := false, laid := [("unicode/utf8.acceptRanges", laid_unicode_utf8_acceptRanges), ("unicode/utf8.first", laid_unicode_utf8_first)], narrowed := true }
def CborOneUptoSaid : Prop := cborOneUptoRow.holds Tryz.pinned (OpenSpec.upto cborOneSpec)

/-- 'coreseclaw01.CborMaps', WHERE WHAT IT READS IS OF BULK AT MOST 1048576: true; the input reads as it did. -/
def cborMapsUptoRow : OpenClaim := { program := "ytelefkkkccilaaagreatdoor", sum := "6bef4f62a82c5b3cb7e810bd6970415e63a7d230b678d867148f0cdd77882839", func := "coresec/coreseclaw01.CborMaps", spec := "cborMaps", inPlace := ["math.Float64frombits", "math.Float64bits", "math.Float32bits", "internal/bytealg.Compare", "internal/reflectlite.ValueOf", "internal/reflectlite.Swapper", "(internal/reflectlite.Value).Len", "math.Float32frombits"], unfollowed := true, recurses := true, named := ["unicode/utf8.first", "unicode/utf8.acceptRanges"], loops := true, apart := false, laid := [("unicode/utf8.acceptRanges", laid_unicode_utf8_acceptRanges), ("unicode/utf8.first", laid_unicode_utf8_first)], narrowed := true }
def CborMapsUptoSaid : Prop := cborMapsUptoRow.holds Tryz.pinned (OpenSpec.upto cborMapsSpec)

/-- 'coreseclaw01.CborMakes', WHERE WHAT IT READS IS OF BULK AT MOST 1048576: true; the input reads as it did. -/
def cborMakesUptoRow : OpenClaim := { program := "ytelefkkkccilaaagreatdoor", sum := "6bef4f62a82c5b3cb7e810bd6970415e63a7d230b678d867148f0cdd77882839", func := "coresec/coreseclaw01.CborMakes", spec := "cborMakes", inPlace := ["math.Float64frombits", "math.Float64bits", "math.Float32bits", "internal/bytealg.Compare", "internal/reflectlite.ValueOf", "internal/reflectlite.Swapper", "(internal/reflectlite.Value).Len", "math.Float32frombits"], unfollowed := true, recurses := true, named := ["unicode/utf8.first", "unicode/utf8.acceptRanges"], apart := false, laid := [("unicode/utf8.acceptRanges", laid_unicode_utf8_acceptRanges), ("unicode/utf8.first", laid_unicode_utf8_first)], narrowed := true }
def CborMakesUptoSaid : Prop := cborMakesUptoRow.holds Tryz.pinned (OpenSpec.upto cborMakesSpec)

/-- 'coreseclaw01.CborOrder', WHERE WHAT IT READS IS OF BULK AT MOST 1048576: true; the input reads as it did. -/
def cborOrderUptoRow : OpenClaim := { program := "ytelefkkkccilaaagreatdoor", sum := "6bef4f62a82c5b3cb7e810bd6970415e63a7d230b678d867148f0cdd77882839", func := "coresec/coreseclaw01.CborOrder", spec := "cborOrder", inPlace := ["math.Float64frombits", "math.Float64bits", "math.Float32bits", "internal/bytealg.Compare", "internal/reflectlite.ValueOf", "internal/reflectlite.Swapper", "(internal/reflectlite.Value).Len", "math.Float32frombits"], unfollowed := true, recurses := true, named := ["unicode/utf8.first", "unicode/utf8.acceptRanges"], apart := false, laid := [("unicode/utf8.acceptRanges", laid_unicode_utf8_acceptRanges), ("unicode/utf8.first", laid_unicode_utf8_first)], narrowed := true }
def CborOrderUptoSaid : Prop := cborOrderUptoRow.holds Tryz.pinned (OpenSpec.upto cborOrderSpec)

/-- 'coreseclaw02.WellformForms', WHERE WHAT IT READS IS OF BULK AT MOST 1048576: true; the input reads as it did. -/
def wellformFormsUptoRow : OpenClaim := { program := "ytelefkkkccilaaagreatdoor", sum := "6bef4f62a82c5b3cb7e810bd6970415e63a7d230b678d867148f0cdd77882839", func := "coresec/coreseclaw02.WellformForms", spec := "wellformForms", inPlace := ["math.Float64frombits", "math.Float64bits", "math.Float32frombits", "math.Float32bits", "internal/bytealg.Compare"], unfollowed := true, recurses := true, named := ["unicode/utf8.first", "unicode/utf8.acceptRanges"], apart := false, laid := [("unicode/utf8.acceptRanges", laid_unicode_utf8_acceptRanges), ("unicode/utf8.first", laid_unicode_utf8_first)], narrowed := true }
def WellformFormsUptoSaid : Prop := wellformFormsUptoRow.holds Tryz.pinned (OpenSpec.upto wellformFormsSpec)

/-- 'coreseclaw02.WellformFixed', WHERE WHAT IT READS IS OF BULK AT MOST 1048576: true; the input reads as it did. -/
def wellformFixedUptoRow : OpenClaim := { program := "ytelefkkkccilaaagreatdoor", sum := "6bef4f62a82c5b3cb7e810bd6970415e63a7d230b678d867148f0cdd77882839", func := "coresec/coreseclaw02.WellformFixed", spec := "wellformFixed", inPlace := ["math.Float64frombits", "math.Float64bits", "math.Float32frombits", "math.Float32bits", "internal/bytealg.Compare"], unfollowed := true, recurses := true, named := ["unicode/utf8.first", "unicode/utf8.acceptRanges"], apart := false, laid := [("unicode/utf8.acceptRanges", laid_unicode_utf8_acceptRanges), ("unicode/utf8.first", laid_unicode_utf8_first)], narrowed := true }
def WellformFixedUptoSaid : Prop := wellformFixedUptoRow.holds Tryz.pinned (OpenSpec.upto wellformFixedSpec)

end Rows
end Go.Proofs.YtelefkkkccilaaaGreatDoor
