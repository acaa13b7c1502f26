/-
  DERIVED. GIVEN WITH THE SEED: THE CARDS: each row of YthlhbbejcmbpoaaDoorRows.lean that lists a variable, with what it lists TIED to the program's text (the seventh form; the later family's looks); each row that meets fmt, with fmt's text TOLD by the authors' own Lean function (tested against real Go, not proved from fmt's source: count such statements apart). THE CARD IS WHAT COUNTS. Prove the row's statement (the work); the ties are given (YthlhbbejcmbpoaaDoorTie.lean); close each card by the builder's one call (the guide's Derived/Test/ToyasCard.lean, 'card_holds'). Laid BY PROGRAM, IN A SANDBOX (cutbox-door.mjs). By AI agents, Wed Nov 11 2026. No macro, syntax, notation, axiom, sorry.
-/
import Derived.Test.YthlhbbejcmbpoaaDoorRows
import GoSem.ClaimSeven
namespace Go.Proofs.YthlhbbejcmbpoaaDoor
namespace Rows

/-- THE TIED CARD OF 'manifoldlaw03.CharsetOrders'. -/
def charsetOrdersCard : Claim7 := { stood := { row := charsetOrdersRow, standIns := [], harness := (true, "274ec0357582e92e4139ca8d442bac3166c0b578d642f384fc6b6dd49a489ff7"), looks := false }, kinds := [], alts := [], laidByText := true, laidKinds := [.data, .pinned], laidTests := true, laidLooks := .later }
def CharsetOrdersCardSaid : Prop := Claim7.holds Tryd.pinned (.plain (OpenSpec.ofChange charsetOrdersSpec)) charsetOrdersCard

/-- THE TIED CARD OF 'manifoldlaw03.CharsetDecodes'. -/
def charsetDecodesCard : Claim7 := { stood := { row := charsetDecodesRow, standIns := [], harness := (true, "274ec0357582e92e4139ca8d442bac3166c0b578d642f384fc6b6dd49a489ff7"), looks := false }, kinds := [], alts := [], laidByText := true, laidKinds := [.data, .pinned], laidTests := true, laidLooks := .later }
def CharsetDecodesCardSaid : Prop := Claim7.holds Tryd.pinned (.plain (OpenSpec.ofChange charsetDecodesSpec)) charsetDecodesCard

/-- THE TIED CARD OF 'manifoldlaw03.CharsetASCII'. -/
def charsetASCIICard : Claim7 := { stood := { row := charsetASCIIRow, standIns := [], harness := (true, "274ec0357582e92e4139ca8d442bac3166c0b578d642f384fc6b6dd49a489ff7"), looks := false }, kinds := [], alts := [], laidByText := true, laidKinds := [.data, .pinned], laidTests := true, laidLooks := .later }
def CharsetASCIICardSaid : Prop := Claim7.holds Tryd.pinned (.plain (OpenSpec.ofChange charsetASCIISpec)) charsetASCIICard

/-- THE TIED CARD OF 'manifoldlaw03.CharsetEncodes'. -/
def charsetEncodesCard : Claim7 := { stood := { row := charsetEncodesRow, standIns := [], harness := (true, "274ec0357582e92e4139ca8d442bac3166c0b578d642f384fc6b6dd49a489ff7"), looks := false }, kinds := [], alts := [], laidByText := true, laidKinds := [.data, .pinned], laidTests := true, laidLooks := .later }
def CharsetEncodesCardSaid : Prop := Claim7.holds Tryd.pinned (.plain (OpenSpec.ofChange charsetEncodesSpec)) charsetEncodesCard

/-- THE TIED CARD OF 'manifoldlaw03.CharsetNames'. -/
def charsetNamesCard : Claim7 := { stood := { row := charsetNamesRow, standIns := [], harness := (true, "274ec0357582e92e4139ca8d442bac3166c0b578d642f384fc6b6dd49a489ff7"), looks := false }, kinds := [], alts := [], laidByText := true, laidKinds := [.data, .pinned], laidTests := true, laidLooks := .later }
def CharsetNamesCardSaid : Prop := Claim7.holds Tryd.pinned (.plain (OpenSpec.ofChange charsetNamesSpec)) charsetNamesCard

/-- THE TIED CARD OF 'manifoldlaw03.CharsetValid'. -/
def charsetValidCard : Claim7 := { stood := { row := charsetValidRow, standIns := [], harness := (true, "274ec0357582e92e4139ca8d442bac3166c0b578d642f384fc6b6dd49a489ff7"), looks := false }, kinds := [], alts := [], laidByText := true, laidKinds := [.data, .pinned], laidTests := true, laidLooks := .later }
def CharsetValidCardSaid : Prop := Claim7.holds Tryd.pinned (.plain (OpenSpec.ofChange charsetValidSpec)) charsetValidCard

/-- THE TIED CARD OF 'manifoldlaw03.CharsetCuts'. -/
def charsetCutsCard : Claim7 := { stood := { row := charsetCutsRow, standIns := [], harness := (true, "274ec0357582e92e4139ca8d442bac3166c0b578d642f384fc6b6dd49a489ff7"), looks := false }, kinds := [], alts := [], laidByText := true, laidKinds := [.data, .pinned], laidTests := true, laidLooks := .later }
def CharsetCutsCardSaid : Prop := Claim7.holds Tryd.pinned (.plain (OpenSpec.ofChange charsetCutsSpec)) charsetCutsCard

/-- THE TIED CARD OF 'manifoldlaw03.CharsetCases'. -/
def charsetCasesCard : Claim7 := { stood := { row := charsetCasesRow, standIns := [], harness := (true, "274ec0357582e92e4139ca8d442bac3166c0b578d642f384fc6b6dd49a489ff7"), looks := false }, kinds := [], alts := [], laidByText := true, laidKinds := [.data, .pinned], laidTests := true, laidLooks := .later }
def CharsetCasesCardSaid : Prop := Claim7.holds Tryd.pinned (.plain (OpenSpec.ofChange charsetCasesSpec)) charsetCasesCard

/-- THE TIED CARD OF 'manifoldlaw03.CharsetTexts'. -/
def charsetTextsCard : Claim7 := { stood := { row := charsetTextsRow, standIns := [], harness := (true, "274ec0357582e92e4139ca8d442bac3166c0b578d642f384fc6b6dd49a489ff7"), looks := false }, kinds := [], alts := [], laidByText := true, laidKinds := [.data, .pinned], laidTests := true, laidLooks := .later }
def CharsetTextsCardSaid : Prop := Claim7.holds Tryd.pinned (.plain (OpenSpec.ofChange charsetTextsSpec)) charsetTextsCard

/-- THE TIED CARD OF 'manifoldlaw03.CharsetLatin'. -/
def charsetLatinCard : Claim7 := { stood := { row := charsetLatinRow, standIns := [], harness := (true, "274ec0357582e92e4139ca8d442bac3166c0b578d642f384fc6b6dd49a489ff7"), looks := false }, kinds := [], alts := [], laidByText := true, laidKinds := [.data, .pinned], laidTests := true, laidLooks := .later }
def CharsetLatinCardSaid : Prop := Claim7.holds Tryd.pinned (.plain (OpenSpec.ofChange charsetLatinSpec)) charsetLatinCard

/-- THE TIED CARD OF 'manifoldlaw03.CharsetPoints'. -/
def charsetPointsCard : Claim7 := { stood := { row := charsetPointsRow, standIns := [], harness := (true, "274ec0357582e92e4139ca8d442bac3166c0b578d642f384fc6b6dd49a489ff7"), looks := false }, kinds := [], alts := [], laidByText := true, laidKinds := [.data, .pinned], laidTests := true, laidLooks := .later }
def CharsetPointsCardSaid : Prop := Claim7.holds Tryd.pinned (.plain (OpenSpec.ofChange charsetPointsSpec)) charsetPointsCard

/-- THE SECOND FORM's CARD OF 'manifoldlaw03.CharsetOrders'. -/
def charsetOrdersUptoCard : Claim7 := { stood := { row := charsetOrdersUptoRow, standIns := [], harness := (true, "274ec0357582e92e4139ca8d442bac3166c0b578d642f384fc6b6dd49a489ff7"), looks := false }, kinds := [], alts := [], laidByText := true, laidKinds := [.data, .pinned], laidTests := true, laidLooks := .later }
def CharsetOrdersUptoCardSaid : Prop := Claim7.holds Tryd.pinned (.plain (OpenSpec.upto charsetOrdersSpec)) charsetOrdersUptoCard

/-- THE SECOND FORM's CARD OF 'manifoldlaw03.CharsetDecodes'. -/
def charsetDecodesUptoCard : Claim7 := { stood := { row := charsetDecodesUptoRow, standIns := [], harness := (true, "274ec0357582e92e4139ca8d442bac3166c0b578d642f384fc6b6dd49a489ff7"), looks := false }, kinds := [], alts := [], laidByText := true, laidKinds := [.data, .pinned], laidTests := true, laidLooks := .later }
def CharsetDecodesUptoCardSaid : Prop := Claim7.holds Tryd.pinned (.plain (OpenSpec.upto charsetDecodesSpec)) charsetDecodesUptoCard

/-- THE SECOND FORM's CARD OF 'manifoldlaw03.CharsetASCII'. -/
def charsetASCIIUptoCard : Claim7 := { stood := { row := charsetASCIIUptoRow, standIns := [], harness := (true, "274ec0357582e92e4139ca8d442bac3166c0b578d642f384fc6b6dd49a489ff7"), looks := false }, kinds := [], alts := [], laidByText := true, laidKinds := [.data, .pinned], laidTests := true, laidLooks := .later }
def CharsetASCIIUptoCardSaid : Prop := Claim7.holds Tryd.pinned (.plain (OpenSpec.upto charsetASCIISpec)) charsetASCIIUptoCard

/-- THE SECOND FORM's CARD OF 'manifoldlaw03.CharsetEncodes'. -/
def charsetEncodesUptoCard : Claim7 := { stood := { row := charsetEncodesUptoRow, standIns := [], harness := (true, "274ec0357582e92e4139ca8d442bac3166c0b578d642f384fc6b6dd49a489ff7"), looks := false }, kinds := [], alts := [], laidByText := true, laidKinds := [.data, .pinned], laidTests := true, laidLooks := .later }
def CharsetEncodesUptoCardSaid : Prop := Claim7.holds Tryd.pinned (.plain (OpenSpec.upto charsetEncodesSpec)) charsetEncodesUptoCard

/-- THE SECOND FORM's CARD OF 'manifoldlaw03.CharsetNames'. -/
def charsetNamesUptoCard : Claim7 := { stood := { row := charsetNamesUptoRow, standIns := [], harness := (true, "274ec0357582e92e4139ca8d442bac3166c0b578d642f384fc6b6dd49a489ff7"), looks := false }, kinds := [], alts := [], laidByText := true, laidKinds := [.data, .pinned], laidTests := true, laidLooks := .later }
def CharsetNamesUptoCardSaid : Prop := Claim7.holds Tryd.pinned (.plain (OpenSpec.upto charsetNamesSpec)) charsetNamesUptoCard

/-- THE SECOND FORM's CARD OF 'manifoldlaw03.CharsetValid'. -/
def charsetValidUptoCard : Claim7 := { stood := { row := charsetValidUptoRow, standIns := [], harness := (true, "274ec0357582e92e4139ca8d442bac3166c0b578d642f384fc6b6dd49a489ff7"), looks := false }, kinds := [], alts := [], laidByText := true, laidKinds := [.data, .pinned], laidTests := true, laidLooks := .later }
def CharsetValidUptoCardSaid : Prop := Claim7.holds Tryd.pinned (.plain (OpenSpec.upto charsetValidSpec)) charsetValidUptoCard

/-- THE SECOND FORM's CARD OF 'manifoldlaw03.CharsetCuts'. -/
def charsetCutsUptoCard : Claim7 := { stood := { row := charsetCutsUptoRow, standIns := [], harness := (true, "274ec0357582e92e4139ca8d442bac3166c0b578d642f384fc6b6dd49a489ff7"), looks := false }, kinds := [], alts := [], laidByText := true, laidKinds := [.data, .pinned], laidTests := true, laidLooks := .later }
def CharsetCutsUptoCardSaid : Prop := Claim7.holds Tryd.pinned (.plain (OpenSpec.upto charsetCutsSpec)) charsetCutsUptoCard

/-- THE SECOND FORM's CARD OF 'manifoldlaw03.CharsetCases'. -/
def charsetCasesUptoCard : Claim7 := { stood := { row := charsetCasesUptoRow, standIns := [], harness := (true, "274ec0357582e92e4139ca8d442bac3166c0b578d642f384fc6b6dd49a489ff7"), looks := false }, kinds := [], alts := [], laidByText := true, laidKinds := [.data, .pinned], laidTests := true, laidLooks := .later }
def CharsetCasesUptoCardSaid : Prop := Claim7.holds Tryd.pinned (.plain (OpenSpec.upto charsetCasesSpec)) charsetCasesUptoCard

/-- THE SECOND FORM's CARD OF 'manifoldlaw03.CharsetTexts'. -/
def charsetTextsUptoCard : Claim7 := { stood := { row := charsetTextsUptoRow, standIns := [], harness := (true, "274ec0357582e92e4139ca8d442bac3166c0b578d642f384fc6b6dd49a489ff7"), looks := false }, kinds := [], alts := [], laidByText := true, laidKinds := [.data, .pinned], laidTests := true, laidLooks := .later }
def CharsetTextsUptoCardSaid : Prop := Claim7.holds Tryd.pinned (.plain (OpenSpec.upto charsetTextsSpec)) charsetTextsUptoCard

/-- THE SECOND FORM's CARD OF 'manifoldlaw03.CharsetLatin'. -/
def charsetLatinUptoCard : Claim7 := { stood := { row := charsetLatinUptoRow, standIns := [], harness := (true, "274ec0357582e92e4139ca8d442bac3166c0b578d642f384fc6b6dd49a489ff7"), looks := false }, kinds := [], alts := [], laidByText := true, laidKinds := [.data, .pinned], laidTests := true, laidLooks := .later }
def CharsetLatinUptoCardSaid : Prop := Claim7.holds Tryd.pinned (.plain (OpenSpec.upto charsetLatinSpec)) charsetLatinUptoCard

/-- THE SECOND FORM's CARD OF 'manifoldlaw03.CharsetPoints'. -/
def charsetPointsUptoCard : Claim7 := { stood := { row := charsetPointsUptoRow, standIns := [], harness := (true, "274ec0357582e92e4139ca8d442bac3166c0b578d642f384fc6b6dd49a489ff7"), looks := false }, kinds := [], alts := [], laidByText := true, laidKinds := [.data, .pinned], laidTests := true, laidLooks := .later }
def CharsetPointsUptoCardSaid : Prop := Claim7.holds Tryd.pinned (.plain (OpenSpec.upto charsetPointsSpec)) charsetPointsUptoCard
end Rows
end Go.Proofs.YthlhbbejcmbpoaaDoor
