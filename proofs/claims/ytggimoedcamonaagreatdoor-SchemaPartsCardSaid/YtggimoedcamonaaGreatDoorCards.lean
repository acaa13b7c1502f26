/-
  DERIVED. GIVEN WITH THE SEED: THE CARDS: each row of YtggimoedcamonaaGreatDoorRows.lean that lists a variable, with what it lists TIED to the program's text (the seventh form; the later family's looks); each row that meets fmt, with fmt's text TOLD by the authors' own Lean function (tested against real Go, not proved from fmt's source: count such statements apart). THE CARD IS WHAT COUNTS. Prove the row's statement (the work); the ties are given (YtggimoedcamonaaGreatDoorTie.lean); close each card by the builder's one call (the guide's Derived/Test/ToyasCard.lean, 'card_holds'). Laid BY PROGRAM, IN A SANDBOX (cutbox-door.mjs). By AI agents, Wed Nov 11 2026. No macro, syntax, notation, axiom, sorry.
-/
import Derived.Test.YtggimoedcamonaaGreatDoorRows
import GoSem.ClaimSeven
namespace Go.Proofs.YtggimoedcamonaaGreatDoor
namespace Rows

/-- THE TIED CARD OF 'manifoldlaw06.SchemaChecks'. -/
def schemaChecksCard : Claim7 := { stood := { row := schemaChecksRow, standIns := [], harness := (true, "fcc1e7a57a9ce17606b8959cd2b5942f9c281f0752ea4614b237ba76011cbc81"), looks := false }, kinds := [], alts := [], laidByText := true, laidKinds := [.data, .data, .data, .data, .pinned], laidTests := true, laidLooks := .later }
def SchemaChecksCardSaid : Prop := Claim7.holds Tryz.pinned (.plain (OpenSpec.ofChange schemaChecksSpec)) schemaChecksCard

/-- THE TIED CARD OF 'manifoldlaw06.SchemaAccepts'. -/
def schemaAcceptsCard : Claim7 := { stood := { row := schemaAcceptsRow, standIns := [], harness := (true, "fcc1e7a57a9ce17606b8959cd2b5942f9c281f0752ea4614b237ba76011cbc81"), looks := false }, kinds := [], alts := [], laidByText := true, laidKinds := [.data, .data, .data, .data, .pinned], laidTests := true, laidLooks := .later }
def SchemaAcceptsCardSaid : Prop := Claim7.holds Tryz.pinned (.plain (OpenSpec.ofChange schemaAcceptsSpec)) schemaAcceptsCard

/-- THE TIED CARD OF 'manifoldlaw06.SchemaLeast'. -/
def schemaLeastCard : Claim7 := { stood := { row := schemaLeastRow, standIns := [], harness := (true, "fcc1e7a57a9ce17606b8959cd2b5942f9c281f0752ea4614b237ba76011cbc81"), looks := false }, kinds := [], alts := [], laidByText := true, laidKinds := [.data, .data, .data, .data, .pinned], laidTests := true, laidLooks := .later }
def SchemaLeastCardSaid : Prop := Claim7.holds Tryz.pinned (.plain (OpenSpec.ofChange schemaLeastSpec)) schemaLeastCard

/-- THE TIED CARD OF 'manifoldlaw06.SchemaAt'. -/
def schemaAtCard : Claim7 := { stood := { row := schemaAtRow, standIns := [], harness := (true, "fcc1e7a57a9ce17606b8959cd2b5942f9c281f0752ea4614b237ba76011cbc81"), looks := false }, kinds := [], alts := [], laidByText := true, laidKinds := [.data, .data, .data, .data, .pinned], laidTests := true, laidLooks := .later }
def SchemaAtCardSaid : Prop := Claim7.holds Tryz.pinned (.plain (OpenSpec.ofChange schemaAtSpec)) schemaAtCard

/-- THE TIED CARD OF 'manifoldlaw06.SchemaFields'. -/
def schemaFieldsCard : Claim7 := { stood := { row := schemaFieldsRow, standIns := [], harness := (true, "fcc1e7a57a9ce17606b8959cd2b5942f9c281f0752ea4614b237ba76011cbc81"), looks := false }, kinds := [], alts := [], laidByText := true, laidKinds := [.data, .data, .data, .data, .pinned], laidTests := true, laidLooks := .later }
def SchemaFieldsCardSaid : Prop := Claim7.holds Tryz.pinned (.plain (OpenSpec.ofChange schemaFieldsSpec)) schemaFieldsCard

/-- THE TIED CARD OF 'manifoldlaw06.SchemaSchemas'. -/
def schemaSchemasCard : Claim7 := { stood := { row := schemaSchemasRow, standIns := [], harness := (true, "fcc1e7a57a9ce17606b8959cd2b5942f9c281f0752ea4614b237ba76011cbc81"), looks := false }, kinds := [], alts := [], laidByText := true, laidKinds := [.data, .data, .data, .data, .pinned], laidTests := true, laidLooks := .later }
def SchemaSchemasCardSaid : Prop := Claim7.holds Tryz.pinned (.plain (OpenSpec.ofChange schemaSchemasSpec)) schemaSchemasCard

/-- THE TIED CARD OF 'manifoldlaw06.SchemaKinds'. -/
def schemaKindsCard : Claim7 := { stood := { row := schemaKindsRow, standIns := [], harness := (true, "fcc1e7a57a9ce17606b8959cd2b5942f9c281f0752ea4614b237ba76011cbc81"), looks := false }, kinds := [], alts := [], laidByText := true, laidKinds := [.data, .data, .data, .data, .pinned], laidTests := true, laidLooks := .later }
def SchemaKindsCardSaid : Prop := Claim7.holds Tryz.pinned (.plain (OpenSpec.ofChange schemaKindsSpec)) schemaKindsCard

/-- THE TIED CARD OF 'manifoldlaw06.SchemaLeaves'. -/
def schemaLeavesCard : Claim7 := { stood := { row := schemaLeavesRow, standIns := [], harness := (true, "fcc1e7a57a9ce17606b8959cd2b5942f9c281f0752ea4614b237ba76011cbc81"), looks := false }, kinds := [], alts := [], laidByText := true, laidKinds := [.data, .data, .data, .data, .pinned], laidTests := true, laidLooks := .later }
def SchemaLeavesCardSaid : Prop := Claim7.holds Tryz.pinned (.plain (OpenSpec.ofChange schemaLeavesSpec)) schemaLeavesCard

/-- THE TIED CARD OF 'manifoldlaw06.SchemaParts'. -/
def schemaPartsCard : Claim7 := { stood := { row := schemaPartsRow, standIns := [], harness := (true, "fcc1e7a57a9ce17606b8959cd2b5942f9c281f0752ea4614b237ba76011cbc81"), looks := false }, kinds := [], alts := [], laidByText := true, laidKinds := [.data, .data, .data, .data, .pinned], laidTests := true, laidLooks := .later }
def SchemaPartsCardSaid : Prop := Claim7.holds Tryz.pinned (.plain (OpenSpec.ofChange schemaPartsSpec)) schemaPartsCard

/-- THE TIED CARD OF 'manifoldlaw06.SchemaEquals'. -/
def schemaEqualsCard : Claim7 := { stood := { row := schemaEqualsRow, standIns := [], harness := (true, "fcc1e7a57a9ce17606b8959cd2b5942f9c281f0752ea4614b237ba76011cbc81"), looks := false }, kinds := [], alts := [], laidByText := true, laidKinds := [.data, .data, .data, .data, .pinned], laidTests := true, laidLooks := .later }
def SchemaEqualsCardSaid : Prop := Claim7.holds Tryz.pinned (.plain (OpenSpec.ofChange schemaEqualsSpec)) schemaEqualsCard

/-- THE TIED CARD OF 'manifoldlaw06.SchemaValues'. -/
def schemaValuesCard : Claim7 := { stood := { row := schemaValuesRow, standIns := [], harness := (true, "fcc1e7a57a9ce17606b8959cd2b5942f9c281f0752ea4614b237ba76011cbc81"), looks := false }, kinds := [], alts := [], laidByText := true, laidKinds := [.data, .data, .data, .data, .pinned], laidTests := true, laidLooks := .later }
def SchemaValuesCardSaid : Prop := Claim7.holds Tryz.pinned (.plain (OpenSpec.ofChange schemaValuesSpec)) schemaValuesCard

/-- THE SECOND FORM's CARD OF 'manifoldlaw06.SchemaChecks'. -/
def schemaChecksUptoCard : Claim7 := { stood := { row := schemaChecksUptoRow, standIns := [], harness := (true, "fcc1e7a57a9ce17606b8959cd2b5942f9c281f0752ea4614b237ba76011cbc81"), looks := false }, kinds := [], alts := [], laidByText := true, laidKinds := [.data, .data, .data, .data, .pinned], laidTests := true, laidLooks := .later }
def SchemaChecksUptoCardSaid : Prop := Claim7.holds Tryz.pinned (.plain (OpenSpec.upto schemaChecksSpec)) schemaChecksUptoCard

/-- THE SECOND FORM's CARD OF 'manifoldlaw06.SchemaAccepts'. -/
def schemaAcceptsUptoCard : Claim7 := { stood := { row := schemaAcceptsUptoRow, standIns := [], harness := (true, "fcc1e7a57a9ce17606b8959cd2b5942f9c281f0752ea4614b237ba76011cbc81"), looks := false }, kinds := [], alts := [], laidByText := true, laidKinds := [.data, .data, .data, .data, .pinned], laidTests := true, laidLooks := .later }
def SchemaAcceptsUptoCardSaid : Prop := Claim7.holds Tryz.pinned (.plain (OpenSpec.upto schemaAcceptsSpec)) schemaAcceptsUptoCard

/-- THE SECOND FORM's CARD OF 'manifoldlaw06.SchemaLeast'. -/
def schemaLeastUptoCard : Claim7 := { stood := { row := schemaLeastUptoRow, standIns := [], harness := (true, "fcc1e7a57a9ce17606b8959cd2b5942f9c281f0752ea4614b237ba76011cbc81"), looks := false }, kinds := [], alts := [], laidByText := true, laidKinds := [.data, .data, .data, .data, .pinned], laidTests := true, laidLooks := .later }
def SchemaLeastUptoCardSaid : Prop := Claim7.holds Tryz.pinned (.plain (OpenSpec.upto schemaLeastSpec)) schemaLeastUptoCard

/-- THE SECOND FORM's CARD OF 'manifoldlaw06.SchemaAt'. -/
def schemaAtUptoCard : Claim7 := { stood := { row := schemaAtUptoRow, standIns := [], harness := (true, "fcc1e7a57a9ce17606b8959cd2b5942f9c281f0752ea4614b237ba76011cbc81"), looks := false }, kinds := [], alts := [], laidByText := true, laidKinds := [.data, .data, .data, .data, .pinned], laidTests := true, laidLooks := .later }
def SchemaAtUptoCardSaid : Prop := Claim7.holds Tryz.pinned (.plain (OpenSpec.upto schemaAtSpec)) schemaAtUptoCard

/-- THE SECOND FORM's CARD OF 'manifoldlaw06.SchemaFields'. -/
def schemaFieldsUptoCard : Claim7 := { stood := { row := schemaFieldsUptoRow, standIns := [], harness := (true, "fcc1e7a57a9ce17606b8959cd2b5942f9c281f0752ea4614b237ba76011cbc81"), looks := false }, kinds := [], alts := [], laidByText := true, laidKinds := [.data, .data, .data, .data, .pinned], laidTests := true, laidLooks := .later }
def SchemaFieldsUptoCardSaid : Prop := Claim7.holds Tryz.pinned (.plain (OpenSpec.upto schemaFieldsSpec)) schemaFieldsUptoCard

/-- THE SECOND FORM's CARD OF 'manifoldlaw06.SchemaSchemas'. -/
def schemaSchemasUptoCard : Claim7 := { stood := { row := schemaSchemasUptoRow, standIns := [], harness := (true, "fcc1e7a57a9ce17606b8959cd2b5942f9c281f0752ea4614b237ba76011cbc81"), looks := false }, kinds := [], alts := [], laidByText := true, laidKinds := [.data, .data, .data, .data, .pinned], laidTests := true, laidLooks := .later }
def SchemaSchemasUptoCardSaid : Prop := Claim7.holds Tryz.pinned (.plain (OpenSpec.upto schemaSchemasSpec)) schemaSchemasUptoCard

/-- THE SECOND FORM's CARD OF 'manifoldlaw06.SchemaKinds'. -/
def schemaKindsUptoCard : Claim7 := { stood := { row := schemaKindsUptoRow, standIns := [], harness := (true, "fcc1e7a57a9ce17606b8959cd2b5942f9c281f0752ea4614b237ba76011cbc81"), looks := false }, kinds := [], alts := [], laidByText := true, laidKinds := [.data, .data, .data, .data, .pinned], laidTests := true, laidLooks := .later }
def SchemaKindsUptoCardSaid : Prop := Claim7.holds Tryz.pinned (.plain (OpenSpec.upto schemaKindsSpec)) schemaKindsUptoCard

/-- THE SECOND FORM's CARD OF 'manifoldlaw06.SchemaLeaves'. -/
def schemaLeavesUptoCard : Claim7 := { stood := { row := schemaLeavesUptoRow, standIns := [], harness := (true, "fcc1e7a57a9ce17606b8959cd2b5942f9c281f0752ea4614b237ba76011cbc81"), looks := false }, kinds := [], alts := [], laidByText := true, laidKinds := [.data, .data, .data, .data, .pinned], laidTests := true, laidLooks := .later }
def SchemaLeavesUptoCardSaid : Prop := Claim7.holds Tryz.pinned (.plain (OpenSpec.upto schemaLeavesSpec)) schemaLeavesUptoCard

/-- THE SECOND FORM's CARD OF 'manifoldlaw06.SchemaParts'. -/
def schemaPartsUptoCard : Claim7 := { stood := { row := schemaPartsUptoRow, standIns := [], harness := (true, "fcc1e7a57a9ce17606b8959cd2b5942f9c281f0752ea4614b237ba76011cbc81"), looks := false }, kinds := [], alts := [], laidByText := true, laidKinds := [.data, .data, .data, .data, .pinned], laidTests := true, laidLooks := .later }
def SchemaPartsUptoCardSaid : Prop := Claim7.holds Tryz.pinned (.plain (OpenSpec.upto schemaPartsSpec)) schemaPartsUptoCard

/-- THE SECOND FORM's CARD OF 'manifoldlaw06.SchemaEquals'. -/
def schemaEqualsUptoCard : Claim7 := { stood := { row := schemaEqualsUptoRow, standIns := [], harness := (true, "fcc1e7a57a9ce17606b8959cd2b5942f9c281f0752ea4614b237ba76011cbc81"), looks := false }, kinds := [], alts := [], laidByText := true, laidKinds := [.data, .data, .data, .data, .pinned], laidTests := true, laidLooks := .later }
def SchemaEqualsUptoCardSaid : Prop := Claim7.holds Tryz.pinned (.plain (OpenSpec.upto schemaEqualsSpec)) schemaEqualsUptoCard

/-- THE SECOND FORM's CARD OF 'manifoldlaw06.SchemaValues'. -/
def schemaValuesUptoCard : Claim7 := { stood := { row := schemaValuesUptoRow, standIns := [], harness := (true, "fcc1e7a57a9ce17606b8959cd2b5942f9c281f0752ea4614b237ba76011cbc81"), looks := false }, kinds := [], alts := [], laidByText := true, laidKinds := [.data, .data, .data, .data, .pinned], laidTests := true, laidLooks := .later }
def SchemaValuesUptoCardSaid : Prop := Claim7.holds Tryz.pinned (.plain (OpenSpec.upto schemaValuesSpec)) schemaValuesUptoCard
end Rows
end Go.Proofs.YtggimoedcamonaaGreatDoor
