/-
  DERIVED. GIVEN WITH THE SEED: THE CARDS: each row of YtgpmlelfkjfbiaaGreatDoorRows.lean that lists a variable, with what it lists TIED to the program's text (the seventh form; the later family's looks); each row that meets fmt, with fmt's text TOLD by the authors' own Lean function (tested against real Go, not proved from fmt's source: count such statements apart). THE CARD IS WHAT COUNTS. Prove the row's statement (the work); the ties are given (YtgpmlelfkjfbiaaGreatDoorTie.lean); close each card by the builder's one call (the guide's Derived/Test/ToyasCard.lean, 'card_holds'). Laid BY PROGRAM, IN A SANDBOX (cutbox-door.mjs). By AI agents, Wed Nov 11 2026. No macro, syntax, notation, axiom, sorry.
-/
import Derived.Test.YtgpmlelfkjfbiaaGreatDoorRows
import GoSem.ClaimSeven
namespace Go.Proofs.YtgpmlelfkjfbiaaGreatDoor
namespace Rows

/-- THE TIED CARD OF 'manifoldlaw06.SchemaLeaves'. -/
def schemaLeavesCard : Claim7 := { stood := { row := schemaLeavesRow, standIns := [], harness := (true, "37a42c920d6d7596348e1e82ca36b8ad254bc356121fcf374ffa51fbd96ea4b8"), looks := false }, kinds := [], alts := [], laidByText := true, laidKinds := [.data, .data, .data, .data, .pinned], laidTests := true, laidLooks := .later }
def SchemaLeavesCardSaid : Prop := Claim7.holds Tryz.pinned (.plain (OpenSpec.ofChange schemaLeavesSpec)) schemaLeavesCard

/-- THE TIED CARD OF 'manifoldlaw06.SchemaValues'. -/
def schemaValuesCard : Claim7 := { stood := { row := schemaValuesRow, standIns := [], harness := (true, "37a42c920d6d7596348e1e82ca36b8ad254bc356121fcf374ffa51fbd96ea4b8"), looks := false }, kinds := [], alts := [], laidByText := true, laidKinds := [.data, .data, .data, .data, .pinned], laidTests := true, laidLooks := .later }
def SchemaValuesCardSaid : Prop := Claim7.holds Tryz.pinned (.plain (OpenSpec.ofChange schemaValuesSpec)) schemaValuesCard

/-- THE TIED CARD OF 'manifoldlaw09.EvolveUpgrades'. -/
def evolveUpgradesCard : Claim7 := { stood := { row := evolveUpgradesRow, standIns := [], harness := (true, "37a42c920d6d7596348e1e82ca36b8ad254bc356121fcf374ffa51fbd96ea4b8"), looks := false }, kinds := [], alts := [], laidByText := true, laidKinds := [.data, .data, .data, .data, .pinned], laidTests := true, laidLooks := .later }
def EvolveUpgradesCardSaid : Prop := Claim7.holds Tryz.pinned (.plain (OpenSpec.ofChange evolveUpgradesSpec)) evolveUpgradesCard

/-- THE TIED CARD OF 'manifoldlaw09.EvolveNames'. -/
def evolveNamesCard : Claim7 := { stood := { row := evolveNamesRow, standIns := [], harness := (true, "37a42c920d6d7596348e1e82ca36b8ad254bc356121fcf374ffa51fbd96ea4b8"), looks := false }, kinds := [], alts := [], laidByText := true, laidKinds := [.data, .data, .data, .data, .pinned], laidTests := true, laidLooks := .later }
def EvolveNamesCardSaid : Prop := Claim7.holds Tryz.pinned (.plain (OpenSpec.ofChange evolveNamesSpec)) evolveNamesCard

/-- THE TIED CARD OF 'manifoldlaw09.EvolveCompatible'. -/
def evolveCompatibleCard : Claim7 := { stood := { row := evolveCompatibleRow, standIns := [], harness := (true, "37a42c920d6d7596348e1e82ca36b8ad254bc356121fcf374ffa51fbd96ea4b8"), looks := false }, kinds := [], alts := [], laidByText := true, laidKinds := [.data, .data, .data, .data, .pinned], laidTests := true, laidLooks := .later }
def EvolveCompatibleCardSaid : Prop := Claim7.holds Tryz.pinned (.plain (OpenSpec.ofChange evolveCompatibleSpec)) evolveCompatibleCard

/-- THE TIED CARD OF 'manifoldlaw09.EvolveLossless'. -/
def evolveLosslessCard : Claim7 := { stood := { row := evolveLosslessRow, standIns := [], harness := (true, "37a42c920d6d7596348e1e82ca36b8ad254bc356121fcf374ffa51fbd96ea4b8"), looks := false }, kinds := [], alts := [], laidByText := true, laidKinds := [.data, .data, .data, .data, .pinned], laidTests := true, laidLooks := .later }
def EvolveLosslessCardSaid : Prop := Claim7.holds Tryz.pinned (.plain (OpenSpec.ofChange evolveLosslessSpec)) evolveLosslessCard

/-- THE TIED CARD OF 'manifoldlaw09.EvolveSame'. -/
def evolveSameCard : Claim7 := { stood := { row := evolveSameRow, standIns := [], harness := (true, "37a42c920d6d7596348e1e82ca36b8ad254bc356121fcf374ffa51fbd96ea4b8"), looks := false }, kinds := [], alts := [], laidByText := true, laidKinds := [.data, .data, .data, .data, .pinned], laidTests := true, laidLooks := .later }
def EvolveSameCardSaid : Prop := Claim7.holds Tryz.pinned (.plain (OpenSpec.ofChange evolveSameSpec)) evolveSameCard

/-- THE TIED CARD OF 'manifoldlaw09.EvolveDrops'. -/
def evolveDropsCard : Claim7 := { stood := { row := evolveDropsRow, standIns := [], harness := (true, "37a42c920d6d7596348e1e82ca36b8ad254bc356121fcf374ffa51fbd96ea4b8"), looks := false }, kinds := [], alts := [], laidByText := true, laidKinds := [.data, .data, .data, .data, .pinned], laidTests := true, laidLooks := .later }
def EvolveDropsCardSaid : Prop := Claim7.holds Tryz.pinned (.plain (OpenSpec.ofChange evolveDropsSpec)) evolveDropsCard

/-- THE TIED CARD OF 'manifoldlaw09.EvolveWitness'. -/
def evolveWitnessCard : Claim7 := { stood := { row := evolveWitnessRow, standIns := [], harness := (true, "37a42c920d6d7596348e1e82ca36b8ad254bc356121fcf374ffa51fbd96ea4b8"), looks := false }, kinds := [], alts := [], laidByText := true, laidKinds := [.data, .data, .data, .data, .pinned], laidTests := true, laidLooks := .later }
def EvolveWitnessCardSaid : Prop := Claim7.holds Tryz.pinned (.plain (OpenSpec.ofChange evolveWitnessSpec)) evolveWitnessCard

/-- THE SECOND FORM's CARD OF 'manifoldlaw06.SchemaLeaves'. -/
def schemaLeavesUptoCard : Claim7 := { stood := { row := schemaLeavesUptoRow, standIns := [], harness := (true, "37a42c920d6d7596348e1e82ca36b8ad254bc356121fcf374ffa51fbd96ea4b8"), looks := false }, kinds := [], alts := [], laidByText := true, laidKinds := [.data, .data, .data, .data, .pinned], laidTests := true, laidLooks := .later }
def SchemaLeavesUptoCardSaid : Prop := Claim7.holds Tryz.pinned (.plain (OpenSpec.upto schemaLeavesSpec)) schemaLeavesUptoCard

/-- THE SECOND FORM's CARD OF 'manifoldlaw06.SchemaValues'. -/
def schemaValuesUptoCard : Claim7 := { stood := { row := schemaValuesUptoRow, standIns := [], harness := (true, "37a42c920d6d7596348e1e82ca36b8ad254bc356121fcf374ffa51fbd96ea4b8"), looks := false }, kinds := [], alts := [], laidByText := true, laidKinds := [.data, .data, .data, .data, .pinned], laidTests := true, laidLooks := .later }
def SchemaValuesUptoCardSaid : Prop := Claim7.holds Tryz.pinned (.plain (OpenSpec.upto schemaValuesSpec)) schemaValuesUptoCard

/-- THE SECOND FORM's CARD OF 'manifoldlaw09.EvolveUpgrades'. -/
def evolveUpgradesUptoCard : Claim7 := { stood := { row := evolveUpgradesUptoRow, standIns := [], harness := (true, "37a42c920d6d7596348e1e82ca36b8ad254bc356121fcf374ffa51fbd96ea4b8"), looks := false }, kinds := [], alts := [], laidByText := true, laidKinds := [.data, .data, .data, .data, .pinned], laidTests := true, laidLooks := .later }
def EvolveUpgradesUptoCardSaid : Prop := Claim7.holds Tryz.pinned (.plain (OpenSpec.upto evolveUpgradesSpec)) evolveUpgradesUptoCard

/-- THE SECOND FORM's CARD OF 'manifoldlaw09.EvolveNames'. -/
def evolveNamesUptoCard : Claim7 := { stood := { row := evolveNamesUptoRow, standIns := [], harness := (true, "37a42c920d6d7596348e1e82ca36b8ad254bc356121fcf374ffa51fbd96ea4b8"), looks := false }, kinds := [], alts := [], laidByText := true, laidKinds := [.data, .data, .data, .data, .pinned], laidTests := true, laidLooks := .later }
def EvolveNamesUptoCardSaid : Prop := Claim7.holds Tryz.pinned (.plain (OpenSpec.upto evolveNamesSpec)) evolveNamesUptoCard

/-- THE SECOND FORM's CARD OF 'manifoldlaw09.EvolveCompatible'. -/
def evolveCompatibleUptoCard : Claim7 := { stood := { row := evolveCompatibleUptoRow, standIns := [], harness := (true, "37a42c920d6d7596348e1e82ca36b8ad254bc356121fcf374ffa51fbd96ea4b8"), looks := false }, kinds := [], alts := [], laidByText := true, laidKinds := [.data, .data, .data, .data, .pinned], laidTests := true, laidLooks := .later }
def EvolveCompatibleUptoCardSaid : Prop := Claim7.holds Tryz.pinned (.plain (OpenSpec.upto evolveCompatibleSpec)) evolveCompatibleUptoCard

/-- THE SECOND FORM's CARD OF 'manifoldlaw09.EvolveLossless'. -/
def evolveLosslessUptoCard : Claim7 := { stood := { row := evolveLosslessUptoRow, standIns := [], harness := (true, "37a42c920d6d7596348e1e82ca36b8ad254bc356121fcf374ffa51fbd96ea4b8"), looks := false }, kinds := [], alts := [], laidByText := true, laidKinds := [.data, .data, .data, .data, .pinned], laidTests := true, laidLooks := .later }
def EvolveLosslessUptoCardSaid : Prop := Claim7.holds Tryz.pinned (.plain (OpenSpec.upto evolveLosslessSpec)) evolveLosslessUptoCard

/-- THE SECOND FORM's CARD OF 'manifoldlaw09.EvolveSame'. -/
def evolveSameUptoCard : Claim7 := { stood := { row := evolveSameUptoRow, standIns := [], harness := (true, "37a42c920d6d7596348e1e82ca36b8ad254bc356121fcf374ffa51fbd96ea4b8"), looks := false }, kinds := [], alts := [], laidByText := true, laidKinds := [.data, .data, .data, .data, .pinned], laidTests := true, laidLooks := .later }
def EvolveSameUptoCardSaid : Prop := Claim7.holds Tryz.pinned (.plain (OpenSpec.upto evolveSameSpec)) evolveSameUptoCard

/-- THE SECOND FORM's CARD OF 'manifoldlaw09.EvolveDrops'. -/
def evolveDropsUptoCard : Claim7 := { stood := { row := evolveDropsUptoRow, standIns := [], harness := (true, "37a42c920d6d7596348e1e82ca36b8ad254bc356121fcf374ffa51fbd96ea4b8"), looks := false }, kinds := [], alts := [], laidByText := true, laidKinds := [.data, .data, .data, .data, .pinned], laidTests := true, laidLooks := .later }
def EvolveDropsUptoCardSaid : Prop := Claim7.holds Tryz.pinned (.plain (OpenSpec.upto evolveDropsSpec)) evolveDropsUptoCard

/-- THE SECOND FORM's CARD OF 'manifoldlaw09.EvolveWitness'. -/
def evolveWitnessUptoCard : Claim7 := { stood := { row := evolveWitnessUptoRow, standIns := [], harness := (true, "37a42c920d6d7596348e1e82ca36b8ad254bc356121fcf374ffa51fbd96ea4b8"), looks := false }, kinds := [], alts := [], laidByText := true, laidKinds := [.data, .data, .data, .data, .pinned], laidTests := true, laidLooks := .later }
def EvolveWitnessUptoCardSaid : Prop := Claim7.holds Tryz.pinned (.plain (OpenSpec.upto evolveWitnessSpec)) evolveWitnessUptoCard
end Rows
end Go.Proofs.YtgpmlelfkjfbiaaGreatDoor
