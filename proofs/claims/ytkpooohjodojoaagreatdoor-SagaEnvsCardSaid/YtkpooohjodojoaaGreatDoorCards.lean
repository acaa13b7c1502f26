/-
  DERIVED. GIVEN WITH THE SEED: THE CARDS: each row of YtkpooohjodojoaaGreatDoorRows.lean that lists a variable, with what it lists TIED to the program's text (the seventh form; the later family's looks); each row that meets fmt, with fmt's text TOLD by the authors' own Lean function (tested against real Go, not proved from fmt's source: count such statements apart). THE CARD IS WHAT COUNTS. Prove the row's statement (the work); the ties are given (YtkpooohjodojoaaGreatDoorTie.lean); close each card by the builder's one call (the guide's Derived/Test/ToyasCard.lean, 'card_holds'). Laid BY PROGRAM, IN A SANDBOX (cutbox-door.mjs). By AI agents, Wed Nov 11 2026. No macro, syntax, notation, axiom, sorry.
-/
import Derived.Test.YtkpooohjodojoaaGreatDoorRows
import GoSem.ClaimSeven
namespace Go.Proofs.YtkpooohjodojoaaGreatDoor
namespace Rows

/-- THE TIED CARD OF 'manifoldlaw51.ServiceNew'. -/
def serviceNewCard : Claim7 := { stood := { row := serviceNewRow, standIns := [], harness := (true, "9b7bf386a1aede70bb928ab5d01f724236ce93b2493d03e574e9c82d9c43557d"), looks := true }, kinds := [], alts := [], laidByText := true, laidKinds := [.data, .data, .data, .data, .sentinel, .sentinel, .pinned], laidTests := true, laidLooks := .later }
def ServiceNewCardSaid : Prop := Claim7.holds Tryz.pinned (.plain (OpenSpec.ofChange serviceNewSpec)) serviceNewCard

/-- THE TIED CARD OF 'manifoldlaw51.ServiceEntries'. -/
def serviceEntriesCard : Claim7 := { stood := { row := serviceEntriesRow, standIns := [], harness := (true, "9b7bf386a1aede70bb928ab5d01f724236ce93b2493d03e574e9c82d9c43557d"), looks := true }, kinds := [], alts := [], laidByText := true, laidKinds := [.data, .data, .data, .data, .sentinel, .sentinel, .pinned], laidTests := true, laidLooks := .later }
def ServiceEntriesCardSaid : Prop := Claim7.holds Tryz.pinned (.plain (OpenSpec.ofChange serviceEntriesSpec)) serviceEntriesCard

/-- THE TIED CARD OF 'manifoldlaw38.SagaEnvs'. -/
def sagaEnvsCard : Claim7 := { stood := { row := sagaEnvsRow, standIns := [], harness := (true, "9b7bf386a1aede70bb928ab5d01f724236ce93b2493d03e574e9c82d9c43557d"), looks := true }, kinds := [], alts := [], laidByText := true, laidKinds := [.data, .data, .data, .data, .sentinel, .sentinel, .pinned], laidTests := true, laidLooks := .later }
def SagaEnvsCardSaid : Prop := Claim7.holds Tryz.pinned (.plain (OpenSpec.ofChange sagaEnvsSpec)) sagaEnvsCard

/-- THE SECOND FORM's CARD OF 'manifoldlaw51.ServiceNew'. -/
def serviceNewUptoCard : Claim7 := { stood := { row := serviceNewUptoRow, standIns := [], harness := (true, "9b7bf386a1aede70bb928ab5d01f724236ce93b2493d03e574e9c82d9c43557d"), looks := true }, kinds := [], alts := [], laidByText := true, laidKinds := [.data, .data, .data, .data, .sentinel, .sentinel, .pinned], laidTests := true, laidLooks := .later }
def ServiceNewUptoCardSaid : Prop := Claim7.holds Tryz.pinned (.plain (OpenSpec.upto serviceNewSpec)) serviceNewUptoCard

/-- THE SECOND FORM's CARD OF 'manifoldlaw51.ServiceEntries'. -/
def serviceEntriesUptoCard : Claim7 := { stood := { row := serviceEntriesUptoRow, standIns := [], harness := (true, "9b7bf386a1aede70bb928ab5d01f724236ce93b2493d03e574e9c82d9c43557d"), looks := true }, kinds := [], alts := [], laidByText := true, laidKinds := [.data, .data, .data, .data, .sentinel, .sentinel, .pinned], laidTests := true, laidLooks := .later }
def ServiceEntriesUptoCardSaid : Prop := Claim7.holds Tryz.pinned (.plain (OpenSpec.upto serviceEntriesSpec)) serviceEntriesUptoCard

/-- THE SECOND FORM's CARD OF 'manifoldlaw38.SagaEnvs'. -/
def sagaEnvsUptoCard : Claim7 := { stood := { row := sagaEnvsUptoRow, standIns := [], harness := (true, "9b7bf386a1aede70bb928ab5d01f724236ce93b2493d03e574e9c82d9c43557d"), looks := true }, kinds := [], alts := [], laidByText := true, laidKinds := [.data, .data, .data, .data, .sentinel, .sentinel, .pinned], laidTests := true, laidLooks := .later }
def SagaEnvsUptoCardSaid : Prop := Claim7.holds Tryz.pinned (.plain (OpenSpec.upto sagaEnvsSpec)) sagaEnvsUptoCard
end Rows
end Go.Proofs.YtkpooohjodojoaaGreatDoor
