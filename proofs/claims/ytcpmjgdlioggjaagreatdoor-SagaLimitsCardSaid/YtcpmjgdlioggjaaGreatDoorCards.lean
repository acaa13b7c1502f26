/-
  DERIVED. GIVEN WITH THE SEED: THE CARDS: each row of YtcpmjgdlioggjaaGreatDoorRows.lean that lists a variable, with what it lists TIED to the program's text (the seventh form; the later family's looks); each row that meets fmt, with fmt's text TOLD by the authors' own Lean function (tested against real Go, not proved from fmt's source: count such statements apart). THE CARD IS WHAT COUNTS. Prove the row's statement (the work); the ties are given (YtcpmjgdlioggjaaGreatDoorTie.lean); close each card by the builder's one call (the guide's Derived/Test/ToyasCard.lean, 'card_holds'). Laid BY PROGRAM, IN A SANDBOX (cutbox-door.mjs). By AI agents, Wed Nov 11 2026. No macro, syntax, notation, axiom, sorry.
-/
import Derived.Test.YtcpmjgdlioggjaaGreatDoorRows
import GoSem.ClaimSeven
namespace Go.Proofs.YtcpmjgdlioggjaaGreatDoor
namespace Rows

/-- THE TIED CARD OF 'manifoldlaw38.SagaAtomic'. -/
def sagaAtomicCard : Claim7 := { stood := { row := sagaAtomicRow, standIns := [], harness := (true, "7ebc5b6076ad60621c20db925b5992f828ae4ce196f7a3d270010fb776bfd729"), looks := true }, kinds := [], alts := [], laidByText := true, laidKinds := [.data, .data, .data, .data, .sentinel, .sentinel, .pinned], laidTests := true, laidLooks := .later }
def SagaAtomicCardSaid : Prop := Claim7.holds Tryz.pinned (.plain (OpenSpec.ofChange sagaAtomicSpec)) sagaAtomicCard

/-- THE TIED CARD OF 'manifoldlaw38.SagaLimits'. -/
def sagaLimitsCard : Claim7 := { stood := { row := sagaLimitsRow, standIns := [], harness := (true, "7ebc5b6076ad60621c20db925b5992f828ae4ce196f7a3d270010fb776bfd729"), looks := true }, kinds := [], alts := [], laidByText := true, laidKinds := [.data, .data, .data, .data, .sentinel, .sentinel, .pinned], laidTests := true, laidLooks := .later }
def SagaLimitsCardSaid : Prop := Claim7.holds Tryz.pinned (.plain (OpenSpec.ofChange sagaLimitsSpec)) sagaLimitsCard

/-- THE SECOND FORM's CARD OF 'manifoldlaw38.SagaAtomic'. -/
def sagaAtomicUptoCard : Claim7 := { stood := { row := sagaAtomicUptoRow, standIns := [], harness := (true, "7ebc5b6076ad60621c20db925b5992f828ae4ce196f7a3d270010fb776bfd729"), looks := true }, kinds := [], alts := [], laidByText := true, laidKinds := [.data, .data, .data, .data, .sentinel, .sentinel, .pinned], laidTests := true, laidLooks := .later }
def SagaAtomicUptoCardSaid : Prop := Claim7.holds Tryz.pinned (.plain (OpenSpec.upto sagaAtomicSpec)) sagaAtomicUptoCard

/-- THE SECOND FORM's CARD OF 'manifoldlaw38.SagaLimits'. -/
def sagaLimitsUptoCard : Claim7 := { stood := { row := sagaLimitsUptoRow, standIns := [], harness := (true, "7ebc5b6076ad60621c20db925b5992f828ae4ce196f7a3d270010fb776bfd729"), looks := true }, kinds := [], alts := [], laidByText := true, laidKinds := [.data, .data, .data, .data, .sentinel, .sentinel, .pinned], laidTests := true, laidLooks := .later }
def SagaLimitsUptoCardSaid : Prop := Claim7.holds Tryz.pinned (.plain (OpenSpec.upto sagaLimitsSpec)) sagaLimitsUptoCard
end Rows
end Go.Proofs.YtcpmjgdlioggjaaGreatDoor
