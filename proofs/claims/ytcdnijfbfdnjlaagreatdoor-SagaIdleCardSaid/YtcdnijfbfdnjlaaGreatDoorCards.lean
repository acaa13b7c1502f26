/-
  DERIVED. GIVEN WITH THE SEED: THE CARDS: each row of YtcdnijfbfdnjlaaGreatDoorRows.lean that lists a variable, with what it lists TIED to the program's text (the seventh form; the later family's looks); each row that meets fmt, with fmt's text TOLD by the authors' own Lean function (tested against real Go, not proved from fmt's source: count such statements apart). THE CARD IS WHAT COUNTS. Prove the row's statement (the work); the ties are given (YtcdnijfbfdnjlaaGreatDoorTie.lean); close each card by the builder's one call (the guide's Derived/Test/ToyasCard.lean, 'card_holds'). Laid BY PROGRAM, IN A SANDBOX (cutbox-door.mjs). By AI agents, Wed Nov 11 2026. No macro, syntax, notation, axiom, sorry.
-/
import Derived.Test.YtcdnijfbfdnjlaaGreatDoorRows
import GoSem.ClaimSeven
namespace Go.Proofs.YtcdnijfbfdnjlaaGreatDoor
namespace Rows

/-- THE TIED CARD OF 'manifoldlaw38.SagaChecks'. -/
def sagaChecksCard : Claim7 := { stood := { row := sagaChecksRow, standIns := [], harness := (true, "1f2a2faa79bf3430db6fd39b80f593c041ab4e7fc71c85cbbe053ee9c8f6eacb"), looks := true }, kinds := [], alts := [], laidByText := true, laidKinds := [.data, .data, .data, .data, .sentinel, .sentinel, .pinned], laidTests := true, laidLooks := .later }
def SagaChecksCardSaid : Prop := Claim7.holds Tryz.pinned (.plain (OpenSpec.ofChange sagaChecksSpec)) sagaChecksCard

/-- THE TIED CARD OF 'manifoldlaw38.SagaOpen'. -/
def sagaOpenCard : Claim7 := { stood := { row := sagaOpenRow, standIns := [], harness := (true, "1f2a2faa79bf3430db6fd39b80f593c041ab4e7fc71c85cbbe053ee9c8f6eacb"), looks := true }, kinds := [], alts := [], laidByText := true, laidKinds := [.data, .data, .data, .data, .sentinel, .sentinel, .pinned], laidTests := true, laidLooks := .later }
def SagaOpenCardSaid : Prop := Claim7.holds Tryz.pinned (.plain (OpenSpec.ofChange sagaOpenSpec)) sagaOpenCard

/-- THE TIED CARD OF 'manifoldlaw38.SagaLimits'. -/
def sagaLimitsCard : Claim7 := { stood := { row := sagaLimitsRow, standIns := [], harness := (true, "1f2a2faa79bf3430db6fd39b80f593c041ab4e7fc71c85cbbe053ee9c8f6eacb"), looks := true }, kinds := [], alts := [], laidByText := true, laidKinds := [.data, .data, .data, .data, .sentinel, .sentinel, .pinned], laidTests := true, laidLooks := .later }
def SagaLimitsCardSaid : Prop := Claim7.holds Tryz.pinned (.plain (OpenSpec.ofChange sagaLimitsSpec)) sagaLimitsCard

/-- THE TIED CARD OF 'manifoldlaw38.SagaIdle'. -/
def sagaIdleCard : Claim7 := { stood := { row := sagaIdleRow, standIns := [], harness := (true, "1f2a2faa79bf3430db6fd39b80f593c041ab4e7fc71c85cbbe053ee9c8f6eacb"), looks := true }, kinds := [], alts := [], laidByText := true, laidKinds := [.data, .data, .data, .data, .sentinel, .sentinel, .pinned], laidTests := true, laidLooks := .later }
def SagaIdleCardSaid : Prop := Claim7.holds Tryz.pinned (.plain (OpenSpec.ofChange sagaIdleSpec)) sagaIdleCard

/-- THE SECOND FORM's CARD OF 'manifoldlaw38.SagaChecks'. -/
def sagaChecksUptoCard : Claim7 := { stood := { row := sagaChecksUptoRow, standIns := [], harness := (true, "1f2a2faa79bf3430db6fd39b80f593c041ab4e7fc71c85cbbe053ee9c8f6eacb"), looks := true }, kinds := [], alts := [], laidByText := true, laidKinds := [.data, .data, .data, .data, .sentinel, .sentinel, .pinned], laidTests := true, laidLooks := .later }
def SagaChecksUptoCardSaid : Prop := Claim7.holds Tryz.pinned (.plain (OpenSpec.upto sagaChecksSpec)) sagaChecksUptoCard

/-- THE SECOND FORM's CARD OF 'manifoldlaw38.SagaOpen'. -/
def sagaOpenUptoCard : Claim7 := { stood := { row := sagaOpenUptoRow, standIns := [], harness := (true, "1f2a2faa79bf3430db6fd39b80f593c041ab4e7fc71c85cbbe053ee9c8f6eacb"), looks := true }, kinds := [], alts := [], laidByText := true, laidKinds := [.data, .data, .data, .data, .sentinel, .sentinel, .pinned], laidTests := true, laidLooks := .later }
def SagaOpenUptoCardSaid : Prop := Claim7.holds Tryz.pinned (.plain (OpenSpec.upto sagaOpenSpec)) sagaOpenUptoCard

/-- THE SECOND FORM's CARD OF 'manifoldlaw38.SagaLimits'. -/
def sagaLimitsUptoCard : Claim7 := { stood := { row := sagaLimitsUptoRow, standIns := [], harness := (true, "1f2a2faa79bf3430db6fd39b80f593c041ab4e7fc71c85cbbe053ee9c8f6eacb"), looks := true }, kinds := [], alts := [], laidByText := true, laidKinds := [.data, .data, .data, .data, .sentinel, .sentinel, .pinned], laidTests := true, laidLooks := .later }
def SagaLimitsUptoCardSaid : Prop := Claim7.holds Tryz.pinned (.plain (OpenSpec.upto sagaLimitsSpec)) sagaLimitsUptoCard

/-- THE SECOND FORM's CARD OF 'manifoldlaw38.SagaIdle'. -/
def sagaIdleUptoCard : Claim7 := { stood := { row := sagaIdleUptoRow, standIns := [], harness := (true, "1f2a2faa79bf3430db6fd39b80f593c041ab4e7fc71c85cbbe053ee9c8f6eacb"), looks := true }, kinds := [], alts := [], laidByText := true, laidKinds := [.data, .data, .data, .data, .sentinel, .sentinel, .pinned], laidTests := true, laidLooks := .later }
def SagaIdleUptoCardSaid : Prop := Claim7.holds Tryz.pinned (.plain (OpenSpec.upto sagaIdleSpec)) sagaIdleUptoCard
end Rows
end Go.Proofs.YtcdnijfbfdnjlaaGreatDoor
