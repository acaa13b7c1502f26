/-
  DERIVED. GIVEN WITH THE SEED: THE CARDS: each row of YtbfenpeblbonlaaGreatDoorRows.lean that lists a variable, with what it lists TIED to the program's text (the seventh form; the later family's looks); each row that meets fmt, with fmt's text TOLD by the authors' own Lean function (tested against real Go, not proved from fmt's source: count such statements apart). THE CARD IS WHAT COUNTS. Prove the row's statement (the work); the ties are given (YtbfenpeblbonlaaGreatDoorTie.lean); close each card by the builder's one call (the guide's Derived/Test/ToyasCard.lean, 'card_holds'). Laid BY PROGRAM, IN A SANDBOX (cutbox-door.mjs). By AI agents, Wed Nov 11 2026. No macro, syntax, notation, axiom, sorry.
-/
import Derived.Test.YtbfenpeblbonlaaGreatDoorRows
import GoSem.ClaimSeven
namespace Go.Proofs.YtbfenpeblbonlaaGreatDoor
namespace Rows

/-- THE TIED CARD OF 'manifoldlaw37.CorrelatorRequests'. -/
def correlatorRequestsCard : Claim7 := { stood := { row := correlatorRequestsRow, standIns := [], harness := (true, "a0cc2626cc8da36989c77288570d344d664da2208d027871c7da6514d2de52d8"), looks := true }, kinds := [], alts := [], laidByText := true, laidKinds := [.data, .data, .data, .data, .sentinel, .sentinel, .pinned], laidTests := true, laidLooks := .later }
def CorrelatorRequestsCardSaid : Prop := Claim7.holds Tryz.pinned (.plain (OpenSpec.ofChange correlatorRequestsSpec)) correlatorRequestsCard

/-- THE TIED CARD OF 'manifoldlaw37.CorrelatorOnce'. -/
def correlatorOnceCard : Claim7 := { stood := { row := correlatorOnceRow, standIns := [], harness := (true, "a0cc2626cc8da36989c77288570d344d664da2208d027871c7da6514d2de52d8"), looks := true }, kinds := [], alts := [], laidByText := true, laidKinds := [.data, .data, .data, .data, .sentinel, .sentinel, .pinned], laidTests := true, laidLooks := .later }
def CorrelatorOnceCardSaid : Prop := Claim7.holds Tryz.pinned (.plain (OpenSpec.ofChange correlatorOnceSpec)) correlatorOnceCard

/-- THE TIED CARD OF 'manifoldlaw37.CorrelatorBalances'. -/
def correlatorBalancesCard : Claim7 := { stood := { row := correlatorBalancesRow, standIns := [], harness := (true, "a0cc2626cc8da36989c77288570d344d664da2208d027871c7da6514d2de52d8"), looks := true }, kinds := [], alts := [], laidByText := true, laidKinds := [.data, .data, .data, .data, .sentinel, .sentinel, .pinned], laidTests := true, laidLooks := .later }
def CorrelatorBalancesCardSaid : Prop := Claim7.holds Tryz.pinned (.plain (OpenSpec.ofChange correlatorBalancesSpec)) correlatorBalancesCard

/-- THE TIED CARD OF 'manifoldlaw37.CorrelatorApart'. -/
def correlatorApartCard : Claim7 := { stood := { row := correlatorApartRow, standIns := [], harness := (true, "a0cc2626cc8da36989c77288570d344d664da2208d027871c7da6514d2de52d8"), looks := true }, kinds := [], alts := [], laidByText := true, laidKinds := [.data, .data, .data, .data, .sentinel, .sentinel, .pinned], laidTests := true, laidLooks := .later }
def CorrelatorApartCardSaid : Prop := Claim7.holds Tryz.pinned (.plain (OpenSpec.ofChange correlatorApartSpec)) correlatorApartCard

/-- THE TIED CARD OF 'manifoldlaw37.CorrelatorRuns'. -/
def correlatorRunsCard : Claim7 := { stood := { row := correlatorRunsRow, standIns := [], harness := (true, "a0cc2626cc8da36989c77288570d344d664da2208d027871c7da6514d2de52d8"), looks := true }, kinds := [], alts := [], laidByText := true, laidKinds := [.data, .data, .data, .data, .sentinel, .sentinel, .pinned], laidTests := true, laidLooks := .later }
def CorrelatorRunsCardSaid : Prop := Claim7.holds Tryz.pinned (.plain (OpenSpec.ofChange correlatorRunsSpec)) correlatorRunsCard

/-- THE TIED CARD OF 'manifoldlaw37.CorrelatorLate'. -/
def correlatorLateCard : Claim7 := { stood := { row := correlatorLateRow, standIns := [], harness := (true, "a0cc2626cc8da36989c77288570d344d664da2208d027871c7da6514d2de52d8"), looks := true }, kinds := [], alts := [], laidByText := true, laidKinds := [.data, .data, .data, .data, .sentinel, .sentinel, .pinned], laidTests := true, laidLooks := .later }
def CorrelatorLateCardSaid : Prop := Claim7.holds Tryz.pinned (.plain (OpenSpec.ofChange correlatorLateSpec)) correlatorLateCard

/-- THE TIED CARD OF 'manifoldlaw37.CorrelatorStates'. -/
def correlatorStatesCard : Claim7 := { stood := { row := correlatorStatesRow, standIns := [], harness := (true, "a0cc2626cc8da36989c77288570d344d664da2208d027871c7da6514d2de52d8"), looks := true }, kinds := [], alts := [], laidByText := true, laidKinds := [.data, .data, .data, .data, .sentinel, .sentinel, .pinned], laidTests := true, laidLooks := .later }
def CorrelatorStatesCardSaid : Prop := Claim7.holds Tryz.pinned (.plain (OpenSpec.ofChange correlatorStatesSpec)) correlatorStatesCard

/-- THE SECOND FORM's CARD OF 'manifoldlaw37.CorrelatorRequests'. -/
def correlatorRequestsUptoCard : Claim7 := { stood := { row := correlatorRequestsUptoRow, standIns := [], harness := (true, "a0cc2626cc8da36989c77288570d344d664da2208d027871c7da6514d2de52d8"), looks := true }, kinds := [], alts := [], laidByText := true, laidKinds := [.data, .data, .data, .data, .sentinel, .sentinel, .pinned], laidTests := true, laidLooks := .later }
def CorrelatorRequestsUptoCardSaid : Prop := Claim7.holds Tryz.pinned (.plain (OpenSpec.upto correlatorRequestsSpec)) correlatorRequestsUptoCard

/-- THE SECOND FORM's CARD OF 'manifoldlaw37.CorrelatorOnce'. -/
def correlatorOnceUptoCard : Claim7 := { stood := { row := correlatorOnceUptoRow, standIns := [], harness := (true, "a0cc2626cc8da36989c77288570d344d664da2208d027871c7da6514d2de52d8"), looks := true }, kinds := [], alts := [], laidByText := true, laidKinds := [.data, .data, .data, .data, .sentinel, .sentinel, .pinned], laidTests := true, laidLooks := .later }
def CorrelatorOnceUptoCardSaid : Prop := Claim7.holds Tryz.pinned (.plain (OpenSpec.upto correlatorOnceSpec)) correlatorOnceUptoCard

/-- THE SECOND FORM's CARD OF 'manifoldlaw37.CorrelatorBalances'. -/
def correlatorBalancesUptoCard : Claim7 := { stood := { row := correlatorBalancesUptoRow, standIns := [], harness := (true, "a0cc2626cc8da36989c77288570d344d664da2208d027871c7da6514d2de52d8"), looks := true }, kinds := [], alts := [], laidByText := true, laidKinds := [.data, .data, .data, .data, .sentinel, .sentinel, .pinned], laidTests := true, laidLooks := .later }
def CorrelatorBalancesUptoCardSaid : Prop := Claim7.holds Tryz.pinned (.plain (OpenSpec.upto correlatorBalancesSpec)) correlatorBalancesUptoCard

/-- THE SECOND FORM's CARD OF 'manifoldlaw37.CorrelatorApart'. -/
def correlatorApartUptoCard : Claim7 := { stood := { row := correlatorApartUptoRow, standIns := [], harness := (true, "a0cc2626cc8da36989c77288570d344d664da2208d027871c7da6514d2de52d8"), looks := true }, kinds := [], alts := [], laidByText := true, laidKinds := [.data, .data, .data, .data, .sentinel, .sentinel, .pinned], laidTests := true, laidLooks := .later }
def CorrelatorApartUptoCardSaid : Prop := Claim7.holds Tryz.pinned (.plain (OpenSpec.upto correlatorApartSpec)) correlatorApartUptoCard

/-- THE SECOND FORM's CARD OF 'manifoldlaw37.CorrelatorRuns'. -/
def correlatorRunsUptoCard : Claim7 := { stood := { row := correlatorRunsUptoRow, standIns := [], harness := (true, "a0cc2626cc8da36989c77288570d344d664da2208d027871c7da6514d2de52d8"), looks := true }, kinds := [], alts := [], laidByText := true, laidKinds := [.data, .data, .data, .data, .sentinel, .sentinel, .pinned], laidTests := true, laidLooks := .later }
def CorrelatorRunsUptoCardSaid : Prop := Claim7.holds Tryz.pinned (.plain (OpenSpec.upto correlatorRunsSpec)) correlatorRunsUptoCard

/-- THE SECOND FORM's CARD OF 'manifoldlaw37.CorrelatorLate'. -/
def correlatorLateUptoCard : Claim7 := { stood := { row := correlatorLateUptoRow, standIns := [], harness := (true, "a0cc2626cc8da36989c77288570d344d664da2208d027871c7da6514d2de52d8"), looks := true }, kinds := [], alts := [], laidByText := true, laidKinds := [.data, .data, .data, .data, .sentinel, .sentinel, .pinned], laidTests := true, laidLooks := .later }
def CorrelatorLateUptoCardSaid : Prop := Claim7.holds Tryz.pinned (.plain (OpenSpec.upto correlatorLateSpec)) correlatorLateUptoCard

/-- THE SECOND FORM's CARD OF 'manifoldlaw37.CorrelatorStates'. -/
def correlatorStatesUptoCard : Claim7 := { stood := { row := correlatorStatesUptoRow, standIns := [], harness := (true, "a0cc2626cc8da36989c77288570d344d664da2208d027871c7da6514d2de52d8"), looks := true }, kinds := [], alts := [], laidByText := true, laidKinds := [.data, .data, .data, .data, .sentinel, .sentinel, .pinned], laidTests := true, laidLooks := .later }
def CorrelatorStatesUptoCardSaid : Prop := Claim7.holds Tryz.pinned (.plain (OpenSpec.upto correlatorStatesSpec)) correlatorStatesUptoCard
end Rows
end Go.Proofs.YtbfenpeblbonlaaGreatDoor
