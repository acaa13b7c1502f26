/-
  DERIVED. GIVEN WITH THE SEED: THE CARDS: each row of YtmcnjijeocmkgaaGreatDoorRows.lean that lists a variable, with what it lists TIED to the program's text (the seventh form; the later family's looks); each row that meets fmt, with fmt's text TOLD by the authors' own Lean function (tested against real Go, not proved from fmt's source: count such statements apart). THE CARD IS WHAT COUNTS. Prove the row's statement (the work); the ties are given (YtmcnjijeocmkgaaGreatDoorTie.lean); close each card by the builder's one call (the guide's Derived/Test/ToyasCard.lean, 'card_holds'). Laid BY PROGRAM, IN A SANDBOX (cutbox-door.mjs). By AI agents, Wed Nov 11 2026. No macro, syntax, notation, axiom, sorry.
-/
import Derived.Test.YtmcnjijeocmkgaaGreatDoorRows
import GoSem.ClaimSeven
namespace Go.Proofs.YtmcnjijeocmkgaaGreatDoor
namespace Rows

/-- THE TIED CARD OF 'manifoldlaw09.EvolveWitness'. -/
def evolveWitnessCard : Claim7 := { stood := { row := evolveWitnessRow, standIns := [], harness := (true, "fa91f66bb46e36df51cee936e900b5ac9d46b91ac0ce37dab5039757c45e6ed3"), looks := true }, kinds := [], alts := [], laidByText := true, laidKinds := [.data, .data, .data, .data, .pinned], laidTests := true, laidLooks := .later }
def EvolveWitnessCardSaid : Prop := Claim7.holds Tryz.pinned (.plain (OpenSpec.ofChange evolveWitnessSpec)) evolveWitnessCard

/-- THE TIED CARD OF 'manifoldlaw19.LossLost'. -/
def lossLostCard : Claim7 := { stood := { row := lossLostRow, standIns := [], harness := (true, "fa91f66bb46e36df51cee936e900b5ac9d46b91ac0ce37dab5039757c45e6ed3"), looks := true }, kinds := [], alts := [], laidByText := true, laidKinds := [.data, .data, .data, .data, .sentinel, .sentinel, .widerDeep, .pinned], laidTests := true, laidLooks := .later }
def LossLostCardSaid : Prop := Claim7.holds Tryz.pinned (.plain (OpenSpec.ofChange lossLostSpec)) lossLostCard

/-- THE TIED CARD OF 'manifoldlaw19.LossComposes'. -/
def lossComposesCard : Claim7 := { stood := { row := lossComposesRow, standIns := [], harness := (true, "fa91f66bb46e36df51cee936e900b5ac9d46b91ac0ce37dab5039757c45e6ed3"), looks := true }, kinds := [], alts := [], laidByText := true, laidKinds := [.data, .data, .data, .data, .sentinel, .sentinel, .widerDeep, .pinned], laidTests := true, laidLooks := .later }
def LossComposesCardSaid : Prop := Claim7.holds Tryz.pinned (.plain (OpenSpec.ofChange lossComposesSpec)) lossComposesCard

/-- THE TIED CARD OF 'manifoldlaw19.LossAll'. -/
def lossAllCard : Claim7 := { stood := { row := lossAllRow, standIns := [], harness := (true, "fa91f66bb46e36df51cee936e900b5ac9d46b91ac0ce37dab5039757c45e6ed3"), looks := true }, kinds := [], alts := [], laidByText := true, laidKinds := [.data, .data, .data, .data, .sentinel, .sentinel, .widerDeep, .pinned], laidTests := true, laidLooks := .later }
def LossAllCardSaid : Prop := Claim7.holds Tryz.pinned (.plain (OpenSpec.ofChange lossAllSpec)) lossAllCard

/-- THE TIED CARD OF 'manifoldlaw19.LossChains'. -/
def lossChainsCard : Claim7 := { stood := { row := lossChainsRow, standIns := [], harness := (true, "fa91f66bb46e36df51cee936e900b5ac9d46b91ac0ce37dab5039757c45e6ed3"), looks := true }, kinds := [], alts := [], laidByText := true, laidKinds := [.data, .data, .data, .data, .sentinel, .sentinel, .widerDeep, .pinned], laidTests := true, laidLooks := .later }
def LossChainsCardSaid : Prop := Claim7.holds Tryz.pinned (.plain (OpenSpec.ofChange lossChainsSpec)) lossChainsCard

/-- THE SECOND FORM's CARD OF 'manifoldlaw09.EvolveWitness'. -/
def evolveWitnessUptoCard : Claim7 := { stood := { row := evolveWitnessUptoRow, standIns := [], harness := (true, "fa91f66bb46e36df51cee936e900b5ac9d46b91ac0ce37dab5039757c45e6ed3"), looks := true }, kinds := [], alts := [], laidByText := true, laidKinds := [.data, .data, .data, .data, .pinned], laidTests := true, laidLooks := .later }
def EvolveWitnessUptoCardSaid : Prop := Claim7.holds Tryz.pinned (.plain (OpenSpec.upto evolveWitnessSpec)) evolveWitnessUptoCard

/-- THE SECOND FORM's CARD OF 'manifoldlaw19.LossLost'. -/
def lossLostUptoCard : Claim7 := { stood := { row := lossLostUptoRow, standIns := [], harness := (true, "fa91f66bb46e36df51cee936e900b5ac9d46b91ac0ce37dab5039757c45e6ed3"), looks := true }, kinds := [], alts := [], laidByText := true, laidKinds := [.data, .data, .data, .data, .sentinel, .sentinel, .widerDeep, .pinned], laidTests := true, laidLooks := .later }
def LossLostUptoCardSaid : Prop := Claim7.holds Tryz.pinned (.plain (OpenSpec.upto lossLostSpec)) lossLostUptoCard

/-- THE SECOND FORM's CARD OF 'manifoldlaw19.LossComposes'. -/
def lossComposesUptoCard : Claim7 := { stood := { row := lossComposesUptoRow, standIns := [], harness := (true, "fa91f66bb46e36df51cee936e900b5ac9d46b91ac0ce37dab5039757c45e6ed3"), looks := true }, kinds := [], alts := [], laidByText := true, laidKinds := [.data, .data, .data, .data, .sentinel, .sentinel, .widerDeep, .pinned], laidTests := true, laidLooks := .later }
def LossComposesUptoCardSaid : Prop := Claim7.holds Tryz.pinned (.plain (OpenSpec.upto lossComposesSpec)) lossComposesUptoCard

/-- THE SECOND FORM's CARD OF 'manifoldlaw19.LossAll'. -/
def lossAllUptoCard : Claim7 := { stood := { row := lossAllUptoRow, standIns := [], harness := (true, "fa91f66bb46e36df51cee936e900b5ac9d46b91ac0ce37dab5039757c45e6ed3"), looks := true }, kinds := [], alts := [], laidByText := true, laidKinds := [.data, .data, .data, .data, .sentinel, .sentinel, .widerDeep, .pinned], laidTests := true, laidLooks := .later }
def LossAllUptoCardSaid : Prop := Claim7.holds Tryz.pinned (.plain (OpenSpec.upto lossAllSpec)) lossAllUptoCard

/-- THE SECOND FORM's CARD OF 'manifoldlaw19.LossChains'. -/
def lossChainsUptoCard : Claim7 := { stood := { row := lossChainsUptoRow, standIns := [], harness := (true, "fa91f66bb46e36df51cee936e900b5ac9d46b91ac0ce37dab5039757c45e6ed3"), looks := true }, kinds := [], alts := [], laidByText := true, laidKinds := [.data, .data, .data, .data, .sentinel, .sentinel, .widerDeep, .pinned], laidTests := true, laidLooks := .later }
def LossChainsUptoCardSaid : Prop := Claim7.holds Tryz.pinned (.plain (OpenSpec.upto lossChainsSpec)) lossChainsUptoCard
end Rows
end Go.Proofs.YtmcnjijeocmkgaaGreatDoor
