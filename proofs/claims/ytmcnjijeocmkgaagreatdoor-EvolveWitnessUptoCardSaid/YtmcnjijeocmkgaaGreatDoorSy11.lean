/-
  Part 11 of the proof: rules and walks that the claim's last text uses.
-/
import Derived.Test.YtmcnjijeocmkgaaGreatDoorSy10
set_option linter.unusedSimpArgs false
set_option linter.unusedVariables false
set_option maxRecDepth 100000
set_option maxHeartbeats 4000000
namespace Go.Proofs.YtmcnjijeocmkgaaGreatDoor
open Go Go.Shelf Go.ChangeShapes Go.WideShapes Go.ChangeAt Go.RowKit Go.Lib Go.Ev
theorem XY:(Rows.evolveWitnessUptoRow.inPlace == Tryz.prog.inPlace 3)=true:=by kernel_rfl
theorem XW:(Rows.evolveWitnessUptoRow.unfollowed == Tryz.prog.unfollowed 3)=true:=by kernel_rfl
theorem XV:(Rows.evolveWitnessUptoRow.recurses == Tryz.prog.recurses 3)=true:=by kernel_rfl
theorem WE:(Rows.evolveWitnessUptoRow.named == Tryz.prog.varsNamed 3)=true:=by kernel_rfl
theorem Yl:joinedFacts Tryz.prog 3 Tryz.f3 (Rows.OpenSpec.upto Rows.evolveWitnessSpec).bare Rows.evolveWitnessUptoRow=true:=by
 unfold joinedFacts
 rw [XY,XW,XV,WE]
 kernel_rfl
theorem QD:Rows.EvolveWitnessUptoSaid :=
 OpenClaim.holds_of_cond 3 Tryz.f3 rfl rfl rfl rfl rfl rfl rfl ⟨rfl,rfl,rfl,rfl,rfl⟩ rfl rfl rfl rfl rfl (by kernel_rfl) Tryz.func3 Yl
  (of_decide_eq_true (by kernel_rfl)) (by unfold Func.isWrapper;rw [Ai (of_decide_eq_false (by kernel_rfl))];exact ⟨rfl,rfl⟩)
  (fun c a H enc _ b=>by rw [OpenClaim.pre_eq_preRow];exact P9 c a H enc b)
end Go.Proofs.YtmcnjijeocmkgaaGreatDoor
