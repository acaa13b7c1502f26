/-
  Part 10 of the proof: rules and walks that the claim's last text uses.
-/
import Derived.Test.YtgpmlelfkjfbiaaGreatDoorSd9
set_option linter.unusedSimpArgs false
set_option linter.unusedVariables false
set_option maxRecDepth 100000
set_option maxHeartbeats 4000000
namespace Go.Proofs.YtgpmlelfkjfbiaaGreatDoor
open Go Go.Shelf Go.ChangeShapes Go.WideShapes Go.ChangeAt Go.RowKit Go.Lib Go.Ev
theorem QW:(Rows.evolveCompatibleUptoRow.inPlace == Tryz.prog.inPlace 7)=true:=by kernel_rfl
theorem Qp:(Rows.evolveCompatibleUptoRow.unfollowed == Tryz.prog.unfollowed 7)=true:=by kernel_rfl
theorem Qd:(Rows.evolveCompatibleUptoRow.recurses == Tryz.prog.recurses 7)=true:=by kernel_rfl
theorem Qj:(Rows.evolveCompatibleUptoRow.named == Tryz.prog.varsNamed 7)=true:=by kernel_rfl
theorem Q8:joinedFacts Tryz.prog 7 Tryz.f7 (Rows.OpenSpec.upto Rows.evolveCompatibleSpec).bare Rows.evolveCompatibleUptoRow=true:=by
 unfold joinedFacts
 rw [QW,Qp,Qd,Qj]
 kernel_rfl
theorem ML:Rows.EvolveCompatibleUptoSaid :=
 OpenClaim.holds_of_cond 7 Tryz.f7 rfl rfl rfl rfl rfl rfl rfl ⟨rfl,rfl,rfl,rfl,rfl⟩ rfl rfl rfl rfl rfl (by kernel_rfl) Tryz.func7 Q8
  (of_decide_eq_true (by kernel_rfl)) (by unfold Func.isWrapper;rw [if_neg (of_decide_eq_false (by kernel_rfl))];exact ⟨rfl,rfl⟩)
  (fun b a H enc _ c=>by rw [OpenClaim.pre_eq_preRow];exact LR b a H enc c)
end Go.Proofs.YtgpmlelfkjfbiaaGreatDoor
