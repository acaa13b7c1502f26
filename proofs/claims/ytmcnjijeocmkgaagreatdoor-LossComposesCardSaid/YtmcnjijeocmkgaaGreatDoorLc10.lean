/-
  Part 10 of the proof: rules and walks that the claim's last text uses.
-/
import Derived.Test.YtmcnjijeocmkgaaGreatDoorLc9
set_option linter.unusedSimpArgs false
set_option linter.unusedVariables false
set_option maxRecDepth 100000
set_option maxHeartbeats 4000000
namespace Go.Proofs.YtmcnjijeocmkgaaGreatDoor
open Go Go.Shelf Go.ChangeShapes Go.WideShapes Go.ChangeAt Go.RowKit Go.Lib Go.Ev
theorem Ua:(Rows.lossComposesRow.inPlace == Tryz.prog.inPlace 5)=true:=by kernel_rfl
theorem TT:(Rows.lossComposesRow.unfollowed == Tryz.prog.unfollowed 5)=true:=by kernel_rfl
theorem TV:(Rows.lossComposesRow.recurses == Tryz.prog.recurses 5)=true:=by kernel_rfl
theorem T8:(Rows.lossComposesRow.named == Tryz.prog.varsNamed 5)=true:=by kernel_rfl
theorem Vh:joinedFacts Tryz.prog 5 Tryz.f5 (OpenSpec.ofChange Rows.lossComposesSpec).bare Rows.lossComposesRow=true:=by
 unfold joinedFacts
 rw [Ua,TT,TV,T8]
 kernel_rfl
theorem Ro:Rows.LossComposesSaid :=
 OpenClaim.holds_of_cond 5 Tryz.f5 rfl rfl rfl rfl rfl rfl rfl ⟨rfl,rfl,rfl,rfl,rfl⟩ rfl rfl rfl rfl rfl (by kernel_rfl) Tryz.func5 Vh
  (of_decide_eq_true (by kernel_rfl)) (by unfold Func.isWrapper;rw [Aj (of_decide_eq_false (by kernel_rfl))];exact ⟨rfl,rfl⟩)
  (fun c a H enc _ b=>by rw [OpenClaim.pre_eq_preRow];exact QN c a H enc b)
end Go.Proofs.YtmcnjijeocmkgaaGreatDoor
