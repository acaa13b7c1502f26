/-
  Part 10 of the proof: rules and walks that the claim's last text uses.
-/
import Derived.Test.YtmcnjijeocmkgaaGreatDoorLh9
set_option linter.unusedSimpArgs false
set_option linter.unusedVariables false
set_option maxRecDepth 100000
set_option maxHeartbeats 4000000
namespace Go.Proofs.YtmcnjijeocmkgaaGreatDoor
open Go Go.Shelf Go.ChangeShapes Go.WideShapes Go.ChangeAt Go.RowKit Go.Lib Go.Ev
theorem WP:(Rows.lossChainsRow.inPlace == Tryz.prog.inPlace 7)=true:=by kernel_rfl
theorem WH:(Rows.lossChainsRow.unfollowed == Tryz.prog.unfollowed 7)=true:=by kernel_rfl
theorem Wm:(Rows.lossChainsRow.recurses == Tryz.prog.recurses 7)=true:=by kernel_rfl
theorem Wu:(Rows.lossChainsRow.named == Tryz.prog.varsNamed 7)=true:=by kernel_rfl
theorem Ya:joinedFacts Tryz.prog 7 Tryz.f7 (OpenSpec.ofChange Rows.lossChainsSpec).bare Rows.lossChainsRow=true:=by
 unfold joinedFacts
 rw [WP,WH,Wm,Wu]
 kernel_rfl
theorem Ug:Rows.LossChainsSaid :=
 OpenClaim.holds_of_cond 7 Tryz.f7 rfl rfl rfl rfl rfl rfl rfl ⟨rfl,rfl,rfl,rfl,rfl⟩ rfl rfl rfl rfl rfl (by kernel_rfl) Tryz.func7 Ya
  (of_decide_eq_true (by kernel_rfl)) (by unfold Func.isWrapper;rw [Aj (of_decide_eq_false (by kernel_rfl))];exact ⟨rfl,rfl⟩)
  (fun c a H enc _ b=>by rw [OpenClaim.pre_eq_preRow];exact RZ c a H enc b)
end Go.Proofs.YtmcnjijeocmkgaaGreatDoor
