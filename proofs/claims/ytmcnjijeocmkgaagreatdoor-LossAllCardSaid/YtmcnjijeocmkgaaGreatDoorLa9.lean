/-
  Part 9 of the proof: rules and walks that the claim's last text uses.
-/
import Derived.Test.YtmcnjijeocmkgaaGreatDoorLa8
set_option linter.unusedSimpArgs false
set_option linter.unusedVariables false
set_option maxRecDepth 100000
set_option maxHeartbeats 4000000
namespace Go.Proofs.YtmcnjijeocmkgaaGreatDoor
open Go Go.Shelf Go.ChangeShapes Go.WideShapes Go.ChangeAt Go.RowKit Go.Lib Go.Ev
theorem Yr:(Rows.lossAllRow.inPlace == Tryz.prog.inPlace 6)=true:=by kernel_rfl
theorem YF:(Rows.lossAllRow.unfollowed == Tryz.prog.unfollowed 6)=true:=by kernel_rfl
theorem YV:(Rows.lossAllRow.recurses == Tryz.prog.recurses 6)=true:=by kernel_rfl
theorem Zl:(Rows.lossAllRow.named == Tryz.prog.varsNamed 6)=true:=by kernel_rfl
theorem ZaC:joinedFacts Tryz.prog 6 Tryz.f6 (OpenSpec.ofChange Rows.lossAllSpec).bare Rows.lossAllRow=true:=by
 unfold joinedFacts
 rw [Yr,YF,YV,Zl]
 kernel_rfl
theorem VY:Rows.LossAllSaid :=
 OpenClaim.holds_of_cond 6 Tryz.f6 rfl rfl rfl rfl rfl rfl rfl ⟨rfl,rfl,rfl,rfl,rfl⟩ rfl rfl rfl rfl rfl (by kernel_rfl) Tryz.func6 ZaC
  (of_decide_eq_true (by kernel_rfl)) (by unfold Func.isWrapper;rw [Aj (of_decide_eq_false (by kernel_rfl))];exact ⟨rfl,rfl⟩)
  (fun b a H enc _ c=>by rw [OpenClaim.pre_eq_preRow];exact Ug b a H enc c)
end Go.Proofs.YtmcnjijeocmkgaaGreatDoor
