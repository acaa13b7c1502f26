/-
  Part 10 of the proof: rules and walks that the claim's last text uses.
-/
import Derived.Test.YtmcnjijeocmkgaaGreatDoorLo9
set_option linter.unusedSimpArgs false
set_option linter.unusedVariables false
set_option maxRecDepth 100000
set_option maxHeartbeats 4000000
namespace Go.Proofs.YtmcnjijeocmkgaaGreatDoor
open Go Go.Shelf Go.ChangeShapes Go.WideShapes Go.ChangeAt Go.RowKit Go.Lib Go.Ev
theorem YM:(Rows.lossLostRow.inPlace == Tryz.prog.inPlace 4)=true:=by kernel_rfl
theorem XP:(Rows.lossLostRow.unfollowed == Tryz.prog.unfollowed 4)=true:=by kernel_rfl
theorem Y0:(Rows.lossLostRow.recurses == Tryz.prog.recurses 4)=true:=by kernel_rfl
theorem YC:(Rows.lossLostRow.named == Tryz.prog.varsNamed 4)=true:=by kernel_rfl
theorem Zac:joinedFacts Tryz.prog 4 Tryz.f4 (OpenSpec.ofChange Rows.lossLostSpec).bare Rows.lossLostRow=true:=by
 unfold joinedFacts
 rw [YM,XP,Y0,YC]
 kernel_rfl
theorem UI:Rows.LossLostSaid :=
 OpenClaim.holds_of_cond 4 Tryz.f4 rfl rfl rfl rfl rfl rfl rfl ⟨rfl,rfl,rfl,rfl,rfl⟩ rfl rfl rfl rfl rfl (by kernel_rfl) Tryz.func4 Zac
  (of_decide_eq_true (by kernel_rfl)) (by unfold Func.isWrapper;rw [Aj (of_decide_eq_false (by kernel_rfl))];exact ⟨rfl,rfl⟩)
  (fun c a H enc _ b=>by rw [OpenClaim.pre_eq_preRow];exact Uf c a H enc b)
end Go.Proofs.YtmcnjijeocmkgaaGreatDoor
