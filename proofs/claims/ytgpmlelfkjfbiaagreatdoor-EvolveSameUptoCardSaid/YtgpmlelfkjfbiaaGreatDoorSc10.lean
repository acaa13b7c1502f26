/-
  Part 10 of the proof: rules and walks that the claim's last text uses.
-/
import Derived.Test.YtgpmlelfkjfbiaaGreatDoorSc9
set_option linter.unusedSimpArgs false
set_option linter.unusedVariables false
set_option maxRecDepth 100000
set_option maxHeartbeats 4000000
namespace Go.Proofs.YtgpmlelfkjfbiaaGreatDoor
open Go Go.Shelf Go.ChangeShapes Go.WideShapes Go.ChangeAt Go.RowKit Go.Lib Go.Ev
theorem YQ:(Rows.evolveSameUptoRow.inPlace == Tryz.prog.inPlace 9)=true:=by kernel_rfl
theorem YN:(Rows.evolveSameUptoRow.unfollowed == Tryz.prog.unfollowed 9)=true:=by kernel_rfl
theorem YZ:(Rows.evolveSameUptoRow.recurses == Tryz.prog.recurses 9)=true:=by kernel_rfl
theorem Yw:(Rows.evolveSameUptoRow.named == Tryz.prog.varsNamed 9)=true:=by kernel_rfl
theorem ZB:joinedFacts Tryz.prog 9 Tryz.f9 (Rows.OpenSpec.upto Rows.evolveSameSpec).bare Rows.evolveSameUptoRow=true:=by
 unfold joinedFacts
 rw [YQ,YN,YZ,Yw]
 kernel_rfl
theorem Qv:Rows.EvolveSameUptoSaid :=
 OpenClaim.holds_of_cond 9 Tryz.f9 rfl rfl rfl rfl rfl rfl rfl ⟨rfl,rfl,rfl,rfl,rfl⟩ rfl rfl rfl rfl rfl (by kernel_rfl) Tryz.func9 ZB
  (of_decide_eq_true (by kernel_rfl)) (by unfold Func.isWrapper;rw [Af (of_decide_eq_false (by kernel_rfl))];exact ⟨rfl,rfl⟩)
  (fun b a H enc _ c=>by rw [OpenClaim.pre_eq_preRow];exact PR b a H enc c)
end Go.Proofs.YtgpmlelfkjfbiaaGreatDoor
