/-
  Part 14 of the proof: rules and walks that the claim's last text uses.
-/
import Derived.Test.YtcdnijfbfdnjlaaGreatDoorKc13
set_option linter.unusedSimpArgs false
set_option linter.unusedVariables false
set_option maxRecDepth 100000
set_option maxHeartbeats 4000000
namespace Go.Proofs.YtcdnijfbfdnjlaaGreatDoor
open Go Go.Shelf Go.ChangeShapes Go.WideShapes Go.ChangeAt Go.RowKit Go.Lib Go.Ev
theorem P1:(Rows.sagaChecksRow.inPlace == Tryz.prog.inPlace 3)=true:=by kernel_rfl
theorem PC:(Rows.sagaChecksRow.unfollowed == Tryz.prog.unfollowed 3)=true:=by kernel_rfl
theorem PS:(Rows.sagaChecksRow.recurses == Tryz.prog.recurses 3)=true:=by kernel_rfl
theorem PT:(Rows.sagaChecksRow.named == Tryz.prog.varsNamed 3)=true:=by kernel_rfl
theorem Ri:joinedFacts Tryz.prog 3 Tryz.f3 (OpenSpec.ofChange Rows.sagaChecksSpec).bare Rows.sagaChecksRow=true:=by
 unfold joinedFacts
 rw [P1,PC,PS,PT]
 kernel_rfl
theorem Nw:Rows.SagaChecksSaid :=
 OpenClaim.holds_of_cond 3 Tryz.f3 rfl rfl rfl rfl rfl rfl rfl ⟨rfl,rfl,rfl,rfl,rfl⟩ rfl rfl rfl rfl rfl (by kernel_rfl) Tryz.func3 Ri
  (of_decide_eq_true (by kernel_rfl)) (by unfold Func.isWrapper;rw [Ai (of_decide_eq_false (by kernel_rfl))];exact ⟨rfl,rfl⟩)
  (fun c a H enc _ b=>by rw [OpenClaim.pre_eq_preRow];exact L0 c a H enc b)
end Go.Proofs.YtcdnijfbfdnjlaaGreatDoor
