/-
  Part 15 of the proof: rules and walks that the claim's last text uses.
-/
import Derived.Test.YtcdnijfbfdnjlaaGreatDoorKi14
set_option linter.unusedSimpArgs false
set_option linter.unusedVariables false
set_option maxRecDepth 100000
set_option maxHeartbeats 4000000
namespace Go.Proofs.YtcdnijfbfdnjlaaGreatDoor
open Go Go.Shelf Go.ChangeShapes Go.WideShapes Go.ChangeAt Go.RowKit Go.Lib Go.Ev
theorem Vb:(Rows.sagaIdleRow.inPlace == Tryz.prog.inPlace 6)=true:=by kernel_rfl
theorem Vv:(Rows.sagaIdleRow.unfollowed == Tryz.prog.unfollowed 6)=true:=by kernel_rfl
theorem VF:(Rows.sagaIdleRow.recurses == Tryz.prog.recurses 6)=true:=by kernel_rfl
theorem VA:(Rows.sagaIdleRow.named == Tryz.prog.varsNamed 6)=true:=by kernel_rfl
theorem Yb:joinedFacts Tryz.prog 6 Tryz.f6 (OpenSpec.ofChange Rows.sagaIdleSpec).bare Rows.sagaIdleRow=true:=by
 unfold joinedFacts
 rw [Vb,Vv,VF,VA]
 kernel_rfl
theorem Si:Rows.SagaIdleSaid :=
 OpenClaim.holds_of_cond 6 Tryz.f6 rfl rfl rfl rfl rfl rfl rfl ⟨rfl,rfl,rfl,rfl,rfl⟩ rfl rfl rfl rfl rfl (by kernel_rfl) Tryz.func6 Yb
  (of_decide_eq_true (by kernel_rfl)) (by unfold Func.isWrapper;rw [Ai (of_decide_eq_false (by kernel_rfl))];exact ⟨rfl,rfl⟩)
  (fun b a H enc _ c=>by rw [OpenClaim.pre_eq_preRow];exact Qk b a H enc c)
end Go.Proofs.YtcdnijfbfdnjlaaGreatDoor
