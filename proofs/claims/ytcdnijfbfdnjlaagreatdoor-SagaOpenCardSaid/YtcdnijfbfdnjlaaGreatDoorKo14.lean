/-
  Part 14 of the proof: rules and walks that the claim's last text uses.
-/
import Derived.Test.YtcdnijfbfdnjlaaGreatDoorKo13
set_option linter.unusedSimpArgs false
set_option linter.unusedVariables false
set_option maxRecDepth 100000
set_option maxHeartbeats 4000000
namespace Go.Proofs.YtcdnijfbfdnjlaaGreatDoor
open Go Go.Shelf Go.ChangeShapes Go.WideShapes Go.ChangeAt Go.RowKit Go.Lib Go.Ev
theorem Tq:(Rows.sagaOpenRow.inPlace == Tryz.prog.inPlace 4)=true:=by kernel_rfl
theorem S0:(Rows.sagaOpenRow.unfollowed == Tryz.prog.unfollowed 4)=true:=by kernel_rfl
theorem S1:(Rows.sagaOpenRow.recurses == Tryz.prog.recurses 4)=true:=by kernel_rfl
theorem Tn:(Rows.sagaOpenRow.named == Tryz.prog.varsNamed 4)=true:=by kernel_rfl
theorem U5:joinedFacts Tryz.prog 4 Tryz.f4 (OpenSpec.ofChange Rows.sagaOpenSpec).bare Rows.sagaOpenRow=true:=by
 unfold joinedFacts
 rw [Tq,S0,S1,Tn]
 kernel_rfl
theorem P6:Rows.SagaOpenSaid :=
 OpenClaim.holds_of_cond 4 Tryz.f4 rfl rfl rfl rfl rfl rfl rfl ⟨rfl,rfl,rfl,rfl,rfl⟩ rfl rfl rfl rfl rfl (by kernel_rfl) Tryz.func4 U5
  (of_decide_eq_true (by kernel_rfl)) (by unfold Func.isWrapper;rw [Ai (of_decide_eq_false (by kernel_rfl))];exact ⟨rfl,rfl⟩)
  (fun b a H enc _ c=>by rw [OpenClaim.pre_eq_preRow];exact ON b a H enc c)
end Go.Proofs.YtcdnijfbfdnjlaaGreatDoor
