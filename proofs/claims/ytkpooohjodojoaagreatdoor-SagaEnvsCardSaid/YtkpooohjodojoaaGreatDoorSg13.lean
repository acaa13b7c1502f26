/-
  Part 13 of the proof: rules and walks that the claim's last text uses.
-/
import Derived.Test.YtkpooohjodojoaaGreatDoorSg12
set_option linter.unusedSimpArgs false
set_option linter.unusedVariables false
set_option maxRecDepth 100000
set_option maxHeartbeats 4000000
namespace Go.Proofs.YtkpooohjodojoaaGreatDoor
open Go Go.Shelf Go.ChangeShapes Go.WideShapes Go.ChangeAt Go.RowKit Go.Lib Go.Ev
theorem sagEnvs_jf0 : (Rows.sagaEnvsRow.inPlace == Tryz.prog.inPlace 5) = true := by kernel_rfl
theorem sagEnvs_jf1 : (Rows.sagaEnvsRow.unfollowed == Tryz.prog.unfollowed 5) = true := by kernel_rfl
theorem sagEnvs_jf2 : (Rows.sagaEnvsRow.recurses == Tryz.prog.recurses 5) = true := by kernel_rfl
theorem sagEnvs_jf3 : (Rows.sagaEnvsRow.named == Tryz.prog.varsNamed 5) = true := by kernel_rfl
theorem sagEnvs_jf : joinedFacts Tryz.prog 5 Tryz.f5 (OpenSpec.ofChange Rows.sagaEnvsSpec).bare Rows.sagaEnvsRow = true := by
 unfold joinedFacts
 rw [sagEnvs_jf0, sagEnvs_jf1, sagEnvs_jf2, sagEnvs_jf3]
 kernel_rfl
theorem sagEnvs_holds : Rows.SagaEnvsSaid :=
 OpenClaim.holds_of_cond 5 Tryz.f5 rfl rfl rfl rfl rfl rfl rfl ⟨rfl, rfl, rfl, rfl, rfl⟩ rfl rfl rfl rfl rfl (by kernel_rfl) Tryz.func5 sagEnvs_jf
  (of_decide_eq_true (by kernel_rfl)) (by unfold Func.isWrapper; rw [if_neg (of_decide_eq_false (by kernel_rfl))]; exact ⟨rfl, rfl⟩)
  (fun os started H enc _ F0 => by rw [OpenClaim.pre_eq_preRow]; exact sagEnvs_lifted os started H enc F0)
end Go.Proofs.YtkpooohjodojoaaGreatDoor
