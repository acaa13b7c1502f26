/-
  Part 11 of the proof: rules and walks that the claim's last text uses.
-/
import Derived.Test.YtcpmjgdlioggjaaGreatDoorKb1
import Derived.Test.YtcpmjgdlioggjaaGreatDoorKb2
import Derived.Test.YtcpmjgdlioggjaaGreatDoorKb3
import Derived.Test.YtcpmjgdlioggjaaGreatDoorKb4
import Derived.Test.YtcpmjgdlioggjaaGreatDoorKb5
import Derived.Test.YtcpmjgdlioggjaaGreatDoorKb6
import Derived.Test.YtcpmjgdlioggjaaGreatDoorKb7
import Derived.Test.YtcpmjgdlioggjaaGreatDoorKb8
import Derived.Test.YtcpmjgdlioggjaaGreatDoorKl1
import Derived.Test.YtcpmjgdlioggjaaGreatDoorKl2
set_option linter.unusedSimpArgs false
set_option linter.unusedVariables false
set_option maxRecDepth 100000
set_option maxHeartbeats 4000000
namespace Go.Proofs.YtcpmjgdlioggjaaGreatDoor
open Go Go.Shelf Go.ChangeShapes Go.WideShapes Go.ChangeAt Go.RowKit Go.Lib Go.Ev
theorem Ui:(Rows.sagaLimitsRow.inPlace == Tryz.prog.inPlace 4)=true:=by kernel_rfl
theorem UF:(Rows.sagaLimitsRow.unfollowed == Tryz.prog.unfollowed 4)=true:=by kernel_rfl
theorem Ut:(Rows.sagaLimitsRow.recurses == Tryz.prog.recurses 4)=true:=by kernel_rfl
theorem Uw:(Rows.sagaLimitsRow.named == Tryz.prog.varsNamed 4)=true:=by kernel_rfl
theorem Ww:joinedFacts Tryz.prog 4 Tryz.f4 (OpenSpec.ofChange Rows.sagaLimitsSpec).bare Rows.sagaLimitsRow=true:=by
 unfold joinedFacts
 rw [Ui,UF,Ut,Uw]
 kernel_rfl
theorem RL:Rows.SagaLimitsSaid :=
 OpenClaim.holds_of_cond 4 Tryz.f4 rfl rfl rfl rfl rfl rfl rfl ⟨rfl,rfl,rfl,rfl,rfl⟩ rfl rfl rfl rfl rfl (by kernel_rfl) Tryz.func4 Ww
  (of_decide_eq_true (by kernel_rfl)) (by unfold Func.isWrapper;rw [Ae (of_decide_eq_false (by kernel_rfl))];exact ⟨rfl,rfl⟩)
  (fun b a H enc _ c=>by rw [OpenClaim.pre_eq_preRow];exact Ql b a H enc c)
end Go.Proofs.YtcpmjgdlioggjaaGreatDoor
