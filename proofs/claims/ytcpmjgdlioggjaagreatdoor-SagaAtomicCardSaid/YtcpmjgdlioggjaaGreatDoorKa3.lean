/-
  Part 11 of the proof: rules and walks that the claim's last text uses.
-/
import Derived.Test.YtcpmjgdlioggjaaGreatDoorKb1
import Derived.Test.YtcpmjgdlioggjaaGreatDoorKb2
import Derived.Test.YtcpmjgdlioggjaaGreatDoorKb3
import Derived.Test.YtcpmjgdlioggjaaGreatDoorKb4
import Derived.Test.YtcpmjgdlioggjaaGreatDoorKb5
import Derived.Test.YtcpmjgdlioggjaaGreatDoorKb6
import Derived.Test.YtcpmjgdlioggjaaGreatDoorKb7
import Derived.Test.YtcpmjgdlioggjaaGreatDoorKb8
import Derived.Test.YtcpmjgdlioggjaaGreatDoorKa1
import Derived.Test.YtcpmjgdlioggjaaGreatDoorKa2
set_option linter.unusedSimpArgs false
set_option linter.unusedVariables false
set_option maxRecDepth 100000
set_option maxHeartbeats 4000000
namespace Go.Proofs.YtcpmjgdlioggjaaGreatDoor
open Go Go.Shelf Go.ChangeShapes Go.WideShapes Go.ChangeAt Go.RowKit Go.Lib Go.Ev
theorem Zl4:(Rows.sagaAtomicRow.inPlace == Tryz.prog.inPlace 3)=true:=by kernel_rfl
theorem Zl2:(Rows.sagaAtomicRow.unfollowed == Tryz.prog.unfollowed 3)=true:=by kernel_rfl
theorem Zl1:(Rows.sagaAtomicRow.recurses == Tryz.prog.recurses 3)=true:=by kernel_rfl
theorem Zl3:(Rows.sagaAtomicRow.named == Tryz.prog.varsNamed 3)=true:=by kernel_rfl
theorem Zmc:joinedFacts Tryz.prog 3 Tryz.f3 (OpenSpec.ofChange Rows.sagaAtomicSpec).bare Rows.sagaAtomicRow=true:=by
 unfold joinedFacts
 rw [Zl4,Zl2,Zl1,Zl3]
 kernel_rfl
theorem ZlV:Rows.SagaAtomicSaid :=
 OpenClaim.holds_of_cond 3 Tryz.f3 rfl rfl rfl rfl rfl rfl rfl ⟨rfl,rfl,rfl,rfl,rfl⟩ rfl rfl rfl rfl rfl (by kernel_rfl) Tryz.func3 Zmc
  (of_decide_eq_true (by kernel_rfl)) (by unfold Func.isWrapper;rw [Ae (of_decide_eq_false (by kernel_rfl))];exact ⟨rfl,rfl⟩)
  (fun b a H enc _ c=>by rw [OpenClaim.pre_eq_preRow];exact ZlP b a H enc c)
end Go.Proofs.YtcpmjgdlioggjaaGreatDoor
