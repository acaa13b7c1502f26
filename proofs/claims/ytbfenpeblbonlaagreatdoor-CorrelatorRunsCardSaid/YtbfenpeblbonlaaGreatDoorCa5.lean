/-
  Part 16 of the proof: rules and walks that the claim's last text uses.
-/
import Derived.Test.YtbfenpeblbonlaaGreatDoorCb1
import Derived.Test.YtbfenpeblbonlaaGreatDoorCb2
import Derived.Test.YtbfenpeblbonlaaGreatDoorCb3
import Derived.Test.YtbfenpeblbonlaaGreatDoorCb4
import Derived.Test.YtbfenpeblbonlaaGreatDoorCb5
import Derived.Test.YtbfenpeblbonlaaGreatDoorCb6
import Derived.Test.YtbfenpeblbonlaaGreatDoorCb7
import Derived.Test.YtbfenpeblbonlaaGreatDoorCb8
import Derived.Test.YtbfenpeblbonlaaGreatDoorCb9
import Derived.Test.YtbfenpeblbonlaaGreatDoorCb10
import Derived.Test.YtbfenpeblbonlaaGreatDoorCb11
import Derived.Test.YtbfenpeblbonlaaGreatDoorCa1
import Derived.Test.YtbfenpeblbonlaaGreatDoorCa2
import Derived.Test.YtbfenpeblbonlaaGreatDoorCa3
import Derived.Test.YtbfenpeblbonlaaGreatDoorCa4
set_option linter.unusedSimpArgs false
set_option linter.unusedVariables false
set_option maxRecDepth 100000
set_option maxHeartbeats 4000000
namespace Go.Proofs.YtbfenpeblbonlaaGreatDoor
open Go Go.Shelf Go.ChangeShapes Go.WideShapes Go.ChangeAt Go.RowKit Go.Lib Go.Ev
theorem X6:(Rows.correlatorRunsRow.inPlace == Tryz.prog.inPlace 7)=true:=by kernel_rfl
theorem X1:(Rows.correlatorRunsRow.unfollowed == Tryz.prog.unfollowed 7)=true:=by kernel_rfl
theorem XH:(Rows.correlatorRunsRow.recurses == Tryz.prog.recurses 7)=true:=by kernel_rfl
theorem Yd:(Rows.correlatorRunsRow.named == Tryz.prog.varsNamed 7)=true:=by kernel_rfl
theorem ZB:joinedFacts Tryz.prog 7 Tryz.f7 (OpenSpec.ofChange Rows.correlatorRunsSpec).bare Rows.correlatorRunsRow=true:=by
 unfold joinedFacts
 rw [X6,X1,XH,Yd]
 kernel_rfl
theorem Vz:Rows.CorrelatorRunsSaid :=
 OpenClaim.holds_of_cond 7 Tryz.f7 rfl rfl rfl rfl rfl rfl rfl ⟨rfl,rfl,rfl,rfl,rfl⟩ rfl rfl rfl rfl rfl (by kernel_rfl) Tryz.func7 ZB
  (of_decide_eq_true (by kernel_rfl)) (by unfold Func.isWrapper;rw [Ai (of_decide_eq_false (by kernel_rfl))];exact ⟨rfl,rfl⟩)
  (fun b a H enc _ c=>by rw [OpenClaim.pre_eq_preRow];exact Ug b a H enc c)
end Go.Proofs.YtbfenpeblbonlaaGreatDoor
