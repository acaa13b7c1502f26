/-
  Part 14 of the proof: rules and walks that the claim's last text uses.
-/
import Derived.Test.YtbfenpeblbonlaaGreatDoorCb1
import Derived.Test.YtbfenpeblbonlaaGreatDoorCb2
import Derived.Test.YtbfenpeblbonlaaGreatDoorCb3
import Derived.Test.YtbfenpeblbonlaaGreatDoorCb4
import Derived.Test.YtbfenpeblbonlaaGreatDoorCb5
import Derived.Test.YtbfenpeblbonlaaGreatDoorCb6
import Derived.Test.YtbfenpeblbonlaaGreatDoorCb7
import Derived.Test.YtbfenpeblbonlaaGreatDoorCb8
import Derived.Test.YtbfenpeblbonlaaGreatDoorCb9
import Derived.Test.YtbfenpeblbonlaaGreatDoorCb10
import Derived.Test.YtbfenpeblbonlaaGreatDoorCb11
import Derived.Test.YtbfenpeblbonlaaGreatDoorCs1
import Derived.Test.YtbfenpeblbonlaaGreatDoorCs2
set_option linter.unusedSimpArgs false
set_option linter.unusedVariables false
set_option maxRecDepth 100000
set_option maxHeartbeats 4000000
namespace Go.Proofs.YtbfenpeblbonlaaGreatDoor
open Go Go.Shelf Go.ChangeShapes Go.WideShapes Go.ChangeAt Go.RowKit Go.Lib Go.Ev
theorem ZoD:(Rows.correlatorStatesRow.inPlace == Tryz.prog.inPlace 9)=true:=by kernel_rfl
theorem ZoE:(Rows.correlatorStatesRow.unfollowed == Tryz.prog.unfollowed 9)=true:=by kernel_rfl
theorem ZoC:(Rows.correlatorStatesRow.recurses == Tryz.prog.recurses 9)=true:=by kernel_rfl
theorem ZoB:(Rows.correlatorStatesRow.named == Tryz.prog.varsNamed 9)=true:=by kernel_rfl
theorem ZoH:joinedFacts Tryz.prog 9 Tryz.f9 (OpenSpec.ofChange Rows.correlatorStatesSpec).bare Rows.correlatorStatesRow=true:=by
 unfold joinedFacts
 rw [ZoD,ZoE,ZoC,ZoB]
 kernel_rfl
theorem Zoy:Rows.CorrelatorStatesSaid :=
 OpenClaim.holds_of_cond 9 Tryz.f9 rfl rfl rfl rfl rfl rfl rfl ⟨rfl,rfl,rfl,rfl,rfl⟩ rfl rfl rfl rfl rfl (by kernel_rfl) Tryz.func9 ZoH
  (of_decide_eq_true (by kernel_rfl)) (by unfold Func.isWrapper;rw [Ai (of_decide_eq_false (by kernel_rfl))];exact ⟨rfl,rfl⟩)
  (fun c a H enc _ b=>by rw [OpenClaim.pre_eq_preRow];exact Zow c a H enc b)
end Go.Proofs.YtbfenpeblbonlaaGreatDoor
