/-
  Part 14 of the proof: rules and walks that the claim's last text uses.
-/
import Derived.Test.YtbfenpeblbonlaaGreatDoorCb1
import Derived.Test.YtbfenpeblbonlaaGreatDoorCb2
import Derived.Test.YtbfenpeblbonlaaGreatDoorCb3
import Derived.Test.YtbfenpeblbonlaaGreatDoorCb4
import Derived.Test.YtbfenpeblbonlaaGreatDoorCb5
import Derived.Test.YtbfenpeblbonlaaGreatDoorCb6
import Derived.Test.YtbfenpeblbonlaaGreatDoorCb7
import Derived.Test.YtbfenpeblbonlaaGreatDoorCb8
import Derived.Test.YtbfenpeblbonlaaGreatDoorCb9
import Derived.Test.YtbfenpeblbonlaaGreatDoorCb10
import Derived.Test.YtbfenpeblbonlaaGreatDoorCb11
import Derived.Test.YtbfenpeblbonlaaGreatDoorCq1
import Derived.Test.YtbfenpeblbonlaaGreatDoorCq2
set_option linter.unusedSimpArgs false
set_option linter.unusedVariables false
set_option maxRecDepth 100000
set_option maxHeartbeats 4000000
namespace Go.Proofs.YtbfenpeblbonlaaGreatDoor
open Go Go.Shelf Go.ChangeShapes Go.WideShapes Go.ChangeAt Go.RowKit Go.Lib Go.Ev
theorem Zkn:(Rows.correlatorRequestsRow.inPlace == Tryz.prog.inPlace 3)=true:=by kernel_rfl
theorem Zmr:(Rows.correlatorRequestsRow.unfollowed == Tryz.prog.unfollowed 3)=true:=by kernel_rfl
theorem ZkM:(Rows.correlatorRequestsRow.recurses == Tryz.prog.recurses 3)=true:=by kernel_rfl
theorem Zl0:(Rows.correlatorRequestsRow.named == Tryz.prog.varsNamed 3)=true:=by kernel_rfl
theorem ZmW:joinedFacts Tryz.prog 3 Tryz.f3 (OpenSpec.ofChange Rows.correlatorRequestsSpec).bare Rows.correlatorRequestsRow=true:=by
 unfold joinedFacts
 rw [Zkn,Zmr,ZkM,Zl0]
 kernel_rfl
theorem ZiK:Rows.CorrelatorRequestsSaid :=
 OpenClaim.holds_of_cond 3 Tryz.f3 rfl rfl rfl rfl rfl rfl rfl ⟨rfl,rfl,rfl,rfl,rfl⟩ rfl rfl rfl rfl rfl (by kernel_rfl) Tryz.func3 ZmW
  (of_decide_eq_true (by kernel_rfl)) (by unfold Func.isWrapper;rw [Ai (of_decide_eq_false (by kernel_rfl))];exact ⟨rfl,rfl⟩)
  (fun b a H enc _ c=>by rw [OpenClaim.pre_eq_preRow];exact Zgj b a H enc c)
end Go.Proofs.YtbfenpeblbonlaaGreatDoor
