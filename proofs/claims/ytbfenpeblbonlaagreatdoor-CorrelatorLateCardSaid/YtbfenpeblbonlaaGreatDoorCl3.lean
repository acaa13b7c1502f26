/-
  Part 14 of the proof: rules and walks that the claim's last text uses.
-/
import Derived.Test.YtbfenpeblbonlaaGreatDoorCb1
import Derived.Test.YtbfenpeblbonlaaGreatDoorCb2
import Derived.Test.YtbfenpeblbonlaaGreatDoorCb3
import Derived.Test.YtbfenpeblbonlaaGreatDoorCb4
import Derived.Test.YtbfenpeblbonlaaGreatDoorCb5
import Derived.Test.YtbfenpeblbonlaaGreatDoorCb6
import Derived.Test.YtbfenpeblbonlaaGreatDoorCb7
import Derived.Test.YtbfenpeblbonlaaGreatDoorCb8
import Derived.Test.YtbfenpeblbonlaaGreatDoorCb9
import Derived.Test.YtbfenpeblbonlaaGreatDoorCb10
import Derived.Test.YtbfenpeblbonlaaGreatDoorCb11
import Derived.Test.YtbfenpeblbonlaaGreatDoorCl1
import Derived.Test.YtbfenpeblbonlaaGreatDoorCl2
set_option linter.unusedSimpArgs false
set_option linter.unusedVariables false
set_option maxRecDepth 100000
set_option maxHeartbeats 4000000
namespace Go.Proofs.YtbfenpeblbonlaaGreatDoor
open Go Go.Shelf Go.ChangeShapes Go.WideShapes Go.ChangeAt Go.RowKit Go.Lib Go.Ev
theorem ZnD:(Rows.correlatorLateRow.inPlace == Tryz.prog.inPlace 8)=true:=by kernel_rfl
theorem ZnO:(Rows.correlatorLateRow.unfollowed == Tryz.prog.unfollowed 8)=true:=by kernel_rfl
theorem ZnC:(Rows.correlatorLateRow.recurses == Tryz.prog.recurses 8)=true:=by kernel_rfl
theorem Zny:(Rows.correlatorLateRow.named == Tryz.prog.varsNamed 8)=true:=by kernel_rfl
theorem ZnU:joinedFacts Tryz.prog 8 Tryz.f8 (OpenSpec.ofChange Rows.correlatorLateSpec).bare Rows.correlatorLateRow=true:=by
 unfold joinedFacts
 rw [ZnD,ZnO,ZnC,Zny]
 kernel_rfl
theorem ZmW:Rows.CorrelatorLateSaid :=
 OpenClaim.holds_of_cond 8 Tryz.f8 rfl rfl rfl rfl rfl rfl rfl ⟨rfl,rfl,rfl,rfl,rfl⟩ rfl rfl rfl rfl rfl (by kernel_rfl) Tryz.func8 ZnU
  (of_decide_eq_true (by kernel_rfl)) (by unfold Func.isWrapper;rw [Ai (of_decide_eq_false (by kernel_rfl))];exact ⟨rfl,rfl⟩)
  (fun c a H enc _ b=>by rw [OpenClaim.pre_eq_preRow];exact Zmr c a H enc b)
end Go.Proofs.YtbfenpeblbonlaaGreatDoor
