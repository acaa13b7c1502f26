/-
  Part 14 of the proof: rules and walks that the claim's last text uses.
-/
import Derived.Test.YtbfenpeblbonlaaGreatDoorCb1
import Derived.Test.YtbfenpeblbonlaaGreatDoorCb2
import Derived.Test.YtbfenpeblbonlaaGreatDoorCb3
import Derived.Test.YtbfenpeblbonlaaGreatDoorCb4
import Derived.Test.YtbfenpeblbonlaaGreatDoorCb5
import Derived.Test.YtbfenpeblbonlaaGreatDoorCb6
import Derived.Test.YtbfenpeblbonlaaGreatDoorCb7
import Derived.Test.YtbfenpeblbonlaaGreatDoorCb8
import Derived.Test.YtbfenpeblbonlaaGreatDoorCb9
import Derived.Test.YtbfenpeblbonlaaGreatDoorCb10
import Derived.Test.YtbfenpeblbonlaaGreatDoorCb11
import Derived.Test.YtbfenpeblbonlaaGreatDoorCn1
import Derived.Test.YtbfenpeblbonlaaGreatDoorCn2
set_option linter.unusedSimpArgs false
set_option linter.unusedVariables false
set_option maxRecDepth 100000
set_option maxHeartbeats 4000000
namespace Go.Proofs.YtbfenpeblbonlaaGreatDoor
open Go Go.Shelf Go.ChangeShapes Go.WideShapes Go.ChangeAt Go.RowKit Go.Lib Go.Ev
theorem Zoc:(Rows.correlatorOnceRow.inPlace == Tryz.prog.inPlace 4)=true:=by kernel_rfl
theorem Zoa:(Rows.correlatorOnceRow.unfollowed == Tryz.prog.unfollowed 4)=true:=by kernel_rfl
theorem Zob:(Rows.correlatorOnceRow.recurses == Tryz.prog.recurses 4)=true:=by kernel_rfl
theorem Zoe:(Rows.correlatorOnceRow.named == Tryz.prog.varsNamed 4)=true:=by kernel_rfl
theorem Zof:joinedFacts Tryz.prog 4 Tryz.f4 (OpenSpec.ofChange Rows.correlatorOnceSpec).bare Rows.correlatorOnceRow=true:=by
 unfold joinedFacts
 rw [Zoc,Zoa,Zob,Zoe]
 kernel_rfl
theorem ZnZ:Rows.CorrelatorOnceSaid :=
 OpenClaim.holds_of_cond 4 Tryz.f4 rfl rfl rfl rfl rfl rfl rfl ⟨rfl,rfl,rfl,rfl,rfl⟩ rfl rfl rfl rfl rfl (by kernel_rfl) Tryz.func4 Zof
  (of_decide_eq_true (by kernel_rfl)) (by unfold Func.isWrapper;rw [Ai (of_decide_eq_false (by kernel_rfl))];exact ⟨rfl,rfl⟩)
  (fun b a H enc _ c=>by rw [OpenClaim.pre_eq_preRow];exact ZnY b a H enc c)
end Go.Proofs.YtbfenpeblbonlaaGreatDoor
