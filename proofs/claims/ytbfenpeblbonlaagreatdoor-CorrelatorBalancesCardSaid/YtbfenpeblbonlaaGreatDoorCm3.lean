/-
  Part 14 of the proof: rules and walks that the claim's last text uses.
-/
import Derived.Test.YtbfenpeblbonlaaGreatDoorCb1
import Derived.Test.YtbfenpeblbonlaaGreatDoorCb2
import Derived.Test.YtbfenpeblbonlaaGreatDoorCb3
import Derived.Test.YtbfenpeblbonlaaGreatDoorCb4
import Derived.Test.YtbfenpeblbonlaaGreatDoorCb5
import Derived.Test.YtbfenpeblbonlaaGreatDoorCb6
import Derived.Test.YtbfenpeblbonlaaGreatDoorCb7
import Derived.Test.YtbfenpeblbonlaaGreatDoorCb8
import Derived.Test.YtbfenpeblbonlaaGreatDoorCb9
import Derived.Test.YtbfenpeblbonlaaGreatDoorCb10
import Derived.Test.YtbfenpeblbonlaaGreatDoorCb11
import Derived.Test.YtbfenpeblbonlaaGreatDoorCm1
import Derived.Test.YtbfenpeblbonlaaGreatDoorCm2
set_option linter.unusedSimpArgs false
set_option linter.unusedVariables false
set_option maxRecDepth 100000
set_option maxHeartbeats 4000000
namespace Go.Proofs.YtbfenpeblbonlaaGreatDoor
open Go Go.Shelf Go.ChangeShapes Go.WideShapes Go.ChangeAt Go.RowKit Go.Lib Go.Ev
theorem Zn9:(Rows.correlatorBalancesRow.inPlace == Tryz.prog.inPlace 5)=true:=by kernel_rfl
theorem Zoa:(Rows.correlatorBalancesRow.unfollowed == Tryz.prog.unfollowed 5)=true:=by kernel_rfl
theorem Zn7:(Rows.correlatorBalancesRow.recurses == Tryz.prog.recurses 5)=true:=by kernel_rfl
theorem Zn8:(Rows.correlatorBalancesRow.named == Tryz.prog.varsNamed 5)=true:=by kernel_rfl
theorem Zob:joinedFacts Tryz.prog 5 Tryz.f5 (OpenSpec.ofChange Rows.correlatorBalancesSpec).bare Rows.correlatorBalancesRow=true:=by
 unfold joinedFacts
 rw [Zn9,Zoa,Zn7,Zn8]
 kernel_rfl
theorem Zn2:Rows.CorrelatorBalancesSaid :=
 OpenClaim.holds_of_cond 5 Tryz.f5 rfl rfl rfl rfl rfl rfl rfl ⟨rfl,rfl,rfl,rfl,rfl⟩ rfl rfl rfl rfl rfl (by kernel_rfl) Tryz.func5 Zob
  (of_decide_eq_true (by kernel_rfl)) (by unfold Func.isWrapper;rw [Ai (of_decide_eq_false (by kernel_rfl))];exact ⟨rfl,rfl⟩)
  (fun b a H enc _ c=>by rw [OpenClaim.pre_eq_preRow];exact Zn0 b a H enc c)
end Go.Proofs.YtbfenpeblbonlaaGreatDoor
