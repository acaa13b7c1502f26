/-
  Part 14 of the proof: rules and walks that the claim's last text uses.
-/
import Derived.Test.YtbfenpeblbonlaaGreatDoorCb1
import Derived.Test.YtbfenpeblbonlaaGreatDoorCb2
import Derived.Test.YtbfenpeblbonlaaGreatDoorCb3
import Derived.Test.YtbfenpeblbonlaaGreatDoorCb4
import Derived.Test.YtbfenpeblbonlaaGreatDoorCb5
import Derived.Test.YtbfenpeblbonlaaGreatDoorCb6
import Derived.Test.YtbfenpeblbonlaaGreatDoorCb7
import Derived.Test.YtbfenpeblbonlaaGreatDoorCb8
import Derived.Test.YtbfenpeblbonlaaGreatDoorCb9
import Derived.Test.YtbfenpeblbonlaaGreatDoorCb10
import Derived.Test.YtbfenpeblbonlaaGreatDoorCb11
import Derived.Test.YtbfenpeblbonlaaGreatDoorCp1
import Derived.Test.YtbfenpeblbonlaaGreatDoorCp2
set_option linter.unusedSimpArgs false
set_option linter.unusedVariables false
set_option maxRecDepth 100000
set_option maxHeartbeats 4000000
namespace Go.Proofs.YtbfenpeblbonlaaGreatDoor
open Go Go.Shelf Go.ChangeShapes Go.WideShapes Go.ChangeAt Go.RowKit Go.Lib Go.Ev
theorem ZnD:(Rows.correlatorApartRow.inPlace == Tryz.prog.inPlace 6)=true:=by kernel_rfl
theorem ZnF:(Rows.correlatorApartRow.unfollowed == Tryz.prog.unfollowed 6)=true:=by kernel_rfl
theorem ZnC:(Rows.correlatorApartRow.recurses == Tryz.prog.recurses 6)=true:=by kernel_rfl
theorem ZnO:(Rows.correlatorApartRow.named == Tryz.prog.varsNamed 6)=true:=by kernel_rfl
theorem ZnQ:joinedFacts Tryz.prog 6 Tryz.f6 (OpenSpec.ofChange Rows.correlatorApartSpec).bare Rows.correlatorApartRow=true:=by
 unfold joinedFacts
 rw [ZnD,ZnF,ZnC,ZnO]
 kernel_rfl
theorem ZmX:Rows.CorrelatorApartSaid :=
 OpenClaim.holds_of_cond 6 Tryz.f6 rfl rfl rfl rfl rfl rfl rfl ⟨rfl,rfl,rfl,rfl,rfl⟩ rfl rfl rfl rfl rfl (by kernel_rfl) Tryz.func6 ZnQ
  (of_decide_eq_true (by kernel_rfl)) (by unfold Func.isWrapper;rw [Ai (of_decide_eq_false (by kernel_rfl))];exact ⟨rfl,rfl⟩)
  (fun c a H enc _ b=>by rw [OpenClaim.pre_eq_preRow];exact Zmr c a H enc b)
end Go.Proofs.YtbfenpeblbonlaaGreatDoor
