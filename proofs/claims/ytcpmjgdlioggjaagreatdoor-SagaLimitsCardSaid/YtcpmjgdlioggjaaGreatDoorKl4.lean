/-
  the saga's law Limits
-/
import Derived.Test.YtcpmjgdlioggjaaGreatDoorKb1
import Derived.Test.YtcpmjgdlioggjaaGreatDoorKb2
import Derived.Test.YtcpmjgdlioggjaaGreatDoorKb3
import Derived.Test.YtcpmjgdlioggjaaGreatDoorKb4
import Derived.Test.YtcpmjgdlioggjaaGreatDoorKb5
import Derived.Test.YtcpmjgdlioggjaaGreatDoorKb6
import Derived.Test.YtcpmjgdlioggjaaGreatDoorKb7
import Derived.Test.YtcpmjgdlioggjaaGreatDoorKb8
import Derived.Test.YtcpmjgdlioggjaaGreatDoorKl1
import Derived.Test.YtcpmjgdlioggjaaGreatDoorKl2
import Derived.Test.YtcpmjgdlioggjaaGreatDoorKl3
set_option linter.unusedSimpArgs false
set_option linter.unusedVariables false
set_option maxRecDepth 100000
set_option maxHeartbeats 4000000
namespace Go.Proofs.YtcpmjgdlioggjaaGreatDoor
open Go
theorem VM:true=Tryz.prog.looks []:=by kernel_rfl
theorem Wm:false=Rows.sagaLimitsRow.goesBy Tryz.prog:=by kernel_rfl
theorem limits_card:Rows.SagaLimitsCardSaid :=
 Claim7.holds_tied_plain_at .later [] [.data,.data,.data,.data,.sentinel,.sentinel,.pinned] true (true, "7ebc5b6076ad60621c20db925b5992f828ae4ce196f7a3d270010fb776bfd729") true
  RL (fun _ h=>by cases h) (by kernel_rfl) (fun _ h=>by cases h) sagaLimits_row_tie rfl ⟨rfl,rfl⟩ (by kernel_rfl) rfl
  (fun f c e b=>by
   obtain rfl:f=4:=Option.some.inj ((show Tryz.prog.funcNamed Rows.sagaLimitsRow.func=some 4 by kernel_rfl).symm.trans e) |>.symm
   obtain rfl:c=Tryz.f4:=(Option.some.inj (Tryz.func4.symm.trans b)).symm
   exact ⟨VM,fun j t a=>by
    rw [Tryz.params4] at a
    have d:t=5:=by
     rcases j with _ | _ | _ | j
     ·simpa using a.symm
     ·simpa using a.symm
     ·simpa using a.symm
     ·simp at a
    rcases d with rfl
    ·exact (show Tryz.prog.wantsStandIn 5=false by kernel_rfl)⟩)
  Wm
#print axioms limits_card
end Go.Proofs.YtcpmjgdlioggjaaGreatDoor
