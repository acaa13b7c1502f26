/-
  the correlator's law States
-/
import Derived.Test.YtbfenpeblbonlaaGreatDoorCb1
import Derived.Test.YtbfenpeblbonlaaGreatDoorCb2
import Derived.Test.YtbfenpeblbonlaaGreatDoorCb3
import Derived.Test.YtbfenpeblbonlaaGreatDoorCb4
import Derived.Test.YtbfenpeblbonlaaGreatDoorCb5
import Derived.Test.YtbfenpeblbonlaaGreatDoorCb6
import Derived.Test.YtbfenpeblbonlaaGreatDoorCb7
import Derived.Test.YtbfenpeblbonlaaGreatDoorCb8
import Derived.Test.YtbfenpeblbonlaaGreatDoorCb9
import Derived.Test.YtbfenpeblbonlaaGreatDoorCb10
import Derived.Test.YtbfenpeblbonlaaGreatDoorCb11
import Derived.Test.YtbfenpeblbonlaaGreatDoorCs1
import Derived.Test.YtbfenpeblbonlaaGreatDoorCs2
import Derived.Test.YtbfenpeblbonlaaGreatDoorCs3
set_option linter.unusedSimpArgs false
set_option linter.unusedVariables false
set_option maxRecDepth 100000
set_option maxHeartbeats 4000000
namespace Go.Proofs.YtbfenpeblbonlaaGreatDoor
open Go
theorem ZoG:true=Tryz.prog.looks []:=by kernel_rfl
theorem ZoF:false=Rows.correlatorStatesRow.goesBy Tryz.prog:=by kernel_rfl
theorem states_card:Rows.CorrelatorStatesCardSaid :=
 Claim7.holds_tied_plain_at .later [] [.data,.data,.data,.data,.sentinel,.sentinel,.pinned] true (true, "a0cc2626cc8da36989c77288570d344d664da2208d027871c7da6514d2de52d8") true
  Zoy (fun _ h=>by cases h) (by kernel_rfl) (fun _ h=>by cases h) correlatorStates_row_tie rfl ⟨rfl,rfl⟩ (by kernel_rfl) rfl
  (fun f e d b=>by
   obtain rfl:f=9:=Option.some.inj ((show Tryz.prog.funcNamed Rows.correlatorStatesRow.func=some 9 by kernel_rfl).symm.trans d) |>.symm
   obtain rfl:e=Tryz.f9:=(Option.some.inj (Tryz.func9.symm.trans b)).symm
   exact ⟨ZoG,fun j t a=>by
    rw [Tryz.params9] at a
    have c:t=23\/t=24:=by
     rcases j with _ | _ | j
     ·left;simpa using a.symm
     ·right;simpa using a.symm
     ·simp at a
    rcases c with rfl | rfl
    ·exact (show Tryz.prog.wantsStandIn 23=false by kernel_rfl)
    ·exact (show Tryz.prog.wantsStandIn 24=false by kernel_rfl)⟩)
  ZoF
#print axioms states_card
end Go.Proofs.YtbfenpeblbonlaaGreatDoor
