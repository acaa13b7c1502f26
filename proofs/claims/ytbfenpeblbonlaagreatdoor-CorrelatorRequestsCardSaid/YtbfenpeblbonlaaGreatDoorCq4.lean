/-
  the correlator's law Requests
-/
import Derived.Test.YtbfenpeblbonlaaGreatDoorCb1
import Derived.Test.YtbfenpeblbonlaaGreatDoorCb2
import Derived.Test.YtbfenpeblbonlaaGreatDoorCb3
import Derived.Test.YtbfenpeblbonlaaGreatDoorCb4
import Derived.Test.YtbfenpeblbonlaaGreatDoorCb5
import Derived.Test.YtbfenpeblbonlaaGreatDoorCb6
import Derived.Test.YtbfenpeblbonlaaGreatDoorCb7
import Derived.Test.YtbfenpeblbonlaaGreatDoorCb8
import Derived.Test.YtbfenpeblbonlaaGreatDoorCb9
import Derived.Test.YtbfenpeblbonlaaGreatDoorCb10
import Derived.Test.YtbfenpeblbonlaaGreatDoorCb11
import Derived.Test.YtbfenpeblbonlaaGreatDoorCq1
import Derived.Test.YtbfenpeblbonlaaGreatDoorCq2
import Derived.Test.YtbfenpeblbonlaaGreatDoorCq3
set_option linter.unusedSimpArgs false
set_option linter.unusedVariables false
set_option maxRecDepth 100000
set_option maxHeartbeats 4000000
namespace Go.Proofs.YtbfenpeblbonlaaGreatDoor
open Go
theorem ZmX:true=Tryz.prog.looks []:=by kernel_rfl
theorem Zm2:false=Rows.correlatorRequestsRow.goesBy Tryz.prog:=by kernel_rfl
theorem requests_card:Rows.CorrelatorRequestsCardSaid :=
 Claim7.holds_tied_plain_at .later [] [.data,.data,.data,.data,.sentinel,.sentinel,.pinned] true (true, "a0cc2626cc8da36989c77288570d344d664da2208d027871c7da6514d2de52d8") true
  ZiK (fun _ h=>by cases h) (by kernel_rfl) (fun _ h=>by cases h) correlatorRequests_row_tie rfl ⟨rfl,rfl⟩ (by kernel_rfl) rfl
  (fun f d e b=>by
   obtain rfl:f=3:=Option.some.inj ((show Tryz.prog.funcNamed Rows.correlatorRequestsRow.func=some 3 by kernel_rfl).symm.trans e) |>.symm
   obtain rfl:d=Tryz.f3:=(Option.some.inj (Tryz.func3.symm.trans b)).symm
   exact ⟨ZmX,fun j t a=>by
    rw [Tryz.params3] at a
    have c:t=23\/t=24:=by
     rcases j with _ | _ | j
     ·left;simpa using a.symm
     ·right;simpa using a.symm
     ·simp at a
    rcases c with rfl | rfl
    ·exact (show Tryz.prog.wantsStandIn 23=false by kernel_rfl)
    ·exact (show Tryz.prog.wantsStandIn 24=false by kernel_rfl)⟩)
  Zm2
#print axioms requests_card
end Go.Proofs.YtbfenpeblbonlaaGreatDoor
