/-
  the correlator's law Apart
-/
import Derived.Test.YtbfenpeblbonlaaGreatDoorCb1
import Derived.Test.YtbfenpeblbonlaaGreatDoorCb2
import Derived.Test.YtbfenpeblbonlaaGreatDoorCb3
import Derived.Test.YtbfenpeblbonlaaGreatDoorCb4
import Derived.Test.YtbfenpeblbonlaaGreatDoorCb5
import Derived.Test.YtbfenpeblbonlaaGreatDoorCb6
import Derived.Test.YtbfenpeblbonlaaGreatDoorCb7
import Derived.Test.YtbfenpeblbonlaaGreatDoorCb8
import Derived.Test.YtbfenpeblbonlaaGreatDoorCb9
import Derived.Test.YtbfenpeblbonlaaGreatDoorCb10
import Derived.Test.YtbfenpeblbonlaaGreatDoorCb11
import Derived.Test.YtbfenpeblbonlaaGreatDoorCp1
import Derived.Test.YtbfenpeblbonlaaGreatDoorCp2
import Derived.Test.YtbfenpeblbonlaaGreatDoorCp3
set_option linter.unusedSimpArgs false
set_option linter.unusedVariables false
set_option maxRecDepth 100000
set_option maxHeartbeats 4000000
namespace Go.Proofs.YtbfenpeblbonlaaGreatDoor
open Go
theorem ZnT:true=Tryz.prog.looks []:=by kernel_rfl
theorem ZnR:false=Rows.correlatorApartRow.goesBy Tryz.prog:=by kernel_rfl
theorem apart_card:Rows.CorrelatorApartCardSaid :=
 Claim7.holds_tied_plain_at .later [] [.data,.data,.data,.data,.sentinel,.sentinel,.pinned] true (true, "a0cc2626cc8da36989c77288570d344d664da2208d027871c7da6514d2de52d8") true
  ZmX (fun _ h=>by cases h) (by kernel_rfl) (fun _ h=>by cases h) correlatorApart_row_tie rfl ⟨rfl,rfl⟩ (by kernel_rfl) rfl
  (fun f e d b=>by
   obtain rfl:f=6:=Option.some.inj ((show Tryz.prog.funcNamed Rows.correlatorApartRow.func=some 6 by kernel_rfl).symm.trans d) |>.symm
   obtain rfl:e=Tryz.f6:=(Option.some.inj (Tryz.func6.symm.trans b)).symm
   exact ⟨ZnT,fun j t a=>by
    rw [Tryz.params6] at a
    have c:t=23\/t=24:=by
     rcases j with _ | _ | _ | j
     ·left;simpa using a.symm
     ·right;simpa using a.symm
     ·right;simpa using a.symm
     ·simp at a
    rcases c with rfl | rfl
    ·exact (show Tryz.prog.wantsStandIn 23=false by kernel_rfl)
    ·exact (show Tryz.prog.wantsStandIn 24=false by kernel_rfl)⟩)
  ZnR
#print axioms apart_card
end Go.Proofs.YtbfenpeblbonlaaGreatDoor
