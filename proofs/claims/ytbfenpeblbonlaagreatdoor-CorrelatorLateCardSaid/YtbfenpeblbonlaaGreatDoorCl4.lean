/-
  the correlator's law Late
-/
import Derived.Test.YtbfenpeblbonlaaGreatDoorCb1
import Derived.Test.YtbfenpeblbonlaaGreatDoorCb2
import Derived.Test.YtbfenpeblbonlaaGreatDoorCb3
import Derived.Test.YtbfenpeblbonlaaGreatDoorCb4
import Derived.Test.YtbfenpeblbonlaaGreatDoorCb5
import Derived.Test.YtbfenpeblbonlaaGreatDoorCb6
import Derived.Test.YtbfenpeblbonlaaGreatDoorCb7
import Derived.Test.YtbfenpeblbonlaaGreatDoorCb8
import Derived.Test.YtbfenpeblbonlaaGreatDoorCb9
import Derived.Test.YtbfenpeblbonlaaGreatDoorCb10
import Derived.Test.YtbfenpeblbonlaaGreatDoorCb11
import Derived.Test.YtbfenpeblbonlaaGreatDoorCl1
import Derived.Test.YtbfenpeblbonlaaGreatDoorCl2
import Derived.Test.YtbfenpeblbonlaaGreatDoorCl3
set_option linter.unusedSimpArgs false
set_option linter.unusedVariables false
set_option maxRecDepth 100000
set_option maxHeartbeats 4000000
namespace Go.Proofs.YtbfenpeblbonlaaGreatDoor
open Go
theorem ZnT:true=Tryz.prog.looks []:=by kernel_rfl
theorem ZnQ:false=Rows.correlatorLateRow.goesBy Tryz.prog:=by kernel_rfl
theorem late_card:Rows.CorrelatorLateCardSaid :=
 Claim7.holds_tied_plain_at .later [] [.data,.data,.data,.data,.sentinel,.sentinel,.pinned] true (true, "a0cc2626cc8da36989c77288570d344d664da2208d027871c7da6514d2de52d8") true
  ZmW (fun _ h=>by cases h) (by kernel_rfl) (fun _ h=>by cases h) correlatorLate_row_tie rfl ⟨rfl,rfl⟩ (by kernel_rfl) rfl
  (fun f d e b=>by
   obtain rfl:f=8:=Option.some.inj ((show Tryz.prog.funcNamed Rows.correlatorLateRow.func=some 8 by kernel_rfl).symm.trans e) |>.symm
   obtain rfl:d=Tryz.f8:=(Option.some.inj (Tryz.func8.symm.trans b)).symm
   exact ⟨ZnT,fun j t a=>by
    rw [Tryz.params8] at a
    have c:t=23\/t=24\/t=70:=by
     rcases j with _ | _ | _ | j
     ·left;simpa using a.symm
     ·right;left;simpa using a.symm
     ·right;right;simpa using a.symm
     ·simp at a
    rcases c with rfl | rfl | rfl
    ·exact (show Tryz.prog.wantsStandIn 23=false by kernel_rfl)
    ·exact (show Tryz.prog.wantsStandIn 24=false by kernel_rfl)
    ·exact (show Tryz.prog.wantsStandIn 70=false by kernel_rfl)⟩)
  ZnQ
#print axioms late_card
end Go.Proofs.YtbfenpeblbonlaaGreatDoor
