/-
  the correlator's law Balances
-/
import Derived.Test.YtbfenpeblbonlaaGreatDoorCb1
import Derived.Test.YtbfenpeblbonlaaGreatDoorCb2
import Derived.Test.YtbfenpeblbonlaaGreatDoorCb3
import Derived.Test.YtbfenpeblbonlaaGreatDoorCb4
import Derived.Test.YtbfenpeblbonlaaGreatDoorCb5
import Derived.Test.YtbfenpeblbonlaaGreatDoorCb6
import Derived.Test.YtbfenpeblbonlaaGreatDoorCb7
import Derived.Test.YtbfenpeblbonlaaGreatDoorCb8
import Derived.Test.YtbfenpeblbonlaaGreatDoorCb9
import Derived.Test.YtbfenpeblbonlaaGreatDoorCb10
import Derived.Test.YtbfenpeblbonlaaGreatDoorCb11
import Derived.Test.YtbfenpeblbonlaaGreatDoorCm1
import Derived.Test.YtbfenpeblbonlaaGreatDoorCm2
import Derived.Test.YtbfenpeblbonlaaGreatDoorCm3
set_option linter.unusedSimpArgs false
set_option linter.unusedVariables false
set_option maxRecDepth 100000
set_option maxHeartbeats 4000000
namespace Go.Proofs.YtbfenpeblbonlaaGreatDoor
open Go
theorem Zoe:true=Tryz.prog.looks []:=by kernel_rfl
theorem Zoc:false=Rows.correlatorBalancesRow.goesBy Tryz.prog:=by kernel_rfl
theorem balances_card:Rows.CorrelatorBalancesCardSaid :=
 Claim7.holds_tied_plain_at .later [] [.data,.data,.data,.data,.sentinel,.sentinel,.pinned] true (true, "a0cc2626cc8da36989c77288570d344d664da2208d027871c7da6514d2de52d8") true
  Zn2 (fun _ h=>by cases h) (by kernel_rfl) (fun _ h=>by cases h) correlatorBalances_row_tie rfl ⟨rfl,rfl⟩ (by kernel_rfl) rfl
  (fun f c d b=>by
   obtain rfl:f=5:=Option.some.inj ((show Tryz.prog.funcNamed Rows.correlatorBalancesRow.func=some 5 by kernel_rfl).symm.trans d) |>.symm
   obtain rfl:c=Tryz.f5:=(Option.some.inj (Tryz.func5.symm.trans b)).symm
   exact ⟨Zoe,fun j t a=>by
    rw [Tryz.params5] at a
    have e:t=23\/t=24:=by
     rcases j with _ | _ | j
     ·left;simpa using a.symm
     ·right;simpa using a.symm
     ·simp at a
    rcases e with rfl | rfl
    ·exact (show Tryz.prog.wantsStandIn 23=false by kernel_rfl)
    ·exact (show Tryz.prog.wantsStandIn 24=false by kernel_rfl)⟩)
  Zoc
#print axioms balances_card
end Go.Proofs.YtbfenpeblbonlaaGreatDoor
