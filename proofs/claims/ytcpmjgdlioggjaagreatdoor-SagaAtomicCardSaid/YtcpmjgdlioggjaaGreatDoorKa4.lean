/-
  the saga's law Atomic
-/
import Derived.Test.YtcpmjgdlioggjaaGreatDoorKb1
import Derived.Test.YtcpmjgdlioggjaaGreatDoorKb2
import Derived.Test.YtcpmjgdlioggjaaGreatDoorKb3
import Derived.Test.YtcpmjgdlioggjaaGreatDoorKb4
import Derived.Test.YtcpmjgdlioggjaaGreatDoorKb5
import Derived.Test.YtcpmjgdlioggjaaGreatDoorKb6
import Derived.Test.YtcpmjgdlioggjaaGreatDoorKb7
import Derived.Test.YtcpmjgdlioggjaaGreatDoorKb8
import Derived.Test.YtcpmjgdlioggjaaGreatDoorKa1
import Derived.Test.YtcpmjgdlioggjaaGreatDoorKa2
import Derived.Test.YtcpmjgdlioggjaaGreatDoorKa3
set_option linter.unusedSimpArgs false
set_option linter.unusedVariables false
set_option maxRecDepth 100000
set_option maxHeartbeats 4000000
namespace Go.Proofs.YtcpmjgdlioggjaaGreatDoor
open Go
theorem Zmb:true=Tryz.prog.looks []:=by kernel_rfl
theorem Zmd:false=Rows.sagaAtomicRow.goesBy Tryz.prog:=by kernel_rfl
theorem atomic_card:Rows.SagaAtomicCardSaid :=
 Claim7.holds_tied_plain_at .later [] [.data,.data,.data,.data,.sentinel,.sentinel,.pinned] true (true, "7ebc5b6076ad60621c20db925b5992f828ae4ce196f7a3d270010fb776bfd729") true
  ZlV (fun _ h=>by cases h) (by kernel_rfl) (fun _ h=>by cases h) sagaAtomic_row_tie rfl ⟨rfl,rfl⟩ (by kernel_rfl) rfl
  (fun f d e b=>by
   obtain rfl:f=3:=Option.some.inj ((show Tryz.prog.funcNamed Rows.sagaAtomicRow.func=some 3 by kernel_rfl).symm.trans e) |>.symm
   obtain rfl:d=Tryz.f3:=(Option.some.inj (Tryz.func3.symm.trans b)).symm
   exact ⟨Zmb,fun j t a=>by
    rw [Tryz.params3] at a
    have c:t=22\/t=5:=by
     rcases j with _ | _ | _ | j
     ·left;simpa using a.symm
     ·right;simpa using a.symm
     ·right;simpa using a.symm
     ·simp at a
    rcases c with rfl | rfl
    ·exact (show Tryz.prog.wantsStandIn 22=false by kernel_rfl)
    ·exact (show Tryz.prog.wantsStandIn 5=false by kernel_rfl)⟩)
  Zmd
#print axioms atomic_card
end Go.Proofs.YtcpmjgdlioggjaaGreatDoor
