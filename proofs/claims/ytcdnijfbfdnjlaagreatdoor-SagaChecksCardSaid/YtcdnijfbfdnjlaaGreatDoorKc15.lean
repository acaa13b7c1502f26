/-
  the saga law Checks
-/
import Derived.Test.YtcdnijfbfdnjlaaGreatDoorKc14
set_option linter.unusedSimpArgs false
set_option linter.unusedVariables false
set_option maxRecDepth 100000
set_option maxHeartbeats 4000000
namespace Go.Proofs.YtcdnijfbfdnjlaaGreatDoor
open Go
theorem Rz:true=Tryz.prog.looks []:=by kernel_rfl
theorem Re:false=Rows.sagaChecksRow.goesBy Tryz.prog:=by kernel_rfl
theorem checks_card:Rows.SagaChecksCardSaid :=
 Claim7.holds_tied_plain_at .later [] [.data,.data,.data,.data,.sentinel,.sentinel,.pinned] true (true, "1f2a2faa79bf3430db6fd39b80f593c041ab4e7fc71c85cbbe053ee9c8f6eacb") true
  Nw (fun _ h=>by cases h) (by kernel_rfl) (fun _ h=>by cases h) sagaChecks_row_tie rfl ⟨rfl,rfl⟩ (by kernel_rfl) rfl
  (fun f d c b=>by
   obtain rfl:f=3:=Option.some.inj ((show Tryz.prog.funcNamed Rows.sagaChecksRow.func=some 3 by kernel_rfl).symm.trans c) |>.symm
   obtain rfl:d=Tryz.f3:=(Option.some.inj (Tryz.func3.symm.trans b)).symm
   exact ⟨Rz,fun j t a=>by
    rw [Tryz.params3] at a
    have e:t=34∨t=37:=by
     rcases j with _ | _ | j
     ·left;simpa using a.symm
     ·right;simpa using a.symm
     ·simp at a
    rcases e with rfl | rfl
    ·exact (show Tryz.prog.wantsStandIn 34=false by kernel_rfl)
    ·exact (show Tryz.prog.wantsStandIn 37=false by kernel_rfl)⟩)
  Re
#print axioms checks_card
end Go.Proofs.YtcdnijfbfdnjlaaGreatDoor
