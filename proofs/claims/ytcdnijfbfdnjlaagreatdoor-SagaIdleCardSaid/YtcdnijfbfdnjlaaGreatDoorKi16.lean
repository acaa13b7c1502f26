/-
  the saga law Idle
-/
import Derived.Test.YtcdnijfbfdnjlaaGreatDoorKi15
set_option linter.unusedSimpArgs false
set_option linter.unusedVariables false
set_option maxRecDepth 100000
set_option maxHeartbeats 4000000
namespace Go.Proofs.YtcdnijfbfdnjlaaGreatDoor
open Go
theorem Xj:true=Tryz.prog.looks []:=by kernel_rfl
theorem Yg:false=Rows.sagaIdleRow.goesBy Tryz.prog:=by kernel_rfl
theorem idle_card:Rows.SagaIdleCardSaid :=
 Claim7.holds_tied_plain_at .later [] [.data,.data,.data,.data,.sentinel,.sentinel,.pinned] true (true, "1f2a2faa79bf3430db6fd39b80f593c041ab4e7fc71c85cbbe053ee9c8f6eacb") true
  Si (fun _ h=>by cases h) (by kernel_rfl) (fun _ h=>by cases h) sagaIdle_row_tie rfl ⟨rfl,rfl⟩ (by kernel_rfl) rfl
  (fun f d e b=>by
   obtain rfl:f=6:=Option.some.inj ((show Tryz.prog.funcNamed Rows.sagaIdleRow.func=some 6 by kernel_rfl).symm.trans e) |>.symm
   obtain rfl:d=Tryz.f6:=(Option.some.inj (Tryz.func6.symm.trans b)).symm
   exact ⟨Xj,fun j t a=>by
    rw [Tryz.params6] at a
    have c:t=34∨t=37∨t=53:=by
     rcases j with _ | _ | _ | j
     ·left;simpa using a.symm
     ·right;left;simpa using a.symm
     ·right;right;simpa using a.symm
     ·simp at a
    rcases c with rfl | rfl | rfl
    ·exact (show Tryz.prog.wantsStandIn 34=false by kernel_rfl)
    ·exact (show Tryz.prog.wantsStandIn 37=false by kernel_rfl)
    ·exact (show Tryz.prog.wantsStandIn 53=false by kernel_rfl)⟩)
  Yg
#print axioms idle_card
end Go.Proofs.YtcdnijfbfdnjlaaGreatDoor
