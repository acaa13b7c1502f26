/-
  the saga law Open
-/
import Derived.Test.YtcdnijfbfdnjlaaGreatDoorKo14
set_option linter.unusedSimpArgs false
set_option linter.unusedVariables false
set_option maxRecDepth 100000
set_option maxHeartbeats 4000000
namespace Go.Proofs.YtcdnijfbfdnjlaaGreatDoor
open Go
theorem VC:true=Tryz.prog.looks []:=by kernel_rfl
theorem Vx:false=Rows.sagaOpenRow.goesBy Tryz.prog:=by kernel_rfl
theorem open_card:Rows.SagaOpenCardSaid :=
 Claim7.holds_tied_plain_at .later [] [.data,.data,.data,.data,.sentinel,.sentinel,.pinned] true (true, "1f2a2faa79bf3430db6fd39b80f593c041ab4e7fc71c85cbbe053ee9c8f6eacb") true
  P6 (fun _ h=>by cases h) (by kernel_rfl) (fun _ h=>by cases h) sagaOpen_row_tie rfl ⟨rfl,rfl⟩ (by kernel_rfl) rfl
  (fun f e d b=>by
   obtain rfl:f=4:=Option.some.inj ((show Tryz.prog.funcNamed Rows.sagaOpenRow.func=some 4 by kernel_rfl).symm.trans d) |>.symm
   obtain rfl:e=Tryz.f4:=(Option.some.inj (Tryz.func4.symm.trans b)).symm
   exact ⟨VC,fun j t a=>by
    rw [Tryz.params4] at a
    have c:t=34∨t=37:=by
     rcases j with _ | _ | j
     ·left;simpa using a.symm
     ·right;simpa using a.symm
     ·simp at a
    rcases c with rfl | rfl
    ·exact (show Tryz.prog.wantsStandIn 34=false by kernel_rfl)
    ·exact (show Tryz.prog.wantsStandIn 37=false by kernel_rfl)⟩)
  Vx
#print axioms open_card
end Go.Proofs.YtcdnijfbfdnjlaaGreatDoor
