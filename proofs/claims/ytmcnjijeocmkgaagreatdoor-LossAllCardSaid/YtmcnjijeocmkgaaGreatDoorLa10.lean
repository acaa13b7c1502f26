/-
  the loss law All
-/
import Derived.Test.YtmcnjijeocmkgaaGreatDoorLa9
set_option linter.unusedSimpArgs false
set_option linter.unusedVariables false
set_option maxRecDepth 100000
set_option maxHeartbeats 4000000
namespace Go.Proofs.YtmcnjijeocmkgaaGreatDoor
open Go
theorem Zam:true=Tryz.prog.looks []:=by kernel_rfl
theorem Za5:false=Rows.lossAllRow.goesBy Tryz.prog:=by kernel_rfl
theorem all_card:Rows.LossAllCardSaid :=
 Claim7.holds_tied_plain_at .later [] [.data,.data,.data,.data,.sentinel,.sentinel,.widerDeep,.pinned] true (true, "fa91f66bb46e36df51cee936e900b5ac9d46b91ac0ce37dab5039757c45e6ed3") true
  VY (fun _ h=>by cases h) (by kernel_rfl) (fun _ h=>by cases h) lossAll_row_tie rfl ⟨rfl,rfl⟩ (by kernel_rfl) rfl
  (fun f e c a=>by
   obtain rfl:f=6:=Option.some.inj ((show Tryz.prog.funcNamed Rows.lossAllRow.func=some 6 by kernel_rfl).symm.trans c) |>.symm
   obtain rfl:e=Tryz.f6:=(Option.some.inj (Tryz.func6.symm.trans a)).symm
   exact ⟨Zam,fun j t b=>by
    rw [Tryz.params6] at b
    have d:t=26:=by
     rcases j with _ | j
     ·simpa using b.symm
     ·simp at b
    rcases d with rfl
    ·exact (show Tryz.prog.wantsStandIn 26=false by kernel_rfl)⟩)
  Za5
#print axioms all_card
end Go.Proofs.YtmcnjijeocmkgaaGreatDoor
