/-
  the loss law Lost
-/
import Derived.Test.YtmcnjijeocmkgaaGreatDoorLo10
set_option linter.unusedSimpArgs false
set_option linter.unusedVariables false
set_option maxRecDepth 100000
set_option maxHeartbeats 4000000
namespace Go.Proofs.YtmcnjijeocmkgaaGreatDoor
open Go
theorem Zl:true=Tryz.prog.looks []:=by kernel_rfl
theorem Y9:false=Rows.lossLostRow.goesBy Tryz.prog:=by kernel_rfl
theorem lost_card:Rows.LossLostCardSaid :=
 Claim7.holds_tied_plain_at .later [] [.data,.data,.data,.data,.sentinel,.sentinel,.widerDeep,.pinned] true (true, "fa91f66bb46e36df51cee936e900b5ac9d46b91ac0ce37dab5039757c45e6ed3") true
  UI (fun _ h=>by cases h) (by kernel_rfl) (fun _ h=>by cases h) lossLost_row_tie rfl ⟨rfl,rfl⟩ (by kernel_rfl) rfl
  (fun f e c b=>by
   obtain rfl:f=4:=Option.some.inj ((show Tryz.prog.funcNamed Rows.lossLostRow.func=some 4 by kernel_rfl).symm.trans c) |>.symm
   obtain rfl:e=Tryz.f4:=(Option.some.inj (Tryz.func4.symm.trans b)).symm
   exact ⟨Zl,fun j t a=>by
    rw [Tryz.params4] at a
    have d:t=49∨t=26∨t=9:=by
     rcases j with _ | _ | _ | j
     ·left;simpa using a.symm
     ·right;left;simpa using a.symm
     ·right;right;simpa using a.symm
     ·simp at a
    rcases d with rfl | rfl | rfl
    ·exact (show Tryz.prog.wantsStandIn 49=false by kernel_rfl)
    ·exact (show Tryz.prog.wantsStandIn 26=false by kernel_rfl)
    ·exact (show Tryz.prog.wantsStandIn 9=false by kernel_rfl)⟩)
  Y9
#print axioms lost_card
end Go.Proofs.YtmcnjijeocmkgaaGreatDoor
