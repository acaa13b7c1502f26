/-
  the loss law Composes
-/
import Derived.Test.YtmcnjijeocmkgaaGreatDoorLc10
set_option linter.unusedSimpArgs false
set_option linter.unusedVariables false
set_option maxRecDepth 100000
set_option maxHeartbeats 4000000
namespace Go.Proofs.YtmcnjijeocmkgaaGreatDoor
open Go
theorem VF:true=Tryz.prog.looks []:=by kernel_rfl
theorem VZ:false=Rows.lossComposesRow.goesBy Tryz.prog:=by kernel_rfl
theorem composes_card:Rows.LossComposesCardSaid :=
 Claim7.holds_tied_plain_at .later [] [.data,.data,.data,.data,.sentinel,.sentinel,.widerDeep,.pinned] true (true, "fa91f66bb46e36df51cee936e900b5ac9d46b91ac0ce37dab5039757c45e6ed3") true
  Ro (fun _ h=>by cases h) (by kernel_rfl) (fun _ h=>by cases h) lossComposes_row_tie rfl ⟨rfl,rfl⟩ (by kernel_rfl) rfl
  (fun f d c b=>by
   obtain rfl:f=5:=Option.some.inj ((show Tryz.prog.funcNamed Rows.lossComposesRow.func=some 5 by kernel_rfl).symm.trans c) |>.symm
   obtain rfl:d=Tryz.f5:=(Option.some.inj (Tryz.func5.symm.trans b)).symm
   exact ⟨VF,fun j t a=>by
    rw [Tryz.params5] at a
    have e:t=49∨t=26:=by
     rcases j with _ | _ | _ | j
     ·left;simpa using a.symm
     ·left;simpa using a.symm
     ·right;simpa using a.symm
     ·simp at a
    rcases e with rfl | rfl
    ·exact (show Tryz.prog.wantsStandIn 49=false by kernel_rfl)
    ·exact (show Tryz.prog.wantsStandIn 26=false by kernel_rfl)⟩)
  VZ
#print axioms composes_card
end Go.Proofs.YtmcnjijeocmkgaaGreatDoor
