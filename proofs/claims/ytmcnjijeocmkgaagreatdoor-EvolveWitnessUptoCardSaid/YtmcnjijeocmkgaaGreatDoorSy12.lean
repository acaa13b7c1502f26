/-
  the evolve law Witness, for arguments of a bounded bulk
-/
import Derived.Test.YtmcnjijeocmkgaaGreatDoorSy11
set_option linter.unusedSimpArgs false
set_option linter.unusedVariables false
set_option maxRecDepth 100000
set_option maxHeartbeats 4000000
namespace Go.Proofs.YtmcnjijeocmkgaaGreatDoor
open Go
theorem Tv:true=Tryz.prog.looks []:=by kernel_rfl
theorem TI:false=Rows.evolveWitnessUptoRow.goesBy Tryz.prog:=by kernel_rfl
theorem witness_card:Rows.EvolveWitnessUptoCardSaid :=
 Claim7.holds_tied_plain_at .later [] [.data,.data,.data,.data,.pinned] true (true, "fa91f66bb46e36df51cee936e900b5ac9d46b91ac0ce37dab5039757c45e6ed3") true
  QD (fun _ h=>by cases h) (by kernel_rfl) (fun _ h=>by cases h) evolveWitnessUpto_row_tie rfl ⟨rfl,rfl⟩ (by kernel_rfl) rfl
  (fun f c e b=>by
   obtain rfl:f=3:=Option.some.inj ((show Tryz.prog.funcNamed Rows.evolveWitnessUptoRow.func=some 3 by kernel_rfl).symm.trans e) |>.symm
   obtain rfl:c=Tryz.f3:=(Option.some.inj (Tryz.func3.symm.trans b)).symm
   exact ⟨Tv,fun j t a=>by
    rw [Tryz.params3] at a
    have d:t=28:=by
     rcases j with _ | j
     ·simpa using a.symm
     ·simp at a
    rcases d with rfl
    ·exact (show Tryz.prog.wantsStandIn 28=false by kernel_rfl)⟩)
  TI
#print axioms witness_card
end Go.Proofs.YtmcnjijeocmkgaaGreatDoor
