/-
  the loss law Chains
-/
import Derived.Test.YtmcnjijeocmkgaaGreatDoorLh10
set_option linter.unusedSimpArgs false
set_option linter.unusedVariables false
set_option maxRecDepth 100000
set_option maxHeartbeats 4000000
namespace Go.Proofs.YtmcnjijeocmkgaaGreatDoor
open Go
theorem YZ:true=Tryz.prog.looks []:=by kernel_rfl
theorem Yf:false=Rows.lossChainsRow.goesBy Tryz.prog:=by kernel_rfl
theorem chains_card:Rows.LossChainsCardSaid :=
 Claim7.holds_tied_plain_at .later [] [.data,.data,.data,.data,.sentinel,.sentinel,.widerDeep,.pinned] true (true, "fa91f66bb46e36df51cee936e900b5ac9d46b91ac0ce37dab5039757c45e6ed3") true
  Ug (fun _ h=>by cases h) (by kernel_rfl) (fun _ h=>by cases h) lossChains_row_tie rfl ⟨rfl,rfl⟩ (by kernel_rfl) rfl
  (fun f c d a=>by
   obtain rfl:f=7:=Option.some.inj ((show Tryz.prog.funcNamed Rows.lossChainsRow.func=some 7 by kernel_rfl).symm.trans d) |>.symm
   obtain rfl:c=Tryz.f7:=(Option.some.inj (Tryz.func7.symm.trans a)).symm
   exact ⟨YZ,fun j t b=>by
    rw [Tryz.params7] at b
    have e:t=75:=by
     rcases j with _ | j
     ·simpa using b.symm
     ·simp at b
    rcases e with rfl
    ·exact (show Tryz.prog.wantsStandIn 75=false by kernel_rfl)⟩)
  Yf
#print axioms chains_card
end Go.Proofs.YtmcnjijeocmkgaaGreatDoor
