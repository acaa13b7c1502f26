/-
  the evolve law Upgrades, for arguments of a bounded bulk
-/
import Derived.Test.YtgpmlelfkjfbiaaGreatDoorSw10
set_option linter.unusedSimpArgs false
set_option linter.unusedVariables false
set_option maxRecDepth 100000
set_option maxHeartbeats 4000000
namespace Go.Proofs.YtgpmlelfkjfbiaaGreatDoor
open Go
theorem upgrades_card:Rows.EvolveUpgradesUptoCardSaid :=
 Claim7.holds_tied_plain_at .later [] [.data,.data,.data,.data,.pinned] true (true, "37a42c920d6d7596348e1e82ca36b8ad254bc356121fcf374ffa51fbd96ea4b8") false
  Zjx (fun _ h=>by cases h) (by kernel_rfl) (fun _ h=>by cases h) evolveUpgradesUpto_row_tie rfl ⟨rfl,rfl⟩ (by kernel_rfl) rfl
  (fun f fn hf a=>by
   obtain rfl:f=5:=Option.some.inj ((show Tryz.prog.funcNamed Rows.evolveUpgradesUptoRow.func=some 5 by kernel_rfl).symm.trans hf) |>.symm
   obtain rfl:fn=Tryz.f5:=(Option.some.inj (Tryz.func5.symm.trans a)).symm
   exact ⟨by kernel_rfl,fun j t ht=>by
    rw [Tryz.params5] at ht
    have h3:t=58∨t=46:=by
     rcases j with _ | _ | j
     ·
      left;simpa using ht.symm
     ·
      right;simpa using ht.symm
     ·
      simp at ht
    rcases h3 with rfl | rfl
    ·
     exact (show Tryz.prog.wantsStandIn 58=false by kernel_rfl)
    ·
     exact (show Tryz.prog.wantsStandIn 46=false by kernel_rfl)⟩)
  (by kernel_rfl)
#print axioms upgrades_card
end Go.Proofs.YtgpmlelfkjfbiaaGreatDoor
