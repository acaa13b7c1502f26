/-
  the evolve law Drops, for arguments of a bounded bulk
-/
import Derived.Test.YtgpmlelfkjfbiaaGreatDoorSr10
set_option linter.unusedSimpArgs false
set_option linter.unusedVariables false
set_option maxRecDepth 100000
set_option maxHeartbeats 4000000
namespace Go.Proofs.YtgpmlelfkjfbiaaGreatDoor
open Go
theorem drops_card:Rows.EvolveDropsUptoCardSaid :=
 Claim7.holds_tied_plain_at .later [] [.data,.data,.data,.data,.pinned] true (true, "37a42c920d6d7596348e1e82ca36b8ad254bc356121fcf374ffa51fbd96ea4b8") false
  P4 (fun _ h=>by cases h) (by kernel_rfl) (fun _ h=>by cases h) evolveDropsUpto_row_tie rfl ⟨rfl,rfl⟩ (by kernel_rfl) rfl
  (fun f e c b=>by
   obtain rfl:f=10:=Option.some.inj ((show Tryz.prog.funcNamed Rows.evolveDropsUptoRow.func=some 10 by kernel_rfl).symm.trans c) |>.symm
   obtain rfl:e=Tryz.f10:=(Option.some.inj (Tryz.func10.symm.trans b)).symm
   exact ⟨by kernel_rfl,fun j t a=>by
    rw [Tryz.params10] at a
    have d:t=26∨t=5∨t=46:=by
     rcases j with _ | _ | _ | j
     ·left;simpa using a.symm
     ·right;left;simpa using a.symm
     ·right;right;simpa using a.symm
     ·simp at a
    rcases d with rfl | rfl | rfl
    ·exact (show Tryz.prog.wantsStandIn 26=false by kernel_rfl)
    ·exact (show Tryz.prog.wantsStandIn 5=false by kernel_rfl)
    ·exact (show Tryz.prog.wantsStandIn 46=false by kernel_rfl)⟩)
  (by kernel_rfl)
#print axioms drops_card
end Go.Proofs.YtgpmlelfkjfbiaaGreatDoor
