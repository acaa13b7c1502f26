/-
  the evolve law Same, for arguments of a bounded bulk
-/
import Derived.Test.YtgpmlelfkjfbiaaGreatDoorSc10
set_option linter.unusedSimpArgs false
set_option linter.unusedVariables false
set_option maxRecDepth 100000
set_option maxHeartbeats 4000000
namespace Go.Proofs.YtgpmlelfkjfbiaaGreatDoor
open Go
theorem same_card:Rows.EvolveSameUptoCardSaid :=
 Claim7.holds_tied_plain_at .later [] [.data,.data,.data,.data,.pinned] true (true, "37a42c920d6d7596348e1e82ca36b8ad254bc356121fcf374ffa51fbd96ea4b8") false
  Qv (fun _ h=>by cases h) (by kernel_rfl) (fun _ h=>by cases h) evolveSameUpto_row_tie rfl ⟨rfl,rfl⟩ (by kernel_rfl) rfl
  (fun f e d b=>by
   obtain rfl:f=9:=Option.some.inj ((show Tryz.prog.funcNamed Rows.evolveSameUptoRow.func=some 9 by kernel_rfl).symm.trans d) |>.symm
   obtain rfl:e=Tryz.f9:=(Option.some.inj (Tryz.func9.symm.trans b)).symm
   exact ⟨by kernel_rfl,fun j t a=>by
    rw [Tryz.params9] at a
    have c:t=26∨t=46:=by
     rcases j with _ | _ | j
     ·left;simpa using a.symm
     ·right;simpa using a.symm
     ·simp at a
    rcases c with rfl | rfl
    ·exact (show Tryz.prog.wantsStandIn 26=false by kernel_rfl)
    ·exact (show Tryz.prog.wantsStandIn 46=false by kernel_rfl)⟩)
  (by kernel_rfl)
#print axioms same_card
end Go.Proofs.YtgpmlelfkjfbiaaGreatDoor
