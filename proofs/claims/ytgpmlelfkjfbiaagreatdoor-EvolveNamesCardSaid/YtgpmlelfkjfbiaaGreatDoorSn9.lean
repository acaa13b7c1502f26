/-
  the evolve law Names: Name returns the word for any kind of changes.
-/
import Derived.Test.YtgpmlelfkjfbiaaGreatDoorSn8
set_option linter.unusedSimpArgs false
set_option linter.unusedVariables false
set_option maxRecDepth 100000
set_option maxHeartbeats 4000000
namespace Go.Proofs.YtgpmlelfkjfbiaaGreatDoor
open Go
theorem names_card : Rows.EvolveNamesCardSaid :=
 Claim7.holds_tied_plain_at .later [] [.data, .data, .data, .data, .pinned] true (true, "37a42c920d6d7596348e1e82ca36b8ad254bc356121fcf374ffa51fbd96ea4b8") false
  ZjU (fun _ h => by cases h) (by kernel_rfl) (fun _ h => by cases h) evolveNames_row_tie rfl ⟨rfl, rfl⟩ (by kernel_rfl) rfl
  (fun f fn hf hfn => by
   obtain rfl : f = 6 := Option.some.inj ((show Tryz.prog.funcNamed Rows.evolveNamesRow.func = some 6 by kernel_rfl).symm.trans hf) |>.symm
   obtain rfl : fn = Tryz.f6 := (Option.some.inj (Tryz.func6.symm.trans hfn)).symm
   exact ⟨by kernel_rfl, fun j t ht => by
    rw [Tryz.params6] at ht
    have h3 : t = 3 := by
     rcases j with _ | j
     ·
      simpa using ht.symm
     ·
      simp at ht
    rcases h3 with rfl
    ·
     exact (show Tryz.prog.wantsStandIn 3 = false by kernel_rfl)⟩)
  (by kernel_rfl)
#print axioms names_card
end Go.Proofs.YtgpmlelfkjfbiaaGreatDoor
