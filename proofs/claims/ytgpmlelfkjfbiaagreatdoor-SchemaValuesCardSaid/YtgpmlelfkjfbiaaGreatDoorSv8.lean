/-
  the schema law Values
-/
import Derived.Test.YtgpmlelfkjfbiaaGreatDoorSv7
set_option linter.unusedSimpArgs false
set_option linter.unusedVariables false
set_option maxRecDepth 100000
set_option maxHeartbeats 4000000
namespace Go.Proofs.YtgpmlelfkjfbiaaGreatDoor
open Go
theorem values_card : Rows.SchemaValuesCardSaid :=
 Claim7.holds_tied_plain_at .later [] [.data, .data, .data, .data, .pinned] true (true, "37a42c920d6d7596348e1e82ca36b8ad254bc356121fcf374ffa51fbd96ea4b8") false
  Zji (fun _ h => by cases h) (by kernel_rfl) (fun _ h => by cases h) schemaValues_row_tie rfl ⟨rfl, rfl⟩ (by kernel_rfl) rfl
  (fun f fn hf hfn => by
   obtain rfl : f = 4 := Option.some.inj ((show Tryz.prog.funcNamed Rows.schemaValuesRow.func = some 4 by kernel_rfl).symm.trans hf) |>.symm
   obtain rfl : fn = Tryz.f4 := (Option.some.inj (Tryz.func4.symm.trans hfn)).symm
   exact ⟨by kernel_rfl, fun j t ht => by
    rw [Tryz.params4] at ht
    have h3 : t = 26 ∨ t = 46 := by
     rcases j with _ | _ | j
     ·
      left; simpa using ht.symm
     ·
      right; simpa using ht.symm
     ·
      simp at ht
    rcases h3 with rfl | rfl
    ·
     exact (show Tryz.prog.wantsStandIn 26 = false by kernel_rfl)
    ·
     exact (show Tryz.prog.wantsStandIn 46 = false by kernel_rfl)⟩)
  (by kernel_rfl)
#print axioms values_card
end Go.Proofs.YtgpmlelfkjfbiaaGreatDoor
