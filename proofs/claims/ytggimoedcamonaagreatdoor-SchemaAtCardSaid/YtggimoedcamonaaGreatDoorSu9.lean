/-
  the schema law At
-/
import Derived.Test.YtggimoedcamonaaGreatDoorSu8
set_option linter.unusedSimpArgs false
set_option linter.unusedVariables false
set_option maxRecDepth 100000
set_option maxHeartbeats 4000000
namespace Go.Proofs.YtggimoedcamonaaGreatDoor
open Go
theorem at_card : Rows.SchemaAtCardSaid :=
 Claim7.holds_tied_plain_at .later [] [.data, .data, .data, .data, .pinned] true (true, "fcc1e7a57a9ce17606b8959cd2b5942f9c281f0752ea4614b237ba76011cbc81") false
  Znz (fun _ h => by cases h) (by kernel_rfl) (fun _ h => by cases h) schemaAt_row_tie rfl ⟨rfl, rfl⟩ (by kernel_rfl) rfl
  (fun f fn hf hfn => by
   obtain rfl : f = 6 := Option.some.inj ((show Tryz.prog.funcNamed Rows.schemaAtRow.func = some 6 by kernel_rfl).symm.trans hf) |>.symm
   obtain rfl : fn = Tryz.f6 := (Option.some.inj (Tryz.func6.symm.trans hfn)).symm
   exact ⟨by kernel_rfl, fun j t ht => by
    rw [Tryz.params6] at ht
    have h3 : t = 26 ∨ t = 42 := by
     rcases j with _ | _ | j
     ·
      left; simpa using ht.symm
     ·
      right; simpa using ht.symm
     ·
      simp at ht
    rcases h3 with rfl | rfl
    ·
     exact (show Tryz.prog.wantsStandIn 26 = false by kernel_rfl)
    ·
     exact (show Tryz.prog.wantsStandIn 42 = false by kernel_rfl)⟩)
  (by kernel_rfl)
#print axioms at_card
end Go.Proofs.YtggimoedcamonaaGreatDoor
