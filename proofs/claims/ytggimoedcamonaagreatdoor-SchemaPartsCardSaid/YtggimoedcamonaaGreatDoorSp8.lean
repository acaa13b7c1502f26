/-
  the schema law Parts
-/
import Derived.Test.YtggimoedcamonaaGreatDoorSp7
set_option linter.unusedSimpArgs false
set_option linter.unusedVariables false
set_option maxRecDepth 100000
set_option maxHeartbeats 4000000
namespace Go.Proofs.YtggimoedcamonaaGreatDoor
open Go
theorem parts_card : Rows.SchemaPartsCardSaid :=
 Claim7.holds_tied_plain_at .later [] [.data, .data, .data, .data, .pinned] true (true, "fcc1e7a57a9ce17606b8959cd2b5942f9c281f0752ea4614b237ba76011cbc81") false
  Zij (fun _ h => by cases h) (by kernel_rfl) (fun _ h => by cases h) schemaParts_row_tie rfl ⟨rfl, rfl⟩ (by kernel_rfl) rfl
  (fun f fn hf hfn => by
   obtain rfl : f = 11 := Option.some.inj ((show Tryz.prog.funcNamed Rows.schemaPartsRow.func = some 11 by kernel_rfl).symm.trans hf) |>.symm
   obtain rfl : fn = Tryz.f11 := (Option.some.inj (Tryz.func11.symm.trans hfn)).symm
   exact ⟨by kernel_rfl, fun j t ht => by
    rw [Tryz.params11] at ht
    have h3 : t = 26 := by
     rcases j with _ | j
     ·
      simpa using ht.symm
     ·
      simp at ht
    rcases h3 with rfl
    ·
     exact (show Tryz.prog.wantsStandIn 26 = false by kernel_rfl)⟩)
  (by kernel_rfl)
#print axioms parts_card
end Go.Proofs.YtggimoedcamonaaGreatDoor
