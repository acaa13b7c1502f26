/-
  the saga law Envs
-/
import Derived.Test.YtkpooohjodojoaaGreatDoorSg13
set_option linter.unusedSimpArgs false
set_option linter.unusedVariables false
set_option maxRecDepth 100000
set_option maxHeartbeats 4000000
namespace Go.Proofs.YtkpooohjodojoaaGreatDoor
open Go
theorem sagEnvs_lk : true = Tryz.prog.looks [] := by kernel_rfl
theorem sagEnvs_gb : false = Rows.sagaEnvsRow.goesBy Tryz.prog := by kernel_rfl
theorem envs_card : Rows.SagaEnvsCardSaid :=
 Claim7.holds_tied_plain_at .later [] [.data, .data, .data, .data, .sentinel, .sentinel, .pinned] true (true, "9b7bf386a1aede70bb928ab5d01f724236ce93b2493d03e574e9c82d9c43557d") true
  sagEnvs_holds (fun _ h => by cases h) (by kernel_rfl) (fun _ h => by cases h) sagaEnvs_row_tie rfl ⟨rfl, rfl⟩ (by kernel_rfl) rfl
  (fun f fn hf hfn => by
   obtain rfl : f = 5 := Option.some.inj ((show Tryz.prog.funcNamed Rows.sagaEnvsRow.func = some 5 by kernel_rfl).symm.trans hf) |>.symm
   obtain rfl : fn = Tryz.f5 := (Option.some.inj (Tryz.func5.symm.trans hfn)).symm
   exact ⟨sagEnvs_lk, fun j t ht => by
    rw [Tryz.params5] at ht
    have h3 : t = 52 ∨ t = 33 := by
     rcases j with _ | _ | j
     ·
      left; simpa using ht.symm
     ·
      right; simpa using ht.symm
     ·
      simp at ht
    rcases h3 with rfl | rfl
    ·
     exact (show Tryz.prog.wantsStandIn 52 = false by kernel_rfl)
    ·
     exact (show Tryz.prog.wantsStandIn 33 = false by kernel_rfl)⟩)
  sagEnvs_gb
#print axioms envs_card
end Go.Proofs.YtkpooohjodojoaaGreatDoor
