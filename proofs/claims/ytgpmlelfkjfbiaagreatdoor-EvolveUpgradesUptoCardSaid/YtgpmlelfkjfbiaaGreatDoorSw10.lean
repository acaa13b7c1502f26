/-
  Part 10 of the proof: rules and walks that the claim's last text uses.
-/
import Derived.Test.YtgpmlelfkjfbiaaGreatDoorSw9
set_option linter.unusedSimpArgs false
set_option linter.unusedVariables false
set_option maxRecDepth 100000
set_option maxHeartbeats 4000000
namespace Go.Proofs.YtgpmlelfkjfbiaaGreatDoor
open Go Go.Shelf Go.ChangeShapes Go.WideShapes Go.ChangeAt Go.RowKit Go.Lib Go.Ev
theorem Znw:(Rows.evolveUpgradesUptoRow.inPlace == Tryz.prog.inPlace 5)=true:=by kernel_rfl
theorem ZnK:(Rows.evolveUpgradesUptoRow.unfollowed == Tryz.prog.unfollowed 5)=true:=by kernel_rfl
theorem Zm0:(Rows.evolveUpgradesUptoRow.recurses == Tryz.prog.recurses 5)=true:=by kernel_rfl
theorem Znx:(Rows.evolveUpgradesUptoRow.named == Tryz.prog.varsNamed 5)=true:=by kernel_rfl
theorem Zn3:joinedFacts Tryz.prog 5 Tryz.f5 (Rows.OpenSpec.upto Rows.evolveUpgradesSpec).bare Rows.evolveUpgradesUptoRow=true:=by
 unfold joinedFacts
 rw [Znw,ZnK,Zm0,Znx]
 kernel_rfl
theorem Zjx:Rows.EvolveUpgradesUptoSaid :=
 OpenClaim.holds_of_cond 5 Tryz.f5 rfl rfl rfl rfl rfl rfl rfl ⟨rfl,rfl,rfl,rfl,rfl⟩ rfl rfl rfl rfl rfl (by kernel_rfl) Tryz.func5 Zn3
  (of_decide_eq_true (by kernel_rfl)) (by unfold Func.isWrapper;rw [if_neg (of_decide_eq_false (by kernel_rfl))];exact ⟨rfl,rfl⟩)
  (fun os a H b _ F0=>by rw [OpenClaim.pre_eq_preRow];exact ZiS os a H b F0)
end Go.Proofs.YtgpmlelfkjfbiaaGreatDoor
