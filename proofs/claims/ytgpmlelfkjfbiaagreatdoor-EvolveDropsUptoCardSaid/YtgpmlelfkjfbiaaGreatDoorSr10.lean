/-
  Part 10 of the proof: rules and walks that the claim's last text uses.
-/
import Derived.Test.YtgpmlelfkjfbiaaGreatDoorSr9
set_option linter.unusedSimpArgs false
set_option linter.unusedVariables false
set_option maxRecDepth 100000
set_option maxHeartbeats 4000000
namespace Go.Proofs.YtgpmlelfkjfbiaaGreatDoor
open Go Go.Shelf Go.ChangeShapes Go.WideShapes Go.ChangeAt Go.RowKit Go.Lib Go.Ev
theorem XA:(Rows.evolveDropsUptoRow.inPlace == Tryz.prog.inPlace 10)=true:=by kernel_rfl
theorem XK:(Rows.evolveDropsUptoRow.unfollowed == Tryz.prog.unfollowed 10)=true:=by kernel_rfl
theorem XE:(Rows.evolveDropsUptoRow.recurses == Tryz.prog.recurses 10)=true:=by kernel_rfl
theorem X8:(Rows.evolveDropsUptoRow.named == Tryz.prog.varsNamed 10)=true:=by kernel_rfl
theorem YU:joinedFacts Tryz.prog 10 Tryz.f10 (Rows.OpenSpec.upto Rows.evolveDropsSpec).bare Rows.evolveDropsUptoRow=true:=by
 unfold joinedFacts
 rw [XA,XK,XE,X8]
 kernel_rfl
theorem P4:Rows.EvolveDropsUptoSaid :=
 OpenClaim.holds_of_cond 10 Tryz.f10 rfl rfl rfl rfl rfl rfl rfl ⟨rfl,rfl,rfl,rfl,rfl⟩ rfl rfl rfl rfl rfl (by kernel_rfl) Tryz.func10 YU
  (of_decide_eq_true (by kernel_rfl)) (by unfold Func.isWrapper;rw [Af (of_decide_eq_false (by kernel_rfl))];exact ⟨rfl,rfl⟩)
  (fun b a H enc _ c=>by rw [OpenClaim.pre_eq_preRow];exact PD b a H enc c)
end Go.Proofs.YtgpmlelfkjfbiaaGreatDoor
