/-
  Part 10 of the proof: rules and walks that the claim's last text uses.
-/
import Derived.Test.YtgpmlelfkjfbiaaGreatDoorSl9
set_option linter.unusedSimpArgs false
set_option linter.unusedVariables false
set_option maxRecDepth 100000
set_option maxHeartbeats 4000000
namespace Go.Proofs.YtgpmlelfkjfbiaaGreatDoor
open Go Go.Shelf Go.ChangeShapes Go.WideShapes Go.ChangeAt Go.RowKit Go.Lib Go.Ev
theorem TC:(Rows.evolveLosslessUptoRow.inPlace == Tryz.prog.inPlace 8)=true:=by kernel_rfl
theorem TD:(Rows.evolveLosslessUptoRow.unfollowed == Tryz.prog.unfollowed 8)=true:=by kernel_rfl
theorem Tv:(Rows.evolveLosslessUptoRow.recurses == Tryz.prog.recurses 8)=true:=by kernel_rfl
theorem TO:(Rows.evolveLosslessUptoRow.named == Tryz.prog.varsNamed 8)=true:=by kernel_rfl
theorem UG:joinedFacts Tryz.prog 8 Tryz.f8 (Rows.OpenSpec.upto Rows.evolveLosslessSpec).bare Rows.evolveLosslessUptoRow=true:=by
 unfold joinedFacts
 rw [TC,TD,Tv,TO]
 kernel_rfl
theorem On:Rows.EvolveLosslessUptoSaid :=
 OpenClaim.holds_of_cond 8 Tryz.f8 rfl rfl rfl rfl rfl rfl rfl ⟨rfl,rfl,rfl,rfl,rfl⟩ rfl rfl rfl rfl rfl (by kernel_rfl) Tryz.func8 UG
  (of_decide_eq_true (by kernel_rfl)) (by unfold Func.isWrapper;rw [Af (of_decide_eq_false (by kernel_rfl))];exact ⟨rfl,rfl⟩)
  (fun c a H enc _ b=>by rw [OpenClaim.pre_eq_preRow];exact N3 c a H enc b)
end Go.Proofs.YtgpmlelfkjfbiaaGreatDoor
