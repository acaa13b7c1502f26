/-
  The statement CharsetPoints: its tied card.
-/
import Derived.Test.YthlhbbejcmbpoaaDoorCsP13
namespace Go.Proofs.YthlhbbejcmbpoaaDoor
open Go

theorem points_card : Rows.CharsetPointsCardSaid :=
  Claim7.holds_tied_plain_at .later [] [.data, .pinned] true (true, "274ec0357582e92e4139ca8d442bac3166c0b578d642f384fc6b6dd49a489ff7") false
    points_holds (fun _ h => by cases h) (by kernel_rfl) (fun _ h => by cases h) charsetPoints_row_tie rfl ⟨rfl, rfl⟩ (by kernel_rfl) rfl
    (fun f fn hf hfn => by
      obtain rfl : f = 13 := Option.some.inj ((show Tryd.prog.funcNamed Rows.charsetPointsRow.func = some 13 by kernel_rfl).symm.trans hf) |>.symm
      obtain rfl : fn = Tryd.f13 := (Option.some.inj (Tryd.func13.symm.trans hfn)).symm
      exact ⟨by kernel_rfl, fun j t ht => by
        rw [Tryd.params13] at ht
        have h3 : t = 9 := by
          rcases j with _ | j
          · simpa using ht.symm
          · simp at ht
        subst h3
        exact (show Tryd.prog.wantsStandIn 9 = false by kernel_rfl)⟩)
    (by kernel_rfl)
#print axioms points_card
end Go.Proofs.YthlhbbejcmbpoaaDoor
