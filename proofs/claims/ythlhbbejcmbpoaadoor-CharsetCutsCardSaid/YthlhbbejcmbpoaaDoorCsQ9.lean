/-
  The statement CharsetCuts: its tied card.
-/
import Derived.Test.YthlhbbejcmbpoaaDoorCsP9
namespace Go.Proofs.YthlhbbejcmbpoaaDoor
open Go

theorem cuts_card : Rows.CharsetCutsCardSaid :=
  Claim7.holds_tied_plain_at .later [] [.data, .pinned] true (true, "274ec0357582e92e4139ca8d442bac3166c0b578d642f384fc6b6dd49a489ff7") false
    cuts_holds (fun _ h => by cases h) (by kernel_rfl) (fun _ h => by cases h) charsetCuts_row_tie rfl ⟨rfl, rfl⟩ (by kernel_rfl) rfl
    (fun f fn hf hfn => by
      obtain rfl : f = 9 := Option.some.inj ((show Tryd.prog.funcNamed Rows.charsetCutsRow.func = some 9 by kernel_rfl).symm.trans hf) |>.symm
      obtain rfl : fn = Tryd.f9 := (Option.some.inj (Tryd.func9.symm.trans hfn)).symm
      exact ⟨by kernel_rfl, fun j t ht => by
        rw [Tryd.params9] at ht
        have h3 : t = 9 ∨ t = 3 := by
          rcases j with _ | _ | j
          · left; simpa using ht.symm
          · right; simpa using ht.symm
          · simp at ht
        rcases h3 with rfl | rfl
        · exact (show Tryd.prog.wantsStandIn 9 = false by kernel_rfl)
        · exact (show Tryd.prog.wantsStandIn 3 = false by kernel_rfl)⟩)
    (by kernel_rfl)
#print axioms cuts_card
end Go.Proofs.YthlhbbejcmbpoaaDoor
