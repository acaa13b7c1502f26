/-
  The statement CharsetTexts: its tied card.
-/
import Derived.Test.YthlhbbejcmbpoaaDoorCsP11
namespace Go.Proofs.YthlhbbejcmbpoaaDoor
open Go

theorem texts_card : Rows.CharsetTextsCardSaid :=
  Claim7.holds_tied_plain_at .later [] [.data, .pinned] true (true, "274ec0357582e92e4139ca8d442bac3166c0b578d642f384fc6b6dd49a489ff7") false
    texts_holds (fun _ h => by cases h) (by kernel_rfl) (fun _ h => by cases h) charsetTexts_row_tie rfl ⟨rfl, rfl⟩ (by kernel_rfl) rfl
    (fun f fn hf hfn => by
      obtain rfl : f = 11 := Option.some.inj ((show Tryd.prog.funcNamed Rows.charsetTextsRow.func = some 11 by kernel_rfl).symm.trans hf) |>.symm
      obtain rfl : fn = Tryd.f11 := (Option.some.inj (Tryd.func11.symm.trans hfn)).symm
      exact ⟨by kernel_rfl, fun j t ht => by
        rw [Tryd.params11] at ht
        have h3 : t = 23 := by
          rcases j with _ | j
          · simpa using ht.symm
          · simp at ht
        subst h3
        exact (show Tryd.prog.wantsStandIn 23 = false by kernel_rfl)⟩)
    (by kernel_rfl)
#print axioms texts_card
end Go.Proofs.YthlhbbejcmbpoaaDoor
