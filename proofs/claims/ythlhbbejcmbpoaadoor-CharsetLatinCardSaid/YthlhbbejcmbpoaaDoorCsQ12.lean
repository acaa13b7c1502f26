/-
  The statement CharsetLatin: its tied card.
-/
import Derived.Test.YthlhbbejcmbpoaaDoorCsP12
namespace Go.Proofs.YthlhbbejcmbpoaaDoor
open Go

theorem latin_card : Rows.CharsetLatinCardSaid :=
  Claim7.holds_tied_plain_at .later [] [.data, .pinned] true (true, "274ec0357582e92e4139ca8d442bac3166c0b578d642f384fc6b6dd49a489ff7") false
    latin_holds (fun _ h => by cases h) (by kernel_rfl) (fun _ h => by cases h) charsetLatin_row_tie rfl ⟨rfl, rfl⟩ (by kernel_rfl) rfl
    (fun f fn hf hfn => by
      obtain rfl : f = 12 := Option.some.inj ((show Tryd.prog.funcNamed Rows.charsetLatinRow.func = some 12 by kernel_rfl).symm.trans hf) |>.symm
      obtain rfl : fn = Tryd.f12 := (Option.some.inj (Tryd.func12.symm.trans hfn)).symm
      exact ⟨by kernel_rfl, fun j t ht => by
        rw [Tryd.params12] at ht
        have h3 : t = 9 := by
          rcases j with _ | j
          · simpa using ht.symm
          · simp at ht
        subst h3
        exact (show Tryd.prog.wantsStandIn 9 = false by kernel_rfl)⟩)
    (by kernel_rfl)
#print axioms latin_card
end Go.Proofs.YthlhbbejcmbpoaaDoor
