/-
  What Cut answers.
-/
import Derived.Test.YthlhbbejcmbpoaaDoorCsC2
namespace Go.Proofs.YthlhbbejcmbpoaaDoor
open Go Go.RowKit Go.Ev
/-- How long what Cut returns is. -/
def cutK (l : List UInt8) (most : Int) : Nat := cutN (runesOf l) (min most.toNat l.length)
theorem cutN_full (rs : List (Nat × Nat)) (m m' : Nat) (h : tot rs ≤ m) (h' : tot rs ≤ m') : cutN rs m = cutN rs m' := by
  have e : rs.take rs.length = rs := List.take_length
  rw [cutN_eq rs m rs.length (by rw [e]; exact h) (Nat.le_refl _) (fun q => by omega), cutN_eq rs m' rs.length (by rw [e]; exact h') (Nat.le_refl _) (fun q => by omega)]
theorem cutA_form (s : ByteArray) (most : Int) : ∃ A e, cutA s most = .tup [.val (.string A), .val (.int .i64 e)] ∧ ((most < 0 ∧ A = ⟨#[]⟩ ∧ e = 2) ∨ (0 ≤ most ∧ Lib.validD s.data.toList = false ∧ A = ⟨#[]⟩ ∧ e = 16) ∨ (0 ≤ most ∧ Lib.validD s.data.toList = true ∧ A.data.toList = s.data.toList.take (cutK s.data.toList most) ∧ e = 0)) := by
  have hsz : s.data.toList.length = s.size := by simp
  unfold cutA
  by_cases c1 : most < 0
  · exact ⟨_, _, by rw [if_pos c1], .inl ⟨c1, rfl, rfl⟩⟩
  · rw [if_neg c1]
    by_cases c2 : Lib.validD s.data.toList = false
    · exact ⟨_, _, by rw [if_pos c2], .inr (.inl ⟨by omega, c2, rfl, rfl⟩)⟩
    · rw [if_neg c2]
      have hv : Lib.validD s.data.toList = true := by simpa using c2
      have ht : tot (runesOf s.data.toList) = s.data.toList.length := by
        have := hv
        rw [valid_tot] at this
        exact of_decide_eq_true this
      by_cases c3 : (s.size : Int) ≤ most
      · refine ⟨_, _, by rw [if_pos c3], .inr (.inr ⟨by omega, hv, ?_, rfl⟩)⟩
        have e : cutK s.data.toList most = s.data.toList.length := by
          unfold cutK
          have e0 : (runesOf s.data.toList).take (runesOf s.data.toList).length = runesOf s.data.toList := List.take_length
          have := cutN_eq (runesOf s.data.toList) (min most.toNat s.data.toList.length) (runesOf s.data.toList).length (by rw [e0]; omega) (Nat.le_refl _) (fun q => by omega)
          rw [this, e0, ht]
        rw [e, List.take_length]
      · refine ⟨_, _, by rw [if_neg c3], .inr (.inr ⟨by omega, hv, ?_, rfl⟩)⟩
        rw [ext_take, cutK, show min most.toNat s.data.toList.length = most.toNat from by omega]
end Go.Proofs.YthlhbbejcmbpoaaDoor
