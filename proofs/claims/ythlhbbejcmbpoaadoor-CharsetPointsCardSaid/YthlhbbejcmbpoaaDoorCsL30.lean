/-
  What Points answers.
-/
import Derived.Test.YthlhbbejcmbpoaaDoorCsN
namespace Go.Proofs.YthlhbbejcmbpoaaDoor
open Go Go.RowKit Go.Ev
theorem pointsA_form (s : ByteArray) : ∃ a e, pointsA s = .tup [.list (intsA a) .none, .val (.int .i64 e)] ∧ ((Lib.validD s.data.toList = true ∧ a = ptsI s.data.toList ∧ e = 0) ∨ (Lib.validD s.data.toList = false ∧ a = [] ∧ e = 16)) := by
  unfold pointsA
  cases h : Lib.validD s.data.toList with
  | true => exact ⟨ptsI s.data.toList, 0, by rw [if_pos rfl, pts_ptsI], .inl ⟨rfl, rfl, rfl⟩⟩
  | false => exact ⟨[], 16, by rw [if_neg (by simp)]; rfl, .inr ⟨rfl, rfl, rfl⟩⟩
theorem ptsI_length (l : List UInt8) : (ptsI l).length ≤ l.length := by
  have := runes_count l
  simpa [ptsI, ptsN] using this

theorem count_from (s : ByteArray) : ∀ (fuel pos : Nat), s.size ≤ pos + fuel → Lib.validD (s.data.toList.drop pos) = true → Lib.runeCountFrom s fuel pos = (runesOf (s.data.toList.drop pos)).length
  | 0, pos, h, _ => by
    have : s.data.toList.drop pos = [] := List.drop_eq_nil_of_le (by simpa using h)
    rw [this, runesOf_nil]; rfl
  | fuel + 1, pos, h, hv => by
    unfold Lib.runeCountFrom
    by_cases c : pos < s.size
    · have hne : s.data.toList.drop pos ≠ [] := drop_ne (by simpa using c)
      obtain ⟨h1, h2, _⟩ := valid_next hne hv
      have hw := Lib.decodeL_width (s.data.toList.drop pos)
      rw [if_pos c, runesOf_step hne h1, ← Lib.decodeL_drop]
      rw [List.drop_drop] at h2 ⊢
      rw [count_from s fuel _ (by omega) h2, List.length_cons]; omega
    · have : s.data.toList.drop pos = [] := List.drop_eq_nil_of_le (by simpa using c)
      rw [if_neg c, this, runesOf_nil]; rfl
theorem count_runes (s : ByteArray) (hv : Lib.validD s.data.toList = true) : Lib.runeCount s = (ptsI s.data.toList).length := by
  have := count_from s s.size 0 (by omega) (by simpa using hv)
  rw [Lib.runeCount, this]
  simp [ptsI, ptsN]
end Go.Proofs.YthlhbbejcmbpoaaDoor
