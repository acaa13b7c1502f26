/-
  The charset package, part two: plain mathematics of UTF-8: the code points of the longest valid beginning of a list of bytes, with their sizes. No program is named here.
-/
import Derived.Lib.MapLaws
import Derived.Lib.TrimUEq
import Derived.Lib.ValidLaws
import Derived.Lib.RuneBytes
import Derived.Lib.Small
namespace Go.Proofs.YthlhbbejcmbpoaaDoor
open Go Go.Lib

/-- No code point begins here. -/
def bad (l : List UInt8) : Bool := decide ((decodeL l).1 = 65533 ∧ (decodeL l).2 = 1)
/-- The code points of the longest valid beginning, each with its size. -/
def runesOf (l : List UInt8) : List (Nat × Nat) :=
  if _h : l = [] ∨ bad l = true then [] else decodeL l :: runesOf (l.drop (decodeL l).2)
termination_by l.length
decreasing_by
  have h1 := decodeL_width l
  have h2 : l ≠ [] := fun e => _h (.inl e)
  have h3 : 0 < l.length := List.length_pos_iff.2 h2
  simp only [List.length_drop]
  omega
def tot (rs : List (Nat × Nat)) : Nat := (rs.map (·.2)).sum

theorem runesOf_nil : runesOf [] = [] := by rw [runesOf]; simp
theorem runesOf_bad {l : List UInt8} (h : bad l = true) : runesOf l = [] := by rw [runesOf]; simp [h]
theorem runesOf_step {l : List UInt8} (h : l ≠ []) (hb : bad l = false) : runesOf l = decodeL l :: runesOf (l.drop (decodeL l).2) := by
  rw [runesOf, dif_neg (by simp [h, hb])]
theorem tot_append (a b : List (Nat × Nat)) : tot (a ++ b) = tot a + tot b := by simp [tot]
theorem tot_cons (p : Nat × Nat) (b : List (Nat × Nat)) : tot (p :: b) = p.2 + tot b := by simp [tot]
theorem tot_nil : tot [] = 0 := rfl

/-- An induction along the code points. -/
theorem runes_ind {C : List UInt8 → Prop} (h0 : C []) (h1 : ∀ l, l ≠ [] → bad l = true → C l) (h2 : ∀ l, l ≠ [] → bad l = false → C (l.drop (decodeL l).2) → C l) (l : List UInt8) : C l := by
  generalize hn : l.length = n
  induction n using Nat.strongRecOn generalizing l with
  | _ n ih =>
    by_cases c : l = []
    · rw [c]; exact h0
    · cases hb : bad l with
      | true => exact h1 l c hb
      | false =>
        have hw := decodeL_width l
        have hp : 0 < l.length := List.length_pos_iff.2 c
        exact h2 l c hb (ih _ (by simp only [List.length_drop]; omega) _ rfl)

theorem tot_le (l : List UInt8) : tot (runesOf l) ≤ l.length := by
  refine runes_ind (C := fun l => tot (runesOf l) ≤ l.length) ?_ ?_ ?_ l
  · rw [runesOf_nil]; exact Nat.le_refl _
  · intro l _ hb; rw [runesOf_bad hb]; exact Nat.zero_le _
  · intro l hne hb ih
    rw [runesOf_step hne hb, tot_cons]
    have := decodeL_le l hne
    simp only [List.length_drop] at ih
    omega

theorem valid_tot (l : List UInt8) : validD l = decide (tot (runesOf l) = l.length) := by
  refine runes_ind (C := fun l => validD l = decide (tot (runesOf l) = l.length)) ?_ ?_ ?_ l
  · rw [runesOf_nil, validD_nil]; rfl
  · intro l hne hb
    rw [runesOf_bad hb, validD_step l hne]
    have : (decodeL l).1 = 65533 ∧ (decodeL l).2 = 1 := by simpa [bad] using hb
    rw [if_pos this, tot_nil]
    have hp : 0 < l.length := List.length_pos_iff.2 hne
    rw [decide_eq_false (by omega)]
  · intro l hne hb ih
    have : ¬ ((decodeL l).1 = 65533 ∧ (decodeL l).2 = 1) := by simpa [bad] using hb
    rw [runesOf_step hne hb, tot_cons, validD_step l hne, if_neg this, ih]
    have h1 := decodeL_le l hne
    simp only [List.length_drop, decide_eq_decide]
    omega

/-- A code point's number. -/
def isPt (p : Int) : Bool := decide (0 ≤ p ∧ p ≤ 1114111 ∧ (p < 55296 ∨ 57343 < p))

theorem good_point {l : List UInt8} (hb : bad l = false) : isPt (decodeL l).1 = true ∧ runeLen (decodeL l).1 = (decodeL l).2 := by
  have hn : ¬ ((decodeL l).1 = 65533 ∧ (decodeL l).2 = 1) := by simpa [bad] using hb
  rw [decodeL_N] at hn ⊢
  have h0 := (l.getD 0 0).toNat_lt
  have h1 := (l.getD 1 0).toNat_lt
  have h2 := (l.getD 2 0).toNat_lt
  have h3 := (l.getD 3 0).toNat_lt
  generalize (l.getD 0 0).toNat = b0 at *
  generalize (l.getD 1 0).toNat = b1 at *
  generalize (l.getD 2 0).toNat = b2 at *
  generalize (l.getD 3 0).toNat = b3 at *
  have r1 : ∀ r : Int, 0 ≤ r → r ≤ 127 → runeLen r = 1 := fun r a b => by unfold runeLen; rw [if_neg (by omega), if_pos (by omega)]
  have r2 : ∀ r : Int, 128 ≤ r → r ≤ 2047 → runeLen r = 2 := fun r a b => by unfold runeLen; rw [if_neg (by omega), if_neg (by omega), if_pos (by omega)]
  have r3 : ∀ r : Int, 2048 ≤ r → r ≤ 65535 → (r < 55296 ∨ 57343 < r) → runeLen r = 3 := fun r a b c => by unfold runeLen; rw [if_neg (by omega), if_neg (by omega), if_neg (by omega), if_neg (by omega), if_pos (by omega)]
  have r4 : ∀ r : Int, 65536 ≤ r → r ≤ 1114111 → runeLen r = 4 := fun r a b => by unfold runeLen; rw [if_neg (by omega), if_neg (by omega), if_neg (by omega), if_neg (by omega), if_neg (by omega), if_pos (by omega)]
  unfold decodeN at hn ⊢
  simp only [isPt, decide_eq_true_eq]
  by_cases c1 : b0 < 128
  · rw [if_pos c1]; exact ⟨by omega, r1 _ (by omega) (by omega)⟩
  · rw [if_neg c1] at hn ⊢
    by_cases c2 : b0 / 32 = 6 ∧ (1 < l.length ∧ b1 / 64 = 2)
    · rw [if_pos c2] at hn ⊢
      by_cases d : b0 % 32 * 64 + b1 % 64 ≥ 128
      · rw [if_pos d]; exact ⟨by omega, r2 _ (by omega) (by omega)⟩
      · rw [if_neg d] at hn; exact absurd ⟨rfl, rfl⟩ hn
    · rw [if_neg c2] at hn ⊢
      by_cases c3 : b0 / 16 = 14 ∧ (1 < l.length ∧ b1 / 64 = 2) ∧ (2 < l.length ∧ b2 / 64 = 2)
      · rw [if_pos c3] at hn ⊢
        by_cases d : b0 % 16 * 4096 + b1 % 64 * 64 + b2 % 64 ≥ 2048 ∧ (b0 % 16 * 4096 + b1 % 64 * 64 + b2 % 64 < 55296 ∨ (57344 ≤ b0 % 16 * 4096 + b1 % 64 * 64 + b2 % 64 ∧ b0 % 16 * 4096 + b1 % 64 * 64 + b2 % 64 ≤ 1114111))
        · rw [if_pos d]; exact ⟨by omega, r3 _ (by omega) (by omega) (by omega)⟩
        · rw [if_neg d] at hn; exact absurd ⟨rfl, rfl⟩ hn
      · rw [if_neg c3] at hn ⊢
        by_cases c4 : b0 / 8 = 30 ∧ (1 < l.length ∧ b1 / 64 = 2) ∧ (2 < l.length ∧ b2 / 64 = 2) ∧ (3 < l.length ∧ b3 / 64 = 2)
        · rw [if_pos c4] at hn ⊢
          by_cases d : b0 % 8 * 262144 + b1 % 64 * 4096 + b2 % 64 * 64 + b3 % 64 ≥ 65536 ∧ (b0 % 8 * 262144 + b1 % 64 * 4096 + b2 % 64 * 64 + b3 % 64 < 55296 ∨ (57344 ≤ b0 % 8 * 262144 + b1 % 64 * 4096 + b2 % 64 * 64 + b3 % 64 ∧ b0 % 8 * 262144 + b1 % 64 * 4096 + b2 % 64 * 64 + b3 % 64 ≤ 1114111))
          · rw [if_pos d]; exact ⟨by omega, r4 _ (by omega) (by omega)⟩
          · rw [if_neg d] at hn; exact absurd ⟨rfl, rfl⟩ hn
        · rw [if_neg c4] at hn; exact absurd ⟨rfl, rfl⟩ hn

theorem runes_good (l : List UInt8) : ∀ p ∈ runesOf l, isPt p.1 = true ∧ runeLen p.1 = p.2 ∧ 1 ≤ p.2 := by
  refine runes_ind (C := fun l => ∀ p ∈ runesOf l, isPt p.1 = true ∧ runeLen p.1 = p.2 ∧ 1 ≤ p.2) ?_ ?_ ?_ l
  · rw [runesOf_nil]; intro p h; cases h
  · intro l _ hb; rw [runesOf_bad hb]; intro p h; cases h
  · intro l hne hb ih
    rw [runesOf_step hne hb]
    intro p hp
    rcases List.mem_cons.1 hp with rfl | hp
    · exact ⟨(good_point hb).1, (good_point hb).2, decodeL_width l⟩
    · exact ih p hp
end Go.Proofs.YthlhbbejcmbpoaaDoor
