/-
  The charset package: plain mathematics of the reference's decoder: what it computes is what Go's library decodes.
-/
import Derived.Test.YthlhbbejcmbpoaaDoorCsB
namespace Go.Proofs.YthlhbbejcmbpoaaDoor
open Go Go.Lib

def byteN (l : List UInt8) (i : Nat) : Nat := (l.getD i 0).toNat
/-- The number of bytes that the first one announces (0: none), and its part of the number. -/
def leadB (b : Nat) : Nat × Int :=
  if b < 128 then (1, b) else if 192 ≤ b ∧ b < 224 then (2, b - 192) else if 224 ≤ b ∧ b < 240 then (3, b - 224) else if 240 ≤ b ∧ b < 248 then (4, b - 240) else (0, 0)
/-- With k further bytes. -/
def accF (l : List UInt8) (p : Int) : Nat → Int
  | 0 => p
  | k + 1 => 64 * accF l p k + byteN l (k + 1) - 128
def contB (b : Nat) : Prop := 128 ≤ b ∧ b < 192

theorem byteN_lt (l : List UInt8) (i : Nat) : byteN l i < 256 := (l.getD i 0).toNat_lt
theorem bad_N (l : List UInt8) : bad l = decide ((decodeN l.length (byteN l 0) (byteN l 1) (byteN l 2) (byteN l 3)).1 = 65533 ∧ (decodeN l.length (byteN l 0) (byteN l 1) (byteN l 2) (byteN l 3)).2 = 1) := by
  unfold bad; rw [decodeL_N]; rfl

theorem leadB_cases (b : Nat) : (leadB b = (1, (b : Int)) ∧ b < 128) ∨ (leadB b = (2, (b : Int) - 192) ∧ 192 ≤ b ∧ b < 224) ∨ (leadB b = (3, (b : Int) - 224) ∧ 224 ≤ b ∧ b < 240) ∨ (leadB b = (4, (b : Int) - 240) ∧ 240 ≤ b ∧ b < 248) ∨
    (leadB b = (0, 0) ∧ 128 ≤ b ∧ (b < 192 ∨ 248 ≤ b)) := by
  unfold leadB
  by_cases c1 : b < 128
  · exact .inl ⟨if_pos c1, c1⟩
  · rw [if_neg c1]
    by_cases c2 : 192 ≤ b ∧ b < 224
    · exact .inr (.inl ⟨if_pos c2, c2⟩)
    · rw [if_neg c2]
      by_cases c3 : 224 ≤ b ∧ b < 240
      · exact .inr (.inr (.inl ⟨if_pos c3, c3⟩))
      · rw [if_neg c3]
        by_cases c4 : 240 ≤ b ∧ b < 248
        · exact .inr (.inr (.inr (.inl ⟨if_pos c4, c4⟩)))
        · rw [if_neg c4]
          exact .inr (.inr (.inr (.inr ⟨rfl, by omega, by omega⟩)))

theorem decodeN_none {n b0 b1 b2 b3 : Nat} (h0 : b0 < 256) (h : (128 ≤ b0 ∧ b0 < 192) ∨ 248 ≤ b0 ∨ (192 ≤ b0 ∧ b0 < 224 ∧ (n < 2 ∨ ¬ contB b1)) ∨ (224 ≤ b0 ∧ b0 < 240 ∧ (n < 3 ∨ ¬ contB b1 ∨ ¬ contB b2)) ∨ (240 ≤ b0 ∧ b0 < 248 ∧ (n < 4 ∨ ¬ contB b1 ∨ ¬ contB b2 ∨ ¬ contB b3))) :
    decodeN n b0 b1 b2 b3 = (65533, 1) := by
  unfold contB at h
  unfold decodeN
  rw [if_neg (by omega)]
  by_cases c2 : b0 / 32 = 6 ∧ (1 < n ∧ b1 / 64 = 2)
  · exfalso; omega
  · rw [if_neg c2]
    by_cases c3 : b0 / 16 = 14 ∧ (1 < n ∧ b1 / 64 = 2) ∧ (2 < n ∧ b2 / 64 = 2)
    · exfalso; omega
    · rw [if_neg c3]
      by_cases c4 : b0 / 8 = 30 ∧ (1 < n ∧ b1 / 64 = 2) ∧ (2 < n ∧ b2 / 64 = 2) ∧ (3 < n ∧ b3 / 64 = 2)
      · exfalso; omega
      · rw [if_neg c4]

/-- Where the first byte announces nothing, or more than there is, or a further byte is none: no code point. -/
theorem ref_bad {l : List UInt8} (h : (leadB (byteN l 0)).1 = 0 ∨ l.length < (leadB (byteN l 0)).1 ∨ ∃ i, 1 ≤ i ∧ i < (leadB (byteN l 0)).1 ∧ ¬ contB (byteN l i)) (hne : l ≠ []) : bad l = true := by
  have hp : 0 < l.length := List.length_pos_iff.2 hne
  have h0 := byteN_lt l 0
  rw [bad_N, decodeN_none h0]
  · rfl
  · rcases leadB_cases (byteN l 0) with ⟨e, c⟩ | ⟨e, c⟩ | ⟨e, c⟩ | ⟨e, c⟩ | ⟨e, c⟩ <;> rw [e] at h <;> simp only at h
    · rcases h with h | h | ⟨i, h1, h2, _⟩ <;> omega
    · rcases h with h | h | ⟨i, h1, h2, h3⟩
      · omega
      · exact .inr (.inr (.inl ⟨c.1, c.2, .inl h⟩))
      · have : i = 1 := by omega
        subst this
        exact .inr (.inr (.inl ⟨c.1, c.2, .inr h3⟩))
    · rcases h with h | h | ⟨i, h1, h2, h3⟩
      · omega
      · exact .inr (.inr (.inr (.inl ⟨c.1, c.2, .inl h⟩)))
      · have : i = 1 ∨ i = 2 := by omega
        rcases this with rfl | rfl
        · exact .inr (.inr (.inr (.inl ⟨c.1, c.2, .inr (.inl h3)⟩)))
        · exact .inr (.inr (.inr (.inl ⟨c.1, c.2, .inr (.inr h3)⟩)))
    · rcases h with h | h | ⟨i, h1, h2, h3⟩
      · omega
      · exact .inr (.inr (.inr (.inr ⟨c.1, c.2, .inl h⟩)))
      · have : i = 1 ∨ i = 2 ∨ i = 3 := by omega
        rcases this with rfl | rfl | rfl
        · exact .inr (.inr (.inr (.inr ⟨c.1, c.2, .inr (.inl h3)⟩)))
        · exact .inr (.inr (.inr (.inr ⟨c.1, c.2, .inr (.inr (.inl h3))⟩)))
        · exact .inr (.inr (.inr (.inr ⟨c.1, c.2, .inr (.inr (.inr h3))⟩)))
    · rcases c with ⟨c1, c2 | c2⟩
      · exact .inl ⟨c1, c2⟩
      · exact .inr (.inl c2)

theorem enc_length (p : Int) (h : isPt p = true) : (encodeRune p).length = if p ≤ 127 then 1 else if p ≤ 2047 then 2 else if p ≤ 65535 then 3 else 4 := by
  simp only [isPt, decide_eq_true_eq] at h
  unfold encodeRune
  rw [List.length_map]
  by_cases c1 : p ≤ 127
  · rw [if_pos c1, encodeRuneZ_one (by omega) c1]; rfl
  · rw [if_neg c1]
    by_cases c2 : p ≤ 2047
    · rw [if_pos c2, encodeRuneZ_two (by omega) c2]; rfl
    · rw [if_neg c2]
      by_cases c3 : p ≤ 65535
      · rw [if_pos c3, encodeRuneZ_three (by omega)]; rfl
      · rw [if_neg c3, encodeRuneZ_four (by omega) (by omega)]; rfl

/-- Where all bytes are there: what the reference asks of the number is that there is a code point. -/
theorem ref_good {l : List UInt8} {n : Nat} {p0 p : Int} (hl : leadB (byteN l 0) = (n, p0)) (h1 : 1 ≤ n) (hn : n ≤ l.length) (hc : ∀ i, 1 ≤ i → i < n → contB (byteN l i)) (hp : p = accF l p0 (n - 1)) :
    (isPt p = true ∧ encodeRune p = l.take n → bad l = false ∧ ((decodeL l).1 : Int) = p ∧ (decodeL l).2 = n) ∧ (¬ (isPt p = true ∧ encodeRune p = l.take n) → bad l = true) := by
  have hne : l ≠ [] := fun e => by rw [e] at hn; simp at hn; omega
  have hlen : (l.take n).length = n := by simp; omega
  have b1lt := byteN_lt l 1
  have b2lt := byteN_lt l 2
  have b3lt := byteN_lt l 3
  have fin : ∀ (q : Nat), (q : Int) = p → decodeN l.length (byteN l 0) (byteN l 1) (byteN l 2) (byteN l 3) = (q, n) → ¬ (q = 65533 ∧ n = 1) → isPt p = true →
      (isPt p = true ∧ encodeRune p = l.take n → bad l = false ∧ ((decodeL l).1 : Int) = p ∧ (decodeL l).2 = n) ∧ (¬ (isPt p = true ∧ encodeRune p = l.take n) → bad l = true) := by
    intro q hq hd hnb hpt
    have hD : decodeL l = (q, n) := (decodeL_N l).trans hd
    have henc := encode_decode l hne (by rw [hD]; exact hnb)
    rw [hD] at henc
    simp only [hq] at henc
    refine ⟨fun _ => ⟨?_, by rw [hD]; exact hq, by rw [hD]⟩, fun hnot => absurd ⟨hpt, henc⟩ hnot⟩
    simp only [bad, hD, decide_eq_false_iff_not]
    exact hnb
  have none : decodeN l.length (byteN l 0) (byteN l 1) (byteN l 2) (byteN l 3) = (65533, 1) → ¬ (isPt p = true ∧ encodeRune p = l.take n) →
      (isPt p = true ∧ encodeRune p = l.take n → bad l = false ∧ ((decodeL l).1 : Int) = p ∧ (decodeL l).2 = n) ∧ (¬ (isPt p = true ∧ encodeRune p = l.take n) → bad l = true) := by
    intro hd hnot
    exact ⟨fun h => absurd h hnot, fun _ => by rw [bad_N, hd]; rfl⟩
  have elen : isPt p = true ∧ encodeRune p = l.take n → (if p ≤ 127 then 1 else if p ≤ 2047 then 2 else if p ≤ 65535 then 3 else 4) = n := fun h => by
    rw [← enc_length p h.1, h.2, hlen]
  rcases leadB_cases (byteN l 0) with ⟨e, c⟩ | ⟨e, c⟩ | ⟨e, c⟩ | ⟨e, c⟩ | ⟨e, c⟩ <;> rw [hl] at e <;> cases e
  · have hp : p = (byteN l 0 : Int) := hp
    refine fin (byteN l 0) hp.symm ?_ (by omega) (by simp only [isPt, decide_eq_true_eq]; omega)
    unfold decodeN
    rw [if_pos c]
  · have q1 := hc 1 (by omega) (by omega)
    unfold contB at q1
    have hp : p = 64 * ((byteN l 0 : Int) - 192) + (byteN l 1 : Int) - 128 := hp
    by_cases c' : 128 ≤ p
    · refine fin (byteN l 0 % 32 * 64 + byteN l 1 % 64) (by omega) ?_ (by omega) (by simp only [isPt, decide_eq_true_eq]; omega)
      unfold decodeN
      rw [if_neg (by omega), if_pos (by omega), if_pos (by omega)]
    · refine none ?_ (fun h => ?_)
      · unfold decodeN
        rw [if_neg (by omega), if_pos (by omega), if_neg (by omega)]
      · have := elen h
        rw [if_pos (by omega)] at this
        omega
  · have q1 := hc 1 (by omega) (by omega)
    have q2 := hc 2 (by omega) (by omega)
    unfold contB at q1 q2
    have hp : p = 64 * (64 * ((byteN l 0 : Int) - 224) + (byteN l 1 : Int) - 128) + (byteN l 2 : Int) - 128 := hp
    by_cases c' : 2048 ≤ p ∧ (p < 55296 ∨ 57344 ≤ p)
    · refine fin (byteN l 0 % 16 * 4096 + byteN l 1 % 64 * 64 + byteN l 2 % 64) (by omega) ?_ (by omega) (by simp only [isPt, decide_eq_true_eq]; omega)
      unfold decodeN
      rw [if_neg (by omega), if_neg (by omega), if_pos (by omega), if_pos (by omega)]
    · refine none ?_ (fun h => ?_)
      · unfold decodeN
        rw [if_neg (by omega), if_neg (by omega), if_pos (by omega), if_neg (by omega)]
      · have := elen h
        have h2 := h.1
        simp only [isPt, decide_eq_true_eq] at h2
        split at this
        · omega
        · split at this <;> omega
  · have q1 := hc 1 (by omega) (by omega)
    have q2 := hc 2 (by omega) (by omega)
    have q3 := hc 3 (by omega) (by omega)
    unfold contB at q1 q2 q3
    have hp : p = 64 * (64 * (64 * ((byteN l 0 : Int) - 240) + (byteN l 1 : Int) - 128) + (byteN l 2 : Int) - 128) + (byteN l 3 : Int) - 128 := hp
    by_cases c' : 65536 ≤ p ∧ p ≤ 1114111
    · refine fin (byteN l 0 % 8 * 262144 + byteN l 1 % 64 * 4096 + byteN l 2 % 64 * 64 + byteN l 3 % 64) (by omega) ?_ (by omega) (by simp only [isPt, decide_eq_true_eq]; omega)
      unfold decodeN
      rw [if_neg (by omega), if_neg (by omega), if_neg (by omega), if_pos (by omega), if_pos (by omega)]
    · refine none ?_ (fun h => ?_)
      · unfold decodeN
        rw [if_neg (by omega), if_neg (by omega), if_neg (by omega), if_pos (by omega), if_neg (by omega)]
      · have := elen h
        have h2 := h.1
        simp only [isPt, decide_eq_true_eq] at h2
        split at this
        · omega
        · split at this
          · omega
          · split at this <;> omega
  · omega
end Go.Proofs.YthlhbbejcmbpoaaDoor
