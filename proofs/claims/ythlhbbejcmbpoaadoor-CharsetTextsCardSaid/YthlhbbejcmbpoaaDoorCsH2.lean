/-
  utf8, the other way: what the encoding of a code point decodes to.
-/
import Derived.Test.YthlhbbejcmbpoaaDoorCsF
import Derived.Stop.FmtQuoteTie
namespace Go.Proofs.YthlhbbejcmbpoaaDoor
open Go Go.RowKit Go.Ev Go.Lib
theorem isPt_bounds {p : Int} (h : isPt p = true) : 0 ≤ p ∧ p ≤ 1114111 ∧ (p < 55296 ∨ 57343 < p) := of_decide_eq_true h
theorem byte_of (z : Int) (h0 : 0 ≤ z) (h1 : z < 256) : ∃ x : UInt8, z.toNat.toUInt8 = x ∧ (x.toNat : Int) = z := by
  refine ⟨_, rfl, ?_⟩
  have : (z.toNat.toUInt8).toNat = z.toNat % 256 := by simp [Nat.toUInt8]
  rw [this]; omega
theorem dec_enc (p : Int) (h : isPt p = true) (t : List UInt8) :
    bad (encodeRune p ++ t) = false ∧ ((decodeL (encodeRune p ++ t)).1 : Int) = p ∧ (decodeL (encodeRune p ++ t)).2 = (encodeRune p).length := by
  obtain ⟨h0, h1, h2⟩ := isPt_bounds h
  by_cases c1 : p ≤ 127
  · have e : encodeRune p = [p.toNat.toUInt8] := by rw [encodeRune, encodeRuneZ_one h0 c1]; rfl
    obtain ⟨x, hx, hz⟩ := byte_of p h0 (by omega)
    have hl : leadB (byteN (encodeRune p ++ t) 0) = (1, p) := by rw [e, hx]; show leadB x.toNat = _; simp only [leadB]; rw [if_pos (by omega), hz]
    have := (ref_good (l := encodeRune p ++ t) hl (by omega) (by simp [e]) (fun i hi hj => by omega) (p := p) rfl).1 ⟨h, by rw [e]; rfl⟩
    rw [e] at this ⊢; exact this
  by_cases c2 : p ≤ 2047
  · have e : encodeRune p = [(192 + p / 64).toNat.toUInt8, (128 + p % 64).toNat.toUInt8] := by rw [encodeRune, encodeRuneZ_two (by omega) c2]; rfl
    obtain ⟨x, hx, hz⟩ := byte_of (192 + p / 64) (by omega) (by omega)
    obtain ⟨y, hy, hw⟩ := byte_of (128 + p % 64) (by omega) (by omega)
    rw [hx, hy] at e
    have b1 : byteN (encodeRune p ++ t) 1 = y.toNat := by rw [e]; rfl
    have hl : leadB (byteN (encodeRune p ++ t) 0) = (2, p / 64) := by
      rw [e]; show leadB x.toNat = _; simp only [leadB]; rw [if_neg (by omega), if_pos (by omega)]; simp; omega
    have := (ref_good (l := encodeRune p ++ t) hl (by omega) (by simp [e]) (fun i hi hj => by
        obtain rfl : i = 1 := by omega
        rw [b1]; unfold contB; omega) (p := p) (by simp only [accF, b1]; omega)).1 ⟨h, by rw [e]; rfl⟩
    rw [e] at this ⊢; exact this
  by_cases c3 : p ≤ 65535
  · have e : encodeRune p = [(224 + p / 4096).toNat.toUInt8, (128 + p / 64 % 64).toNat.toUInt8, (128 + p % 64).toNat.toUInt8] := by rw [encodeRune, encodeRuneZ_three (by omega)]; rfl
    obtain ⟨x, hx, hz⟩ := byte_of (224 + p / 4096) (by omega) (by omega)
    obtain ⟨y, hy, hw⟩ := byte_of (128 + p / 64 % 64) (by omega) (by omega)
    obtain ⟨u, hu, hv⟩ := byte_of (128 + p % 64) (by omega) (by omega)
    rw [hx, hy, hu] at e
    have b1 : byteN (encodeRune p ++ t) 1 = y.toNat := by rw [e]; rfl
    have b2 : byteN (encodeRune p ++ t) 2 = u.toNat := by rw [e]; rfl
    have hl : leadB (byteN (encodeRune p ++ t) 0) = (3, p / 4096) := by
      rw [e]; show leadB x.toNat = _; simp only [leadB]; rw [if_neg (by omega), if_neg (by omega), if_pos (by omega)]; simp; omega
    have := (ref_good (l := encodeRune p ++ t) hl (by omega) (by simp [e]) (fun i hi hj => by
        have hi : i = 1 ∨ i = 2 := by omega
        rcases hi with rfl | rfl
        · rw [b1]; unfold contB; omega
        · rw [b2]; unfold contB; omega) (p := p) (by simp only [accF, b1, b2]; omega)).1 ⟨h, by rw [e]; rfl⟩
    rw [e] at this ⊢; exact this
  · have e : encodeRune p = [(240 + p / 262144).toNat.toUInt8, (128 + p / 4096 % 64).toNat.toUInt8, (128 + p / 64 % 64).toNat.toUInt8, (128 + p % 64).toNat.toUInt8] := by rw [encodeRune, encodeRuneZ_four (by omega) (by omega)]; rfl
    obtain ⟨x, hx, hz⟩ := byte_of (240 + p / 262144) (by omega) (by omega)
    obtain ⟨y, hy, hw⟩ := byte_of (128 + p / 4096 % 64) (by omega) (by omega)
    obtain ⟨u, hu, hv⟩ := byte_of (128 + p / 64 % 64) (by omega) (by omega)
    obtain ⟨r, hr, hq⟩ := byte_of (128 + p % 64) (by omega) (by omega)
    rw [hx, hy, hu, hr] at e
    have b1 : byteN (encodeRune p ++ t) 1 = y.toNat := by rw [e]; rfl
    have b2 : byteN (encodeRune p ++ t) 2 = u.toNat := by rw [e]; rfl
    have b3 : byteN (encodeRune p ++ t) 3 = r.toNat := by rw [e]; rfl
    have hl : leadB (byteN (encodeRune p ++ t) 0) = (4, p / 262144) := by
      rw [e]; show leadB x.toNat = _; simp only [leadB]; rw [if_neg (by omega), if_neg (by omega), if_neg (by omega), if_pos (by omega)]; simp; omega
    have := (ref_good (l := encodeRune p ++ t) hl (by omega) (by simp [e]) (fun i hi hj => by
        have hi : i = 1 ∨ i = 2 ∨ i = 3 := by omega
        rcases hi with rfl | rfl | rfl
        · rw [b1]; unfold contB; omega
        · rw [b2]; unfold contB; omega
        · rw [b3]; unfold contB; omega) (p := p) (by simp only [accF, b1, b2, b3]; omega)).1 ⟨h, by rw [e]; rfl⟩
    rw [e] at this ⊢; exact this
theorem encode_encS {p : Int} (h : 0 ≤ p) : Utf8.encode p = encS p := by
  have e := Go.Extern.FmtText.encode_eq p.toNat
  rw [Int.toNat_of_nonneg h] at e
  have : (Utf8.encode p).data.toList = encodeRune p := by
    rw [encodeRune, ← e]
    simp [Go.Extern.FmtText.nums, Function.comp_def]
  show _ = ByteArray.mk _
  rw [← this]
end Go.Proofs.YthlhbbejcmbpoaaDoor
