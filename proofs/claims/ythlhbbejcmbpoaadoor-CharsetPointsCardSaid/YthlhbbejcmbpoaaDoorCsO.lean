/-
  utf8: the order of valid strings by bytes is that of their code points. Plain mathematics; no program is named here.
-/
import Derived.Test.YthlhbbejcmbpoaaDoorCsG
namespace Go.Proofs.YthlhbbejcmbpoaaDoor
open Go Go.Lib Go.Op

theorem bl_cons (a b : UInt8) (x y : List UInt8) : bytesLess (a :: x) (b :: y) = if a.toNat < b.toNat then true else if a.toNat = b.toNat then bytesLess x y else false := by
  have e : (a == b) = decide (a.toNat = b.toNat) := by
    cases h : a == b with
    | true => have := eq_of_beq h; subst this; simp
    | false =>
      refine (decide_eq_false (fun q => ?_)).symm
      have : a = b := UInt8.toNat_inj.1 q
      subst this; simp at h
  have l : decide (a < b) = decide (a.toNat < b.toNat) := decide_eq_decide.2 UInt8.lt_iff_toNat_lt
  show (decide (a < b) || (a == b && bytesLess x y)) = _
  rw [e, l]
  by_cases c : a.toNat < b.toNat
  · simp [c]
  · rw [if_neg c]
    by_cases d : a.toNat = b.toNat
    · simp [d]
    · rw [if_neg d]; simp [c, d]
theorem bl_same (p : List UInt8) (x y : List UInt8) : bytesLess (p ++ x) (p ++ y) = bytesLess x y := by
  induction p with
  | nil => rfl
  | cons a p ih => rw [List.cons_append, List.cons_append, bl_cons, if_neg (by omega), if_pos rfl, ih]
theorem byteOf (z : Int) (h0 : 0 ≤ z) (h1 : z < 256) : ∃ x : UInt8, z.toNat.toUInt8 = x ∧ (x.toNat : Int) = z := by
  refine ⟨_, rfl, ?_⟩
  have : (z.toNat.toUInt8).toNat = z.toNat % 256 := by simp [Nat.toUInt8]
  rw [this]; omega
/-- The bytes of a code point, as numbers. -/
theorem enc_bytes (p : Int) (h : isPt p = true) :
    (p ≤ 127 ∧ ∃ x : UInt8, encodeRune p = [x] ∧ (x.toNat : Int) = p) ∨
    (127 < p ∧ p ≤ 2047 ∧ ∃ x y : UInt8, encodeRune p = [x, y] ∧ (x.toNat : Int) = 192 + p / 64 ∧ (y.toNat : Int) = 128 + p % 64) ∨
    (2047 < p ∧ p ≤ 65535 ∧ ∃ x y z : UInt8, encodeRune p = [x, y, z] ∧ (x.toNat : Int) = 224 + p / 4096 ∧ (y.toNat : Int) = 128 + p / 64 % 64 ∧ (z.toNat : Int) = 128 + p % 64) ∨
    (65535 < p ∧ p ≤ 1114111 ∧ ∃ x y z u : UInt8, encodeRune p = [x, y, z, u] ∧ (x.toNat : Int) = 240 + p / 262144 ∧ (y.toNat : Int) = 128 + p / 4096 % 64 ∧ (z.toNat : Int) = 128 + p / 64 % 64 ∧ (u.toNat : Int) = 128 + p % 64) := by
  obtain ⟨h0, h1, h2⟩ : 0 ≤ p ∧ p ≤ 1114111 ∧ (p < 55296 ∨ 57343 < p) := of_decide_eq_true h
  by_cases c1 : p ≤ 127
  · obtain ⟨x, hx, hz⟩ := byteOf p h0 (by omega)
    exact .inl ⟨c1, x, by rw [encodeRune, encodeRuneZ_one h0 c1]; simp [hx], hz⟩
  by_cases c2 : p ≤ 2047
  · obtain ⟨x, hx, hz⟩ := byteOf (192 + p / 64) (by omega) (by omega)
    obtain ⟨y, hy, hw⟩ := byteOf (128 + p % 64) (by omega) (by omega)
    exact .inr (.inl ⟨by omega, c2, x, y, by rw [encodeRune, encodeRuneZ_two (by omega) c2]; simp [hx, hy], hz, hw⟩)
  by_cases c3 : p ≤ 65535
  · obtain ⟨x, hx, hz⟩ := byteOf (224 + p / 4096) (by omega) (by omega)
    obtain ⟨y, hy, hw⟩ := byteOf (128 + p / 64 % 64) (by omega) (by omega)
    obtain ⟨u, hu, hv⟩ := byteOf (128 + p % 64) (by omega) (by omega)
    exact .inr (.inr (.inl ⟨by omega, c3, x, y, u, by rw [encodeRune, encodeRuneZ_three (by omega)]; simp [hx, hy, hu], hz, hw, hv⟩))
  · obtain ⟨x, hx, hz⟩ := byteOf (240 + p / 262144) (by omega) (by omega)
    obtain ⟨y, hy, hw⟩ := byteOf (128 + p / 4096 % 64) (by omega) (by omega)
    obtain ⟨u, hu, hv⟩ := byteOf (128 + p / 64 % 64) (by omega) (by omega)
    obtain ⟨r, hr, hq⟩ := byteOf (128 + p % 64) (by omega) (by omega)
    exact .inr (.inr (.inr ⟨by omega, h1, x, y, u, r, by rw [encodeRune, encodeRuneZ_four (by omega) (by omega)]; simp [hx, hy, hu, hr], hz, hw, hv, hq⟩))
set_option maxHeartbeats 8000000 in
theorem enc_lt {p q : Int} (hp : isPt p = true) (hq : isPt q = true) (h : p < q) (s t : List UInt8) :
    bytesLess (encodeRune p ++ s) (encodeRune q ++ t) = true ∧ bytesLess (encodeRune q ++ t) (encodeRune p ++ s) = false := by
  rcases enc_bytes p hp with ⟨a1, x, e, b1⟩ | ⟨a1, a2, x, y, e, b1, b2⟩ | ⟨a1, a2, x, y, z, e, b1, b2, b3⟩ | ⟨a1, a2, x, y, z, u, e, b1, b2, b3, b4⟩ <;>
  rcases enc_bytes q hq with ⟨c1, x', e', d1⟩ | ⟨c1, c2, x', y', e', d1, d2⟩ | ⟨c1, c2, x', y', z', e', d1, d2, d3⟩ | ⟨c1, c2, x', y', z', u', e', d1, d2, d3, d4⟩ <;>
  rw [e, e'] <;> simp only [List.cons_append, List.nil_append, bl_cons] <;> clear e e' hp hq <;>
  refine ⟨?_, ?_⟩ <;> (repeat' split) <;> first | rfl | (exfalso; omega)

def natLess : List Nat → List Nat → Bool
  | _, [] => false
  | [], _ :: _ => true
  | a :: x, b :: y => decide (a < b) || (decide (a = b) && natLess x y)
def ptsN (l : List UInt8) : List Nat := (runesOf l).map (·.1)
theorem ptsN_step {l : List UInt8} (h : l ≠ []) (hb : bad l = false) : ptsN l = (decodeL l).1 :: ptsN (l.drop (decodeL l).2) := by rw [ptsN, runesOf_step h hb]; rfl
theorem valid_next {l : List UInt8} (h : l ≠ []) (hv : validD l = true) : bad l = false ∧ validD (l.drop (decodeL l).2) = true ∧ encodeRune (decodeL l).1 ++ l.drop (decodeL l).2 = l := by
  cases hb : bad l with
  | true =>
    have : (decodeL l).1 = 65533 ∧ (decodeL l).2 = 1 := by simpa [bad] using hb
    rw [validD_step l h, if_pos this] at hv; cases hv
  | false =>
    have : ¬ ((decodeL l).1 = 65533 ∧ (decodeL l).2 = 1) := by simpa [bad] using hb
    rw [validD_step l h, if_neg this] at hv
    refine ⟨rfl, hv, ?_⟩
    rw [encode_decode l h this, List.take_append_drop]
theorem order_pts (l : List UInt8) : ∀ m, validD l = true → validD m = true → bytesLess l m = natLess (ptsN l) (ptsN m) := by
  refine runes_ind (C := fun l => ∀ m, validD l = true → validD m = true → bytesLess l m = natLess (ptsN l) (ptsN m)) ?_ ?_ ?_ l
  · intro m _ hm
    cases m with
    | nil => rw [ptsN, runesOf_nil]; rfl
    | cons b m =>
      have := valid_next (l := b :: m) (by simp) hm
      rw [ptsN_step (by simp) this.1, ptsN, runesOf_nil]
      rfl
  · intro l hne hb m hl
    rw [(valid_next hne hl).1] at hb; cases hb
  · intro l hne hb ih m hl hm
    obtain ⟨_, l2, l3⟩ := valid_next hne hl
    rw [ptsN_step hne hb]
    by_cases hmn : m = []
    · subst hmn
      have e : ptsN [] = [] := by rw [ptsN, runesOf_nil]; rfl
      rw [e]
      cases l <;> rfl
    · obtain ⟨m1, m2, m3⟩ := valid_next hmn hm
      rw [ptsN_step hmn m1]
      have gl := (good_point hb).1
      have gm := (good_point m1).1
      have ih := ih _ l2 m2
      have hlm : bytesLess l m = bytesLess (encodeRune (decodeL l).1 ++ l.drop (decodeL l).2) (encodeRune (decodeL m).1 ++ m.drop (decodeL m).2) := by rw [l3, m3]
      rw [hlm]
      generalize (decodeL l).1 = p at *
      generalize (decodeL m).1 = q at *
      simp only [natLess]
      rcases Nat.lt_trichotomy p q with h | h | h
      · rw [(enc_lt gl gm (by omega) _ _).1, decide_eq_true h]; rfl
      · subst h
        rw [bl_same, ih]; simp
      · rw [(enc_lt gm gl (by omega) _ _).2, decide_eq_false (by omega), decide_eq_false (by omega)]; rfl

theorem natLess_end : ∀ (i : Nat) (a b : List Nat), (∀ j, j < i → a[j]? = b[j]?) → (¬ (i < a.length ∧ i < b.length)) → i ≤ a.length → i ≤ b.length → natLess a b = decide (a.length < b.length)
  | 0, a, b, _, h, _, _ => by cases a <;> cases b <;> simp_all [natLess]
  | i + 1, a :: x, b :: y, he, h, h1, h2 => by
    have e0 := he 0 (by omega)
    simp only [List.getElem?_cons_zero, Option.some.injEq] at e0
    simp only [List.length_cons] at h h1 h2
    have := natLess_end i x y (fun j hj => by simpa using he (j + 1) (by omega)) (by omega) (by omega) (by omega)
    simp only [natLess, this, e0, List.length_cons]
    simp
  | i + 1, [], _, _, _, h1, _ => by simp at h1
  | i + 1, _ :: _, [], _, _, _, h2 => by simp at h2
theorem natLess_at : ∀ (i : Nat) (a b : List Nat) (p q : Nat), (∀ j, j < i → a[j]? = b[j]?) → a[i]? = some p → b[i]? = some q → p ≠ q → natLess a b = decide (p < q)
  | 0, a :: x, b :: y, p, q, _, h1, h2, hne => by
    simp only [List.getElem?_cons_zero, Option.some.injEq] at h1 h2
    subst h1; subst h2
    simp [natLess, hne]
  | 0, [], _, _, _, _, h1, _, _ => by simp at h1
  | 0, _ :: _, [], _, _, _, _, h2, _ => by simp at h2
  | i + 1, a :: x, b :: y, p, q, he, h1, h2, hne => by
    have e0 := he 0 (by omega)
    simp only [List.getElem?_cons_zero, Option.some.injEq] at e0
    have := natLess_at i x y p q (fun j hj => by simpa using he (j + 1) (by omega)) (by simpa using h1) (by simpa using h2) hne
    simp [natLess, this, e0]
  | i + 1, [], _, _, _, _, h1, _, _ => by simp at h1
  | i + 1, _ :: _, [], _, _, _, _, h2, _ => by simp at h2
end Go.Proofs.YthlhbbejcmbpoaaDoor
