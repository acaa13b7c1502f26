/-
  Prefixes of valid strings: where they are valid; the longest that fits. Plain mathematics; no program is named here.
-/
import Derived.Test.YthlhbbejcmbpoaaDoorCsK
namespace Go.Proofs.YthlhbbejcmbpoaaDoor
open Go Go.Lib

theorem runes_append (a t : List UInt8) (h : validD a = true) : runesOf (a ++ t) = runesOf a ++ runesOf t := by
  revert h
  refine runes_ind (C := fun a => validD a = true → runesOf (a ++ t) = runesOf a ++ runesOf t) ?_ ?_ ?_ a
  · intro _; rw [runesOf_nil]; rfl
  · intro l hne hb hv; rw [(valid_next hne hv).1] at hb; cases hb
  · intro l hne hb ih hv
    obtain ⟨_, h2, h3⟩ := valid_next hne hv
    have ih := ih h2
    have gl := (good_point hb).1
    obtain ⟨b1, b2, b3⟩ := dec_enc (decodeL l).1 gl (l.drop (decodeL l).2 ++ t)
    obtain ⟨_, c2, c3⟩ := dec_enc (decodeL l).1 gl (l.drop (decodeL l).2)
    rw [h3] at c2 c3
    rw [← List.append_assoc, h3] at b1 b2 b3
    have e : decodeL (l ++ t) = decodeL l := Prod.ext (by omega) (by omega)
    rw [runesOf_step (by simp [hne]) b1, runesOf_step hne hb, e, List.drop_append_of_le_length (decodeL_le l hne), ih]
    rfl
theorem ptsI_good (l : List UInt8) : ∀ p ∈ ptsI l, isPt p = true := by
  intro p hp
  simp only [ptsI, ptsN, List.map_map, List.mem_map] at hp
  obtain ⟨q, hq, rfl⟩ := hp
  exact (runes_good l q hq).1
theorem runes_ptsI (l : List UInt8) (hv : validD l = true) : runesOf l = (ptsI l).map (fun p => (p.toNat, (encodeRune p).length)) := by
  have := runes_enc (ptsI l) (ptsI_good l)
  rw [ptsI, encL_pts l hv] at this
  exact this
theorem tot_enc (ps : List Int) : tot (ps.map (fun p => (p.toNat, (encodeRune p).length))) = (encL ps).length := by
  induction ps with
  | nil => rfl
  | cons p ps ih => simp only [List.map_cons, tot_cons, ih, encL, List.flatMap_cons, List.length_append]
theorem encL_append (a b : List Int) : encL (a ++ b) = encL a ++ encL b := by simp [encL]
/-- At a border of code points the prefix is valid. -/
theorem take_valid (l : List UInt8) (hv : validD l = true) (j : Nat) : validD (l.take (tot ((runesOf l).take j))) = true := by
  have h1 := runes_ptsI l hv
  have h2 : encL (ptsI l) = l := encL_pts l hv
  have h3 : tot ((runesOf l).take j) = (encL ((ptsI l).take j)).length := by rw [h1, ← List.map_take, tot_enc]
  have h4 : l = encL ((ptsI l).take j) ++ encL ((ptsI l).drop j) := by rw [← encL_append, List.take_append_drop, h2]
  rw [h3]
  have h5 : l.take (encL ((ptsI l).take j)).length = encL ((ptsI l).take j) := by
    have := congrArg (List.take (encL ((ptsI l).take j)).length) h4
    rw [List.take_left] at this
    exact this
  rw [h5]
  exact valid_enc _ fun p hp => ptsI_good l p (List.mem_of_mem_take hp)
/-- Where a prefix is valid there is a border. -/
theorem valid_take {l : List UInt8} {n : Nat} (hn : n ≤ l.length) (hv : validD (l.take n) = true) : ∃ j, j ≤ (runesOf l).length ∧ n = tot ((runesOf l).take j) := by
  have h1 := runes_append (l.take n) (l.drop n) hv
  rw [List.take_append_drop] at h1
  refine ⟨(runesOf (l.take n)).length, by rw [h1]; simp, ?_⟩
  rw [h1, List.take_left]
  rw [valid_tot] at hv
  have := of_decide_eq_true hv
  rw [this, List.length_take]; omega
/-- The longest valid prefix that fits. -/
def cutN : List (Nat × Nat) → Nat → Nat
  | [], _ => 0
  | (_, n) :: r, m => if n ≤ m then n + cutN r (m - n) else 0
theorem cutN_eq : ∀ (rs : List (Nat × Nat)) (m j : Nat), tot (rs.take j) ≤ m → j ≤ rs.length → (j < rs.length → m < tot (rs.take (j + 1))) → cutN rs m = tot (rs.take j)
  | [], m, j, _, _, _ => by simp [cutN, tot]
  | (p, n) :: r, m, 0, _, _, h => by
    have := h (by simp)
    simp only [Nat.zero_add, List.take_succ_cons, List.take_zero, tot_cons, tot_nil] at this
    simp only [cutN, List.take_zero, tot_nil]
    rw [if_neg (by omega)]
  | (p, n) :: r, m, j + 1, h0, h1, h => by
    simp only [List.take_succ_cons, tot_cons] at h0 h ⊢
    have ih := cutN_eq r (m - n) j (by omega) (by simpa using h1) (fun q => by have := h (by simpa using q); omega)
    simp only [cutN]
    rw [if_pos (by omega), ih]
theorem cutN_le : ∀ (rs : List (Nat × Nat)) (m j : Nat), tot (rs.take j) ≤ m → tot (rs.take j) ≤ cutN rs m
  | [], m, j, _ => by simp [tot]
  | (p, n) :: r, m, 0, _ => by simp [tot]
  | (p, n) :: r, m, j + 1, h0 => by
    simp only [List.take_succ_cons, tot_cons] at h0 ⊢
    have ih := cutN_le r (m - n) j (by omega)
    simp only [cutN]
    rw [if_pos (by omega)]; omega
theorem cutN_ex : ∀ (rs : List (Nat × Nat)) (m : Nat), ∃ j, j ≤ rs.length ∧ cutN rs m = tot (rs.take j) ∧ tot (rs.take j) ≤ m
  | [], m => ⟨0, by simp, by simp [cutN, tot], by simp [tot]⟩
  | (p, n) :: r, m => by
    by_cases c : n ≤ m
    · obtain ⟨j, h0, h1, h2⟩ := cutN_ex r (m - n)
      refine ⟨j + 1, by simpa using h0, ?_, ?_⟩
      · simp only [cutN, if_pos c, List.take_succ_cons, tot_cons, h1]
      · simp only [List.take_succ_cons, tot_cons]; omega
    · exact ⟨0, by simp, by simp [cutN, c, tot], by simp [tot]⟩
theorem tot_takes (rs : List (Nat × Nat)) (j : Nat) : tot (rs.take j) ≤ tot rs := tot_take_le rs j
/-- Of the prefixes of at most m bytes the longest valid one. -/
theorem cut_best (l : List UInt8) (hv : validD l = true) (m : Nat) : cutN (runesOf l) m ≤ m ∧ cutN (runesOf l) m ≤ l.length ∧ validD (l.take (cutN (runesOf l) m)) = true ∧ ∀ n, n ≤ m → n ≤ l.length → validD (l.take n) = true → n ≤ cutN (runesOf l) m := by
  obtain ⟨j, h0, h1, h2⟩ := cutN_ex (runesOf l) m
  refine ⟨by omega, ?_, ?_, fun n hn hl hvn => ?_⟩
  · rw [h1]; exact Nat.le_trans (tot_takes _ _) (tot_le l)
  · rw [h1]; exact take_valid l hv j
  · obtain ⟨i, _, rfl⟩ := valid_take hl hvn
    exact cutN_le _ _ _ hn
end Go.Proofs.YthlhbbejcmbpoaaDoor
