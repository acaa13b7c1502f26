/-
  the schema law Accepts
-/
import Derived.Test.YtggimoedcamonaaGreatDoorSa6
namespace Go.Proofs.YtggimoedcamonaaGreatDoor
open Go Go.RowKit Go.Ev
set_option linter.unusedVariables false
set_option linter.unusedSimpArgs false
theorem sEq_comm' (a b : ByteArray) : sEq a b = sEq b a := by rw [Bool.eq_iff_iff, sEq_iff, sEq_iff]; exact eq_comm
def inLen (t : Ty) (k : Nat) : Bool := decide (t.min ≤ (k : Int)) && decide ((k : Int) ≤ t.max)
theorem r6has_l28 (rec : Ty → Vl → Option Bool) (n : Nat) (t : Ty) (v : Vl) (hl : t.words.length ≤ 1000000000) : ∀ (k m i : Nat), i + k = t.words.length → k < m →
    r6_has_l28 rec n t v m i = some (((t.words.drop i).any fun x => sEq x v.text) || (decide ((t.words.length : Int) = 0) && inLen t v.text.size))
  | k, 0, i, _, h => absurd h (Nat.not_lt_zero _)
  | 0, m + 1, i, hi, _ => by
    rw [r6_has_l28, lt_int, decide_eq_false (by omega), List.drop_eq_nil_of_le (by omega)]
    rfl
  | k + 1, m + 1, i, hi, hm => by
    have hlt : i < t.words.length := by omega
    rw [r6_has_l28, lt_int, decide_eq_true hlt, List.drop_eq_getElem_cons hlt, List.any_cons]
    simp only [if_true, idx_nat hlt, Option.bind_some]
    by_cases h : sEq t.words[i] v.text = true
    · rw [if_pos h, h]; rfl
    · rw [if_neg h, if_pos (I64_succ (by omega)), Bool.eq_false_iff.2 h, Bool.false_or]
      exact r6has_l28 rec n t v hl k m (i + 1) (by omega) (by omega)
theorem r6has_l48 (rec : Ty → Vl → Option Bool) (n : Nat) (t : Ty) (v : Vl) (e : Ty) (he : 0 < t.elem.length) (he2 : idx t.elem 0 = some e) (g : Vl → Bool) (hl : v.list.length ≤ 1000000000) (hg : ∀ x ∈ v.list, rec e x = some (g x)) : ∀ (k m i : Nat), i + k = v.list.length → k < m →
    r6_has_l48 rec n t v m i = some ((v.list.drop i).all g && inLen t v.list.length)
  | k, 0, i, _, h => absurd h (Nat.not_lt_zero _)
  | 0, m + 1, i, hi, _ => by
    rw [r6_has_l48, lt_int, decide_eq_false (by omega), List.drop_eq_nil_of_le (by omega)]
    rfl
  | k + 1, m + 1, i, hi, hm => by
    have hlt : i < v.list.length := by omega
    rw [r6_has_l48, lt_int, decide_eq_true hlt, List.drop_eq_getElem_cons hlt, List.all_cons]
    simp only [if_true]
    rw [if_neg (by rw [decide_eq_true_eq]; omega)]
    simp only [he2, idx_nat hlt, Option.bind_some, hg _ (List.getElem_mem hlt)]
    cases h : g v.list[i] with
    | false => rfl
    | true =>
      simp only [Bool.not_true, Bool.false_eq_true, if_false, Bool.true_and]
      rw [if_pos (I64_succ (by omega))]
      exact r6has_l48 rec n t v e he he2 g hl hg k m (i + 1) (by omega) (by omega)
def lacks (v : Vl) (x : TF) : Bool := (!hasN v x.2.1) && (!(decide (x.2.2.1 = 2)))
theorem r6rec_l27 (rec : Ty → Vl → Option Bool) (n : Nat) (t : Ty) (v : Vl) (hk : v.kind = 9) (hv : v.fields.length ≤ 1000000000) (hn : v.fields.length < n) (hl : t.fields.length ≤ 1000000000) : ∀ (k m i : Nat), i + k = t.fields.length → k < m →
    r6_record_l27 rec n t v m i = some (!(t.fields.drop i).any (lacks v))
  | k, 0, i, _, h => absurd h (Nat.not_lt_zero _)
  | 0, m + 1, i, hi, _ => by
    rw [r6_record_l27, lt_int, decide_eq_false (by omega), List.drop_eq_nil_of_le (by omega)]
    rfl
  | k + 1, m + 1, i, hi, hm => by
    have hlt : i < t.fields.length := by omega
    have ih := r6rec_l27 rec n t v hk hv hn hl k m (i + 1) (by omega) (by omega)
    rw [r6_record_l27, lt_int, decide_eq_true hlt, List.drop_eq_getElem_cons hlt, List.any_cons]
    simp only [if_true, idx_nat hlt, Option.bind_some, r4Find_eq n v _ hk hv hn, ffI_neg]
    rw [if_pos (I64_succ (by omega))]
    unfold lacks hasN
    by_cases h : t.fields[i].2.2.1 = 2
    · rw [decide_eq_true h]
      simp only [Bool.not_true, Bool.false_eq_true, if_false, Bool.and_false, Bool.false_or]
      exact ih
    · rw [decide_eq_false h]
      simp only [Bool.not_false, if_true, Bool.and_true]
      cases h2 : (v.fields.any fun x => sEq x.1 t.fields[i].2.1) with
      | false => rfl
      | true =>
        simp only [Bool.not_true, Bool.false_eq_true, if_false, Bool.false_or]
        exact ih
theorem rec_loop (r1 r2 : Ty → Vl → Option Bool) (n : Nat) (t : Ty) (v : Vl) (hn : t.size + 1000 ≤ n) (hn2 : v.size < n) (hs : v.size ≤ 1000000000) (ht : t.small) (tk : t.kind = 9) (vk : v.kind = 9)
    (hr : ∀ p ∈ t.fields, ∀ q ∈ v.fields, ∃ c, r1 p.2.2.2.1 q.2 = some c ∧ r2 p.2.2.2.1 q.2 = some c) : ∀ (k m i : Nat), i + k = v.fields.length → k < m → ∃ b, s_has_l51 r1 n t v m i = some b ∧ r6_record_l6 r2 n t v m i = some b
  | k, 0, i, _, h => absurd h (Nat.not_lt_zero _)
  | 0, m + 1, i, hi, _ => by
    have hfv := fields_lt v
    have hft := t.lens.2
    have hts := ht.1
    have e := containsT_eq n t.fields (fun x => s_has_2_F n x v) (lacks v) (fun x _ => by
      obtain ⟨u, hu⟩ := vField_eq n v x.2.1 vk hs hn2
      rw [s_has_2_F, hu]; rfl) (by omega) (by omega)
    have e2 := r6rec_l27 r2 n t v vk (by omega) (by omega) (by omega) t.fields.length n 0 (by omega) (by omega)
    rw [List.drop_zero] at e2
    refine ⟨!t.fields.any (lacks v), ?_, ?_⟩
    · rw [s_has_l51, lt_int, decide_eq_false (by omega)]
      simp only [Bool.false_eq_true, if_false, s_has_k48]
      rw [e]; rfl
    · rw [r6_record_l6, lt_int, decide_eq_false (by omega)]
      simp only [Bool.false_eq_true, if_false, r6_record_k3]
      exact e2
  | k + 1, m + 1, i, hi, hm => by
    have hlt : i < v.fields.length := by omega
    have hfv := fields_lt v
    have hft := t.lens.2
    have hts := ht.1
    obtain ⟨b, ih1, ih2⟩ := rec_loop r1 r2 n t v hn hn2 hs ht tk vk hr k m (i + 1) (by omega) (by omega)
    rw [s_has_l51, r6_record_l6, lt_int, decide_eq_true hlt]
    simp only [if_true, idx_nat hlt, Option.bind_some]
    have hF : s_Field_F n t v.fields[i].1 = (s_find_F n t (fun x => some (sEq x.2.1 v.fields[i].1))).bind fun y3 => some (y3.1, y3.2) := rfl
    rw [hF, r6Field_eq n t _ (by omega) (by omega)]
    simp only [Option.bind_some]
    rcases find_eq n t (fun x => sEq x.2.1 v.fields[i].1) hn ht with ⟨k1, _, _⟩ | ⟨_, ⟨q1, q2⟩ | ⟨j, hj, q1, q2⟩⟩
    · exact absurd tk k1
    · rw [q1, q2]
      exact ⟨false, rfl, rfl⟩
    · rw [q1, q2]
      simp only [Option.bind_some, Bool.not_true, Bool.false_eq_true, if_false, idx_nat hj]
      rw [if_neg (show ¬ decide (((j : Nat) : Int) < 0) = true by rw [decide_eq_true_eq]; omega)]
      obtain ⟨c, c1, c2⟩ := hr _ (List.getElem_mem hj) _ (List.getElem_mem hlt)
      rw [c1, c2]
      simp only [Option.bind_some]
      cases c with
      | false => exact ⟨false, rfl, rfl⟩
      | true =>
        simp only [Bool.not_true, Bool.false_eq_true, if_false]
        rw [if_pos (I64_succ (by omega)), if_pos (I64_succ (by omega))]
        exact ⟨b, ih1, ih2⟩
theorem Ty.small_elem {t x : Ty} (h : t.small) (hx : x ∈ t.elem) : x.small := by
  obtain ⟨h1, h2, h3⟩ := h
  have a := t.elem_size x hx
  have b := t.depth_eq
  have c := (depthTs_le t.elem (depthTs t.elem)).1 (Nat.le_refl _) x hx
  have d : depthTs t.elem ≤ Max.max (depthTs t.elem) (depthTFs t.fields) := Nat.le_max_left _ _
  exact ⟨by omega, by omega, (t.ok_eq.1 h3).2.2.1 x hx⟩
theorem Ty.small_field {t : Ty} {p : TF} (h : t.small) (hx : p ∈ t.fields) : p.2.2.2.1.small := by
  obtain ⟨h1, h2, h3⟩ := h
  have a := t.field_size p hx
  have b := t.depth_eq
  have c := (depthTFs_le t.fields (depthTFs t.fields)).1 (Nat.le_refl _) p hx
  have d : depthTFs t.fields ≤ Max.max (depthTs t.elem) (depthTFs t.fields) := Nat.le_max_right _ _
  exact ⟨by omega, by omega, ((t.ok_eq.1 h3).2.2.2 p hx).2.1⟩
theorem good_elem {t x : Ty} (h : t.Good) (hx : x ∈ t.elem) : x.Good := by cases h with | mk _ a b c => exact b x hx
theorem good_field {t : Ty} {p : TF} (h : t.Good) (hx : p ∈ t.fields) : p.2.2.2.1.Good := by cases h with | mk _ a b c => exact c p hx
theorem good_own {t : Ty} (h : t.Good) : tOwn t = 0 := by cases h with | mk _ a b c => exact a
theorem vgood_own {v : Vl} (h : v.Good) : vOwn v = 0 := by cases h with | mk _ a b => exact a
theorem vgood_part {v x : Vl} (h : v.Good) (hx : x ∈ partsV v) : x.Good := by cases h with | mk _ a b => exact b x hx
theorem has_eq : ∀ (n : Nat) (t : Ty) (v : Vl), t.size + 1500 ≤ n → v.size + 1500 ≤ n → v.size ≤ 1000000000 → t.small → v.ok → t.Good → v.Good → ∃ b, s_has_F n t v = some b ∧ r6_has_F n t v = some b
  | 0, t, v, h, _, _, _, _, _, _ => by omega
  | n + 1, t, v, h1, h2, h3, ht, hv, gt, gv => by
    obtain ⟨k1, k2, k3⟩ := tOwn_zero (good_own gt)
    obtain ⟨_, u2⟩ := vOwn_zero (vgood_own gv)
    have hl := t.lens
    have hts := ht.1
    have hfv := fields_lt v
    have hlv := (parts_len v).1
    have hw := (t.ok_eq.1 ht.2.2).1
    rw [s_has_F, s_has_B, r6_has_F, r6_has_B]
    by_cases hk : v.kind = t.kind
    rotate_left
    · rw [decide_eq_false hk, decide_eq_false (show ¬ t.kind = v.kind from fun q => hk q.symm)]
      exact ⟨false, rfl, rfl⟩
    rw [decide_eq_true hk, decide_eq_true hk.symm]
    simp only [Bool.not_true, Bool.false_eq_true, if_false]
    have hsc : t.kind ≠ 3 → v.scale = t.scale := fun q => by rw [Ty.scale0 k2 q, Vl.scale0 u2 (by rw [hk]; exact q)]
    rcases kind_cases k1 with tk | tk | tk | tk | tk | tk | tk | tk | tk | tk
    · exact ⟨true, by simp [tk, s_has_k11, s_has_k7], by simp [tk, r6_has_k11, r6_has_k7]⟩
    · have q := hsc (by omega)
      exact ⟨decide (t.min ≤ v.int) && decide (v.int ≤ t.max), by simp [tk, s_has_k11, q], by simp [tk, r6_has_k11]⟩
    · exact ⟨decide (v.scale = t.scale) && (decide (t.min ≤ v.int) && decide (v.int ≤ t.max)), by simp [tk, s_has_k11, Bool.and_comm], by simp [tk, r6_has_k11]⟩
    · have e1 := containsS_eq n t.words v.text (by omega) (by omega)
      have e2 := r6has_l28 (r6_has_F n) n t v (by omega) t.words.length n 0 (by omega) (by omega)
      rw [List.drop_zero] at e2
      have e3 : (t.words.any fun x => sEq v.text x) = t.words.any fun x => sEq x v.text := by congr 1; funext x; exact sEq_comm' _ _
      have r6 : r6_has_k11 (r6_has_F n) n t v false = some ((t.words.any fun x => sEq x v.text) || (decide ((t.words.length : Int) = 0) && inLen t v.text.size)) := by
        rw [r6_has_k11, if_neg (by decide), decide_eq_false (show ¬ t.kind = 3 by omega), if_neg (by decide), decide_eq_true tk, if_pos rfl]
        exact e2
      refine ⟨_, ?_, by rw [decide_eq_false (show ¬ t.kind = 2 by omega), decide_eq_false (show ¬ t.kind = 6 by omega), decide_eq_false (show ¬ t.kind = 7 by omega)]; exact r6⟩
      rw [decide_eq_false (show ¬ t.kind = 2 by omega), decide_eq_false (show ¬ t.kind = 6 by omega), decide_eq_false (show ¬ t.kind = 7 by omega), decide_eq_false (show ¬ t.kind = 3 by omega)]
      simp only [Bool.false_eq_true, if_false]
      rw [s_has_k11, if_neg (by decide), decide_eq_true tk, if_pos rfl]
      by_cases hw : 0 < t.words.length
      · rw [if_pos (decide_eq_true (by omega)), e1, e3, decide_eq_false (show ¬ (t.words.length : Int) = 0 by omega)]
        simp
      · rw [if_neg (by rw [decide_eq_true_eq]; omega), decide_eq_true (show (t.words.length : Int) = 0 by omega)]
        have hw0 : t.words = [] := List.length_eq_zero_iff.1 (by omega)
        rw [hw0]
        rfl
    · exact ⟨inLen t v.text.size, by simp [tk, s_has_k11, inLen], by simp [tk, r6_has_k11, inLen]⟩
    · have q := hsc (by omega)
      exact ⟨decide (t.min ≤ v.int) && decide (v.int ≤ t.max), by simp [tk, s_has_k11, q], by simp [tk, r6_has_k11]⟩
    · have q := hsc (by omega)
      exact ⟨decide (t.min ≤ v.int) && decide (v.int ≤ t.max), by simp [tk, s_has_k11, q], by simp [tk, r6_has_k11]⟩
    · have he : 0 < t.elem.length := by omega
      have he2 : idx t.elem 0 = some t.elem[0] := idx_nat he
      have hx : ∀ x ∈ v.list, ∃ b, s_has_F n t.elem[0] x = some b ∧ r6_has_F n t.elem[0] x = some b := fun x hx => by
        have a := t.elem_size _ (List.getElem_mem he)
        have b := v.list_size x hx
        exact has_eq n _ x (by omega) (by omega) (by omega) (Ty.small_elem ht (List.getElem_mem he)) ((v.ok_eq.1 hv).2.1 x hx) (good_elem gt (List.getElem_mem he)) (vgood_part gv (by rw [partsV, if_pos (.inl (by omega))]; exact hx))
      let g : Vl → Bool := fun x => (s_has_F n t.elem[0] x).getD false
      have hg : ∀ x ∈ v.list, s_has_F n t.elem[0] x = some (g x) ∧ r6_has_F n t.elem[0] x = some (g x) := fun x q => by
        obtain ⟨b, b1, b2⟩ := hx x q
        have : g x = b := by show (s_has_F n t.elem[0] x).getD false = b; rw [b1]; rfl
        rw [this]; exact ⟨b1, b2⟩
      have e2 := r6has_l48 (r6_has_F n) n t v _ he he2 g (by omega) (fun x q => (hg x q).2) v.list.length n 0 (by omega) (by omega)
      rw [List.drop_zero] at e2
      have e1 := containsV_eq n v.list (fun x => s_has_1_F (s_has_F n) x t) (fun x => !g x) (fun x q => by rw [s_has_1_F, he2, Option.bind_some, (hg x q).1]; rfl) (by omega) (by omega)
      refine ⟨v.list.all g && inLen t v.list.length, ?_, by simp only [tk, r6_has_k11]; exact e2⟩
      simp only [tk, s_has_k11]
      simp only [show decide ((8 : Int) = 2) = false from rfl, show decide ((8 : Int) = 6) = false from rfl, show decide ((8 : Int) = 7) = false from rfl, show decide ((8 : Int) = 3) = false from rfl, show decide ((8 : Int) = 4) = false from rfl, show decide ((8 : Int) = 5) = false from rfl, decide_true, Bool.false_eq_true, if_false, if_true]
      rw [e1]
      unfold inLen
      cases hr : decide (t.min ≤ (v.list.length : Int)) && decide ((v.list.length : Int) ≤ t.max) with
      | false => simp
      | true =>
        simp only [if_true, Option.bind_some, Bool.and_true]
        congr 1
        rw [List.not_any_eq_all_not]
        simp
    · have e : ∃ b, s_has_l51 (s_has_F n) n t v n 0 = some b ∧ r6_record_l6 (r6_has_F n) n t v n 0 = some b :=
        rec_loop (s_has_F n) (r6_has_F n) n t v (by omega) (by omega) h3 ht tk (by omega) (fun p hp q hq => by
          have a := t.field_size p hp
          have b := v.field_size q hq
          exact has_eq n _ _ (by omega) (by omega) (by omega) (Ty.small_field ht hp) ((v.ok_eq.1 hv).2.2 q hq).2 (good_field gt hp) (vgood_part gv (by rw [partsV, if_neg (by omega), if_pos (by omega)]; exact List.mem_map_of_mem hq))) v.fields.length n 0 (by omega) (by omega)
      obtain ⟨b, e1, e2⟩ := e
      exact ⟨b, by simp only [tk, s_has_k11]; exact e1, by simp only [tk, r6_has_k11, r6_record_F]; simp [e2]⟩
    · have vk : v.kind = 10 := by omega
      have hlist : v.list.length = 1 := by
        have q := vgood_own gv
        rw [vOwn] at q
        by_cases p1 : v_IsNull_F v = true
        · rw [if_pos p1] at q; exact absurd q (by decide)
        rw [if_neg p1, if_neg (by omega), if_neg u2, if_neg (by omega), if_neg (by omega), if_neg (by omega), if_neg (by omega), if_neg (by omega), if_neg (by omega), if_neg (by omega), if_neg (by omega), if_neg (by omega)] at q
        by_cases p2 : nameB v.text = true
        · rw [if_pos p2] at q
          by_cases p3 : v.list.length = 0
          · rw [if_pos p3] at q; exact absurd q (by decide)
          rw [if_neg p3] at q
          by_cases p4 : 1 < v.list.length
          · rw [if_pos p4] at q; exact absurd q (by decide)
          omega
        · rw [if_neg p2] at q; exact absurd q (by decide)
      have hi : idx v.list 0 = some v.list[0] := idx_nat (k := 0) (by omega)
      have hF : s_Field_F n t v.text = (s_find_F n t (fun x => some (sEq x.2.1 v.text))).bind fun y3 => some (y3.1, y3.2) := rfl
      have e : ∃ b, s_has_k11 (s_has_F n) n t v false = some b ∧ r6_has_k11 (r6_has_F n) n t v false = some b := by
        simp only [s_has_k11, r6_has_k11, tk, hF, r6Field_eq n t _ (show t.fields.length ≤ 1000000000 by omega) (show t.fields.length < n by omega), Option.bind_some]
        rcases find_eq n t (fun x => sEq x.2.1 v.text) (by omega) ht with ⟨_, k1, _⟩ | ⟨_, ⟨q1, q2⟩ | ⟨j, hj, q1, q2⟩⟩
        · exact absurd tk k1
        · rw [q1, q2]; exact ⟨false, rfl, rfl⟩
        · have a := t.field_size _ (List.getElem_mem hj)
          have b := v.list_size _ (List.getElem_mem (show 0 < v.list.length by omega))
          obtain ⟨c, c1, c2⟩ := has_eq n t.fields[j].2.2.2.1 v.list[0] (by omega) (by omega) (by omega) (Ty.small_field ht (List.getElem_mem hj)) ((v.ok_eq.1 hv).2.1 _ (List.getElem_mem _)) (good_field gt (List.getElem_mem hj)) (vgood_part gv (by rw [partsV, if_pos (.inr vk)]; exact List.getElem_mem _))
          refine ⟨c, ?_, ?_⟩
          · rw [q2]; simp [hi, c1]
          · rw [q1]; simp [idx_nat hj, hi, c2]
      obtain ⟨b, e1, e2⟩ := e
      exact ⟨b, by simp only [tk]; exact e1, by simp only [tk]; exact e2⟩
end Go.Proofs.YtggimoedcamonaaGreatDoor
namespace Go.Proofs.YtggimoedcamonaaGreatDoor
open Go Go.RowKit Go.Ev
set_option linter.unusedVariables false
set_option linter.unusedSimpArgs false
def tfGood (k : Int) (x : TF) : Prop := (1 ≤ x.2.2.1 ∧ x.2.2.1 ≤ 3) ∧ (k = 10 → x.2.2.1 = 1) ∧ (x.2.2.1 = 3 → x.2.2.2.2.length = 1) ∧ (x.2.2.1 ≠ 3 → x.2.2.2.2.length = 0)
theorem tfOne_zero {k : Int} {b : List TF} {x : TF} (h : tfOne k b x = 0) : tfGood k x := by
  rw [tfOne] at h
  by_cases h1 : nameB x.2.1 = true
  rotate_left
  · rw [if_neg h1] at h; exact absurd h (by decide)
  rw [if_pos h1] at h
  by_cases h2 : ¬ (1 ≤ x.1 ∧ x.1 ≤ 9999)
  · rw [if_pos h2] at h; exact absurd h (by decide)
  rw [if_neg h2] at h
  by_cases h3 : (b.any fun q => s_field_1_F q x) = true
  · rw [if_pos h3] at h; exact absurd h (by decide)
  rw [if_neg h3] at h
  by_cases h4 : ¬ (1 ≤ x.2.2.1 ∧ x.2.2.1 ≤ 3) ∨ (k = 10 ∧ x.2.2.1 ≠ 1)
  · rw [if_pos h4] at h; exact absurd h (by decide)
  rw [if_neg h4] at h
  by_cases h5 : x.2.2.1 = 3 ∧ x.2.2.2.2.length = 0
  · rw [if_pos h5] at h; exact absurd h (by decide)
  rw [if_neg h5] at h
  by_cases h6 : 1 < x.2.2.2.2.length ∨ (x.2.2.1 ≠ 3 ∧ 0 < x.2.2.2.2.length)
  · rw [if_pos h6] at h; exact absurd h (by decide)
  unfold tfGood
  omega
theorem tfsErr_zero {k : Int} : ∀ (l b : List TF), tfsErr k b l = 0 → ∀ x ∈ l, tfGood k x
  | [], _, _, x, hx => by simp at hx
  | y :: r, b, h, x, hx => by
    rw [tfsErr] at h
    by_cases q : tfOne k b y = 0
    · rw [if_pos q] at h
      rcases List.mem_cons.1 hx with rfl | hx
      · exact tfOne_zero q
      · exact tfsErr_zero r _ h x hx
    · rw [if_neg q] at h; exact absurd h q
theorem not_unused {t : Ty} (h : ¬ r6_unused_F t = true) : (t.kind ≠ 8 → t.elem.length = 0) ∧ (t.kind ≠ 9 → t.kind ≠ 10 → t.fields.length = 0) := by
  refine ⟨fun k => ?_, fun k1 k2 => ?_⟩
  · rcases Nat.eq_zero_or_pos t.elem.length with e | e
    · exact e
    · exfalso; apply h; rw [r6_unused_F, decide_eq_false k, decide_eq_true (show 0 < (t.elem.length : Int) by omega)]; simp
  · rcases Nat.eq_zero_or_pos t.fields.length with e | e
    · exact e
    · exfalso; apply h; rw [r6_unused_F, decide_eq_false k1, decide_eq_false k2, decide_eq_true (show 0 < (t.fields.length : Int) by omega)]; simp
theorem tOwn_facts {t : Ty} (h : tOwn t = 0) : ¬ (t.kind < 1 ∨ 10 < t.kind) ∧ (t.kind ≠ 8 → t.elem.length = 0) ∧ (t.kind = 8 → t.elem.length = 1 ∧ 0 ≤ t.min ∧ t.min ≤ 256) ∧ (t.kind ≠ 9 → t.kind ≠ 10 → t.fields.length = 0) ∧ (t.kind = 10 → 0 < t.fields.length) ∧ ∀ x ∈ t.fields, tfGood t.kind x := by
  obtain ⟨k1, k2, k3⟩ := tOwn_zero h
  obtain ⟨n1, n2⟩ := not_unused k2
  rw [tOwn, if_neg k1, if_neg k2] at h
  by_cases h3 : t.kind = 4 ∧ 0 < t.words.length
  · have := n2 (by omega) (by omega)
    have hf : t.fields = [] := List.length_eq_zero_iff.1 this
    exact ⟨k1, n1, by omega, n2, by omega, by rw [hf]; simp⟩
  rw [if_neg h3] at h
  by_cases h4 : ((2 ≤ t.kind ∧ t.kind ≤ 8) ∧ r6_bounds_F t (r6_limits_F t.kind).1 (r6_limits_F t.kind).2 = false) ∨ ¬ (0 ≤ t.scale ∧ t.scale ≤ 12)
  · rw [if_pos h4] at h; exact absurd h (by decide)
  rw [if_neg h4, if_neg k3] at h
  by_cases h6 : 1 < t.elem.length
  · rw [if_pos h6] at h; exact absurd h (by decide)
  rw [if_neg h6] at h
  by_cases h7 : 64 < t.fields.length
  · rw [if_pos h7] at h; exact absurd h (by decide)
  rw [if_neg h7] at h
  refine ⟨k1, n1, fun k8 => ?_, n2, by omega, tfsErr_zero _ _ h⟩
  have hb : r6_bounds_F t (r6_limits_F t.kind).1 (r6_limits_F t.kind).2 = true := by
    cases q : r6_bounds_F t (r6_limits_F t.kind).1 (r6_limits_F t.kind).2
    · exact absurd (Or.inl ⟨by omega, q⟩) h4
    · rfl
  have e1 : (r6_limits_F t.kind) = (0, 256) := by rw [k8]; rfl
  rw [e1, r6_bounds_F] at hb
  simp only [Bool.and_eq_true, decide_eq_true_eq] at hb
  omega
theorem acc_eq (n : Nat) (t : Ty) (v : Vl) (h1 : t.size + 1500 ≤ n) (h2 : v.size + 1500 ≤ n) (h3 : v.size < 1048576) (ht : t.small) (hv : v.ok) (gt : t.Good) : ∃ b, s_accepts_F n t v = some b ∧ r6_Accepts_F n t v = some b := by
  rw [s_accepts_F, r6_Accepts_F, vCheck_eq n v (by omega) h3 hv, r4Check_eq n v (by omega) (by omega) hv]
  simp only [Option.bind_some]
  by_cases h : vChk v = 0
  · rw [decide_eq_true h]
    simp only [if_true]
    obtain ⟨b, b1, b2⟩ := has_eq n t v h1 h2 (by omega) ht hv gt (good_of_chk h)
    exact ⟨b, by rw [b1]; rfl, by rw [b2]; rfl⟩
  · rw [decide_eq_false h]
    exact ⟨false, rfl, rfl⟩

def partsT (t : Ty) : List Ty := if t.kind = 8 then t.elem else if t.kind = 9 ∨ t.kind = 10 then t.fields.map fun p => p.2.2.2.1 else []
theorem sp_l22 (n : Nat) (t : Ty) (hs : t.fields.length ≤ 1000000000) : ∀ (k m i : Nat) (x : List Ty), i + k = t.fields.length → k < m → x.length = i → s_parts_l22 n t m x i = some (x ++ (t.fields.drop i).map fun p => p.2.2.2.1)
  | k, 0, i, _, _, h, _ => absurd h (Nat.not_lt_zero _)
  | 0, m + 1, i, x, hi, _, _ => by
    rw [s_parts_l22, lt_int, decide_eq_false (by omega)]
    simp only [Bool.false_eq_true, if_false, s_parts_k19]
    rw [List.drop_eq_nil_of_le (by omega), List.map_nil, List.append_nil]
  | k + 1, m + 1, i, x, hi, hm, hx => by
    have hlt : i < t.fields.length := by omega
    rw [s_parts_l22, lt_int, decide_eq_true hlt]
    simp only [if_true, idx_nat hlt, Option.bind_some]
    rw [if_pos (by omega), if_pos (I64_succ (by omega))]
    have ih := sp_l22 n t hs k m (i + 1) (x ++ [t.fields[i].2.2.2.1]) (by omega) (by omega) (by simp [hx])
    rw [List.drop_eq_getElem_cons hlt, List.map_cons]
    rw [List.append_assoc] at ih
    exact ih
theorem sParts_eq (n : Nat) (t : Ty) (hn : t.fields.length < n) (hs : t.fields.length ≤ 1000000000) : s_parts_F n t = some (partsT t) := by
  have h9 : s_parts_k10 n t true = some (t.fields.map fun p => p.2.2.2.1) := by
    rw [s_parts_k10, if_pos rfl, if_pos (by omega)]
    have := sp_l22 n t hs t.fields.length n 0 [] (by omega) hn rfl
    rw [List.drop_zero, List.nil_append] at this
    exact this
  rw [s_parts_F, partsT]
  by_cases h1 : t.kind = 8
  · rw [if_pos (decide_eq_true h1), if_pos h1]
  rw [if_neg (by rw [decide_eq_true_eq]; exact h1), if_neg h1]
  by_cases h2 : t.kind = 9
  · rw [if_pos (decide_eq_true h2), h9, if_pos (.inl h2)]
  rw [if_neg (by rw [decide_eq_true_eq]; exact h2)]
  by_cases h3 : t.kind = 10
  · rw [decide_eq_true h3, h9, if_pos (.inr h3)]
  · rw [decide_eq_false h3, if_neg (by omega)]; rfl

def Agree (t : List Ty) (left : Int) (a b : Option (Int × Int)) : Prop :=
  ∃ e l1 l2, a = some (e, l1) ∧ b = some (e, l2) ∧ (e = 0 → l1 = l2 ∧ 0 ≤ l1 ∧ l1 ≤ left ∧ ∀ x ∈ t, x.Good)
theorem agree_loop (r1 r2 : Ty → Int → Int → Option (Int × Int)) (n : Nat) (t : Ty) (lv : Int) (hlv : 0 ≤ lv ∧ lv ≤ 9) (hn : t.size + 2000 ≤ n) (ht : t.small) (hk : t.kind = 9 ∨ t.kind = 10) (hg : ∀ x ∈ t.fields, tfGood t.kind x)
    (hr : ∀ p ∈ t.fields, ∀ left, 0 ≤ left → left ≤ 4096 → Agree [p.2.2.2.1] left (r1 p.2.2.2.1 (lv + 1) left) (r2 p.2.2.2.1 (lv + 1) left)) : ∀ (k m i : Nat) (left : Int), i + k = t.fields.length → k < m → 0 ≤ left → left ≤ 4096 →
    Agree ((t.fields.drop i).map fun p => p.2.2.2.1) left (s_check_l22 r1 n t lv (t.fields.map fun p => p.2.2.2.1) m i left) (r6_visit_l29 r2 n t lv m i left)
  | k, 0, i, _, _, h, _, _ => absurd h (Nat.not_lt_zero _)
  | 0, m + 1, i, left, hi, _, h1, h2 => by
    rw [s_check_l22, r6_visit_l29, lt_int, lt_int, decide_eq_false (show ¬ i < (t.fields.map fun p => p.2.2.2.1).length by rw [List.length_map]; omega), decide_eq_false (show ¬ i < t.fields.length by omega)]
    refine ⟨0, left, left, rfl, rfl, fun _ => ⟨rfl, h1, Int.le_refl _, ?_⟩⟩
    rw [List.drop_eq_nil_of_le (by omega)]; simp
  | k + 1, m + 1, i, left, hi, hm, h1, h2 => by
    have hlt : i < t.fields.length := by omega
    have hts := ht.1
    have hl := t.lens
    have hlt2 : i < (t.fields.map fun p => p.2.2.2.1).length := by rw [List.length_map]; exact hlt
    rw [s_check_l22, r6_visit_l29, lt_int, lt_int, decide_eq_true hlt2, decide_eq_true hlt]
    simp only [if_true, idx_nat hlt2, idx_nat hlt, Option.bind_some, List.getElem_map]
    rw [if_pos (by unfold I64; omega), if_pos (by unfold I64; omega)]
    obtain ⟨e, l1, l2, e1, e2, e3⟩ := hr _ (List.getElem_mem hlt) left h1 h2
    rw [e1, e2]
    simp only [Option.bind_some]
    by_cases h0 : e = 0
    rotate_left
    · rw [decide_eq_false h0]
      exact ⟨e, l1, l2, rfl, rfl, fun q => absurd q h0⟩
    obtain ⟨rfl, w1, w2, w3⟩ := e3 h0
    have gx : (t.fields[i].2.2.2.1).Good := w3 _ (by simp)
    rw [decide_eq_true h0]
    simp only [Bool.not_true, Bool.false_eq_true, if_false]
    rw [if_pos (I64_succ (by omega)), if_pos (I64_succ (by omega))]
    obtain ⟨e', m1, m2, q1, q2, q3⟩ := agree_loop r1 r2 n t lv hlv hn ht hk hg hr k m (i + 1) l1 (by omega) (by omega) w1 (by omega)
    have fin : Agree ((t.fields.drop i).map fun p => p.2.2.2.1) left (s_check_l22 r1 n t lv (t.fields.map fun p => p.2.2.2.1) m ((i : Int) + 1) l1) (r6_visit_l29 r2 n t lv m ((i : Int) + 1) l1) := by
      refine ⟨e', m1, m2, q1, q2, fun q => ?_⟩
      obtain ⟨z1, z2, z3, z4⟩ := q3 q
      refine ⟨z1, z2, by omega, fun x hx => ?_⟩
      rw [List.drop_eq_getElem_cons hlt, List.map_cons] at hx
      rcases List.mem_cons.1 hx with rfl | hx
      · exact gx
      · exact z4 x hx
    obtain ⟨g1, g2, g3, g4⟩ := hg _ (List.getElem_mem hlt)
    by_cases n3 : t.fields[i].2.2.1 = 3
    · have k9 : t.kind = 9 := by
        rcases hk with hk | hk
        · exact hk
        · have := g2 hk; omega
      have hd := g3 n3
      have hi0 : idx t.fields[i].2.2.2.2 0 = some t.fields[i].2.2.2.2[0] := idx_nat (k := 0) (by omega)
      obtain ⟨_, o2, o3, o4⟩ := (t.ok_eq.1 ht.2.2).2.2.2 _ (List.getElem_mem hlt)
      obtain ⟨v1, v2, v3⟩ := o4 _ (List.getElem_mem (show 0 < t.fields[i].2.2.2.2.length by omega))
      have a := t.field_size _ (List.getElem_mem hlt)
      obtain ⟨b, b1, b2⟩ := acc_eq n t.fields[i].2.2.2.1 t.fields[i].2.2.2.2[0] (by omega) (by omega) (by omega) (Ty.small_field ht (List.getElem_mem hlt)) v3 gx
      rw [decide_eq_true k9, decide_eq_true n3, decide_eq_true (show 0 < (t.fields[i].2.2.2.2.length : Int) by omega)]
      simp only [if_true, hi0, Option.bind_some, b1, b2]
      cases b with
      | false => exact ⟨18, l1, l1, rfl, rfl, fun q => absurd q (by decide)⟩
      | true => exact fin
    · have hd := g4 n3
      rw [decide_eq_false n3, decide_eq_false (show ¬ 0 < (t.fields[i].2.2.2.2.length : Int) by omega)]
      simp only [Bool.false_eq_true, if_false, ite_self]
      exact fin
end Go.Proofs.YtggimoedcamonaaGreatDoor
namespace Go.Proofs.YtggimoedcamonaaGreatDoor
open Go Go.RowKit Go.Ev
set_option linter.unusedVariables false
set_option linter.unusedSimpArgs false
theorem Ty.fit_of {t : Ty} {n : Nat} (ht : t.small) (hn : t.size + 2000 ≤ n) : t.fit n := by
  have hl := t.lens
  obtain ⟨h1, _, h3⟩ := ht
  obtain ⟨o1, o2, o3, o4⟩ := t.ok_eq.1 h3
  exact ⟨by omega, by omega, by omega, by omega, by omega, by omega, o2, fun p hp => (o4 p hp).1⟩
theorem check_agree : ∀ (n : Nat) (t : Ty) (lv left : Int), t.size + 2001 ≤ n → t.small → 0 ≤ lv → lv ≤ 9 → 0 ≤ left → left ≤ 4096 → Agree [t] left (s_check_F n t lv left) (r6_visit_F n t lv left)
  | 0, t, _, _, h, _, _, _, _, _ => by omega
  | n + 1, t, lv, left, h, ht, l1, l2, h1, h2 => by
    have hl := t.lens
    have hts := ht.1
    have hfit := Ty.fit_of ht (show t.size + 2000 ≤ n by omega)
    rw [s_check_F, s_check_B, r6_visit_F, r6_visit_B]
    by_cases c1 : left = 0
    · rw [decide_eq_true c1]
      exact ⟨9, left, left, rfl, rfl, fun q => absurd q (by decide)⟩
    rw [decide_eq_false c1]
    simp only [Bool.false_eq_true, if_false]
    have hI : I64 (left - 1) := by unfold I64; omega
    by_cases c2 : 8 < lv
    · rw [decide_eq_true c2]
      simp only [if_true, if_pos hI]
      exact ⟨23, left, left - 1, rfl, rfl, fun q => absurd q (by decide)⟩
    rw [decide_eq_false c2]
    simp only [Bool.false_eq_true, if_false, if_pos hI]
    rw [sOwn_eq n t hfit, r6Own_eq n t hfit]
    simp only [Option.bind_some]
    by_cases c3 : tOwn t = 0
    rotate_left
    · rw [decide_eq_false c3]
      exact ⟨tOwn t, left - 1, left - 1, rfl, rfl, fun q => absurd q c3⟩
    obtain ⟨f1, f2, f3, f4, f5, f6⟩ := tOwn_facts c3
    rw [decide_eq_true c3]
    simp only [Bool.not_true, Bool.false_eq_true, if_false]
    rw [sParts_eq n t (by omega) (by omega)]
    simp only [Option.bind_some]
    by_cases k8 : t.kind = 8
    · obtain ⟨z1, _, _⟩ := f3 k8
      obtain ⟨e, he⟩ : ∃ e, t.elem = [e] := List.length_eq_one_iff.1 z1
      have hm : e ∈ t.elem := by rw [he]; simp
      have hes := t.elem_size e hm
      obtain ⟨n', rfl⟩ : ∃ k, n = k + 2 := ⟨n - 2, by omega⟩
      obtain ⟨e1, m1, m2, q1, q2, q3⟩ := check_agree (n' + 2) e (lv + 1) (left - 1) (by omega) (Ty.small_elem ht hm) (by omega) (by omega) (by omega) (by omega)
      have hf0 : t.fields = [] := List.length_eq_zero_iff.1 (f4 (by omega) (by omega))
      have hIl : I64 (lv + 1) := by unfold I64; omega
      rw [decide_eq_true k8, if_pos rfl, partsT, if_pos k8, he, show idx [e] 0 = some e from rfl]
      simp only [Option.bind_some]
      rw [if_pos hIl, q2, s_check_l22, if_pos (by simp), show idx [e] 0 = some e from rfl]
      simp only [Option.bind_some]
      rw [if_pos hIl, q1]
      simp only [Option.bind_some]
      by_cases c4 : e1 = 0
      · obtain ⟨w1, w2, w3, w4⟩ := q3 c4
        subst c4
        rw [decide_eq_false (show ¬ t.kind = 9 by omega)]
        simp only [decide_true, Bool.not_true, Bool.false_eq_true, if_false]
        rw [if_pos (by decide), s_check_l22, if_neg (by simp)]
        refine ⟨0, m1, m2, rfl, rfl, fun _ => ⟨w1, w2, by omega, fun x hx => ?_⟩⟩
        rw [List.mem_singleton.1 hx]
        exact .mk t c3 (fun y hy => by rw [he] at hy; exact w4 y hy) (fun y hy => by rw [hf0] at hy; simp at hy)
      · rw [decide_eq_false c4]
        exact ⟨e1, m1, m2, rfl, rfl, fun q => absurd q c4⟩
    · rw [decide_eq_false k8, if_neg (by decide), partsT, if_neg k8]
      have he0 : t.elem = [] := List.length_eq_zero_iff.1 (f2 k8)
      by_cases k9 : t.kind = 9 ∨ t.kind = 10
      · rw [if_pos k9]
        obtain ⟨e1, m1, m2, q1, q2, q3⟩ := agree_loop (s_check_F n) (r6_visit_F n) n t lv ⟨l1, by omega⟩ (by omega) ht k9 f6 (fun p hp left' w1 w2 => by
          have := t.field_size p hp
          exact check_agree n p.2.2.2.1 (lv + 1) left' (by omega) (Ty.small_field ht hp) (by omega) (by omega) w1 w2) t.fields.length n 0 (left - 1) (by omega) (by omega) (by omega) (by omega)
        refine ⟨e1, m1, m2, q1, q2, fun q => ?_⟩
        obtain ⟨w1, w2, w3, w4⟩ := q3 q
        rw [List.drop_zero] at w4
        refine ⟨w1, w2, by omega, fun x hx => ?_⟩
        rw [List.mem_singleton.1 hx]
        exact .mk t c3 (fun y hy => by rw [he0] at hy; simp at hy) (fun y hy => w4 _ (List.mem_map_of_mem (f := fun p : TF => p.2.2.2.1) hy))
      · rw [if_neg k9]
        have hf0 : t.fields = [] := List.length_eq_zero_iff.1 (f4 (by omega) (by omega))
        obtain ⟨n', rfl⟩ : ∃ k, n = k + 1 := ⟨n - 1, by omega⟩
        rw [s_check_l22, if_neg (by simp), r6_visit_l29, if_neg (by simp [hf0])]
        refine ⟨0, left - 1, left - 1, rfl, rfl, fun _ => ⟨rfl, by omega, by omega, fun x hx => ?_⟩⟩
        rw [List.mem_singleton.1 hx]
        exact .mk t c3 (fun y hy => by rw [he0] at hy; simp at hy) (fun y hy => by rw [hf0] at hy; simp at hy)
end Go.Proofs.YtggimoedcamonaaGreatDoor
namespace Go.Proofs.YtggimoedcamonaaGreatDoor
open Go Go.RowKit Go.Ev
set_option linter.unusedVariables false
set_option linter.unusedSimpArgs false

theorem pre_len_le : ∀ (k : Nat) (v : Vl) (lv : Nat), v.size ≤ k → (preV lv v).length ≤ v.size
  | 0, v, lv, h => absurd h (by have := v.size_eq; omega)
  | k + 1, v, lv, h => by
    have h1 := parts_sum v
    rw [preV_eq, List.length_cons, List.length_flatMap]
    have : ((partsV v).map fun x => (preV (lv + 1) x).length).sum ≤ ((partsV v).map Vl.size).sum := by
      have hall : ∀ x ∈ partsV v, (preV (lv + 1) x).length ≤ x.size := fun x hx => pre_len_le k x (lv + 1) (by have := parts_size hx; omega)
      clear h1
      generalize partsV v = l at hall
      induction l with
      | nil => simp
      | cons a r ih =>
        have := hall a (List.mem_cons_self ..)
        have := ih fun x hx => hall x (List.mem_cons_of_mem _ hx)
        simp only [List.map_cons, List.sum_cons]
        omega
    omega
theorem vsize_r6 : ∀ (l : List (Nat × Vl)) (c : Int), 0 ≤ c → c + l.length ≤ 1000000000 → v_Size_r6 l c = some (c + l.length)
  | [], c, _, _ => by rw [v_Size_r6]; simp
  | p :: r, c, h1, h2 => by
    rw [List.length_cons] at h2
    rw [v_Size_r6, if_pos (by unfold I64; omega), vsize_r6 r (c + 1) (by omega) (by omega), List.length_cons]
    congr 1
    omega
theorem vSize_eq (v : Vl) (hs : v.size < 1000000) : v_Size_F v = some ((preV 1 v).length : Int) := by
  have := pre_len_le v.size v 1 (Nat.le_refl _)
  rw [v_Size_F, if_pos (by omega), vsize_r6 _ 0 (by omega) (by omega)]
  congr 1
  omega
theorem r4size_l9 (rec : Vl → Option Int) (n : Nat) (ys : List Vl) (f : Vl → Nat) (hr : ∀ x ∈ ys, rec x = some (f x : Int)) (hl : ys.length ≤ 1000000) : ∀ (k m i c : Nat), i + k = ys.length → k < m → c + ((ys.drop i).map f).sum ≤ 1000000 → r4_Size_l9 rec n ys m (c : Int) i = some ((c + ((ys.drop i).map f).sum : Nat) : Int)
  | k, 0, i, c, _, h, _ => absurd h (Nat.not_lt_zero _)
  | 0, m + 1, i, c, hi, _, _ => by
    rw [r4_Size_l9, lt_int, decide_eq_false (show ¬ i < ys.length by omega), List.drop_eq_nil_of_le (by omega)]
    rfl
  | k + 1, m + 1, i, c, hi, hm, hc => by
    have hlt : i < ys.length := by omega
    rw [List.drop_eq_getElem_cons hlt, List.map_cons, List.sum_cons] at hc
    rw [r4_Size_l9, lt_int, decide_eq_true hlt]
    simp only [if_true, idx_nat hlt, Option.bind_some, hr _ (List.getElem_mem hlt)]
    rw [if_pos (by unfold I64; omega), if_pos (I64_succ (by omega)), List.drop_eq_getElem_cons hlt, List.map_cons, List.sum_cons, ← Nat.add_assoc]
    exact r4size_l9 rec n ys f hr hl k m (i + 1) (c + f ys[i]) (by omega) (by omega) (by omega)
theorem r4Size_eq : ∀ (n : Nat) (v : Vl) (lv : Nat), v.size < n → v.size ≤ 900000 → r4_Size_F n v = some ((preV lv v).length : Int)
  | 0, v, lv, h, _ => absurd h (Nat.not_lt_zero _)
  | n + 1, v, lv, h, hs => by
    have h1 := pre_len_le v.size v lv (Nat.le_refl _)
    have hp := (parts_len v).2.2
    have e := r4size_l9 (r4_Size_F n) n (partsV v) (fun x => (preV (lv + 1) x).length) (fun x hx => r4Size_eq n x (lv + 1) (by have := parts_size hx; omega) (by have := parts_size hx; omega)) (by omega) (partsV v).length n 0 1 (by omega) (by omega)
    rw [preV_eq, List.length_cons, List.length_flatMap] at h1
    rw [List.drop_zero] at e
    have e2 := e (by omega)
    rw [r4_Size_F, r4_Size_B, r4Parts_eq n v (by omega) (by omega), Option.bind_some, preV_eq, List.length_cons, List.length_flatMap, Nat.add_comm]
    exact e2

def RL (a b : Int) : Prop := a = b ∨ (4096 < a ∧ 4096 < b)
def LB (a b : Int) : Prop := 1 ≤ a ∧ 1 ≤ b ∧ a ≤ 4097 ∧ b ≤ 5000 ∧ RL a b
theorem cap_lb {a b : Int} (h1 : 1 ≤ a) (h2 : 1 ≤ b) (h : RL a b) : LB (if 4097 < a then 4097 else a) (if 5000 < b then 5000 else b) := by
  unfold LB RL at *
  split <;> split <;> omega
theorem least_loop (r1 r2 : Ty → Option Int) (n : Nat) (t : Ty) (hn : t.size + 2000 ≤ n) (ht : t.small) (hk : t.kind = 9) (hg : ∀ x ∈ t.fields, tfGood t.kind x)
    (hr : ∀ p ∈ t.fields, ∃ a b, r1 p.2.2.2.1 = some a ∧ r2 p.2.2.2.1 = some b ∧ LB a b) : ∀ (k m i : Nat) (a b : Int), i + k = t.fields.length → k < m → 1 ≤ a → 1 ≤ b → a ≤ 5000 * (i + 1) → b ≤ 5000 * (i + 1) → RL a b →
    ∃ a' b', s_leastSize_l23 r1 n t m a i = some a' ∧ r6_least_l16 r2 n t m b i = some b' ∧ LB a' b'
  | k, 0, i, _, _, _, h, _, _, _, _, _ => absurd h (Nat.not_lt_zero _)
  | 0, m + 1, i, a, b, hi, _, h1, h2, _, _, h => by
    rw [s_leastSize_l23, r6_least_l16, lt_int, decide_eq_false (show ¬ i < t.fields.length by omega)]
    exact ⟨_, _, rfl, rfl, cap_lb h1 h2 h⟩
  | k + 1, m + 1, i, a, b, hi, hm, h1, h2, h3, h4, h => by
    have hlt : i < t.fields.length := by omega
    have hts := ht.1
    have hl := t.lens
    rw [s_leastSize_l23, r6_least_l16, lt_int, decide_eq_true hlt, decide_eq_true hk]
    simp only [if_true, Bool.true_or, Bool.and_self, idx_nat hlt, Option.bind_some]
    have go : ∀ (c d : Int), 1 ≤ c → 1 ≤ d → c ≤ 5000 * ((i : Int) + 1 + 1) → d ≤ 5000 * ((i : Int) + 1 + 1) → RL c d → ∃ a' b', s_leastSize_k28 r1 n (s_leastSize_l23 r1 n t m) i c = some a' ∧ r6_least_k21 r2 n (r6_least_l16 r2 n t m) i d = some b' ∧ LB a' b' := fun c d q1 q2 q3 q4 q5 => by
      rw [s_leastSize_k28, r6_least_k21, if_pos (I64_succ (by omega)), if_pos (I64_succ (by omega))]
      exact least_loop r1 r2 n t hn ht hk hg hr k m (i + 1) c d (by omega) (by omega) q1 q2 (by push_cast; exact q3) (by push_cast; exact q4) q5
    obtain ⟨g1, g2, g3, g4⟩ := hg _ (List.getElem_mem hlt)
    by_cases n1 : t.fields[i].2.2.1 = 1
    · obtain ⟨c, d, e1, e2, p1, p2, p3, p4, p5⟩ := hr _ (List.getElem_mem hlt)
      rw [decide_eq_true n1]
      simp only [if_true, e1, e2, Option.bind_some]
      rw [if_pos (by unfold I64; omega), if_pos (by unfold I64; omega)]
      exact go _ _ (by omega) (by omega) (by omega) (by omega) (by unfold RL at *; omega)
    rw [decide_eq_false n1]
    simp only [Bool.false_eq_true, if_false]
    by_cases n3 : t.fields[i].2.2.1 = 3
    · have hd := g3 n3
      have hi0 : idx t.fields[i].2.2.2.2 0 = some t.fields[i].2.2.2.2[0] := idx_nat (k := 0) (by omega)
      obtain ⟨_, o2, o3, o4⟩ := (t.ok_eq.1 ht.2.2).2.2.2 _ (List.getElem_mem hlt)
      obtain ⟨v1, v2, v3⟩ := o4 _ (List.getElem_mem (show 0 < t.fields[i].2.2.2.2.length by omega))
      have hp := pre_len_le _ t.fields[i].2.2.2.2[0] 1 (Nat.le_refl _)
      rw [decide_eq_true n3]
      simp only [if_true, hi0, Option.bind_some, vSize_eq _ (show t.fields[i].2.2.2.2[0].size < 1000000 by omega), r4Size_eq n t.fields[i].2.2.2.2[0] 1 (by omega) (by omega)]
      rw [if_pos (by unfold I64; omega), if_pos (by unfold I64; omega)]
      exact go _ _ (by omega) (by omega) (by omega) (by omega) (by unfold RL at *; omega)
    · rw [decide_eq_false n3]
      simp only [Bool.false_eq_true, if_false]
      exact go a b h1 h2 (by omega) (by omega) h
theorem mul_lb {m a b : Int} (h1 : 1 ≤ m) (h2 : m ≤ 256) (h : LB a b) : a ≤ m * a ∧ b ≤ m * b ∧ m * a ≤ 256 * a ∧ m * b ≤ 256 * b ∧ RL (1 + m * a) (1 + m * b) := by
  obtain ⟨p1, p2, p3, p4, p5⟩ := h
  have q1 : 0 ≤ (m - 1) * a := Int.mul_nonneg (by omega) (by omega)
  have q2 : 0 ≤ (m - 1) * b := Int.mul_nonneg (by omega) (by omega)
  have q3 : 0 ≤ (256 - m) * a := Int.mul_nonneg (by omega) (by omega)
  have q4 : 0 ≤ (256 - m) * b := Int.mul_nonneg (by omega) (by omega)
  rw [Int.sub_mul] at q1 q2 q3 q4
  refine ⟨by omega, by omega, by omega, by omega, ?_⟩
  rcases p5 with rfl | p5
  · exact .inl rfl
  · exact .inr (by omega)
theorem least_agree : ∀ (n : Nat) (t : Ty), t.size + 2001 ≤ n → t.small → t.Good → ∃ a b, s_leastSize_F n t = some a ∧ r6_least_F n t = some b ∧ LB a b
  | 0, t, h, _, _ => by omega
  | n + 1, t, h, ht, gt => by
    have hl := t.lens
    have hts := ht.1
    obtain ⟨f1, f2, f3, f4, f5, f6⟩ := tOwn_facts (good_own gt)
    rw [s_leastSize_F, s_leastSize_B, r6_least_F, r6_least_B]
    have one : LB (if (4097 : Int) < 1 then 4097 else 1) (if (5000 : Int) < 1 then 5000 else 1) := cap_lb (by decide) (by decide) (.inl rfl)
    have nof : t.fields.length = 0 → ∀ c, r6_least_k4 (r6_least_F n) n t c = some (if 5000 < c then 5000 else c) := fun q c => by
      obtain ⟨n', rfl⟩ : ∃ k, n = k + 1 := ⟨n - 1, by omega⟩
      rw [r6_least_k4, r6_least_l16, q]; rfl
    by_cases k8 : t.kind = 8
    · obtain ⟨z1, z2, z3⟩ := f3 k8
      have hf0 := f4 (by omega) (by omega)
      have he2 : idx t.elem 0 = some t.elem[0] := idx_nat (k := 0) (by omega)
      rw [decide_eq_true k8]
      simp only [if_true, Bool.true_and]
      by_cases hm : 0 < t.min
      · have hem := List.getElem_mem (show 0 < t.elem.length by omega)
        have := t.elem_size _ hem
        obtain ⟨a, b, e1, e2, hb⟩ := least_agree n t.elem[0] (by omega) (Ty.small_elem ht hem) (good_elem gt hem)
        obtain ⟨q1, q2, q3, q4, q5⟩ := mul_lb (show 1 ≤ t.min by omega) z3 hb
        obtain ⟨p1, p2, p3, p4, _⟩ := hb
        rw [decide_eq_true hm]
        simp only [if_true, he2, Option.bind_some, e1, e2]
        rw [if_pos (by unfold I64; omega), if_pos (by unfold I64; omega), if_pos (by unfold I64; omega), if_pos (by unfold I64; omega), nof hf0]
        exact ⟨_, _, rfl, rfl, cap_lb (by omega) (by omega) q5⟩
      · rw [decide_eq_false hm]
        simp only [Bool.false_eq_true, if_false]
        rw [nof hf0]
        exact ⟨_, _, rfl, rfl, one⟩
    rw [decide_eq_false k8]
    simp only [Bool.false_eq_true, if_false, Bool.false_and]
    by_cases k10 : t.kind = 10
    · have hf := f5 k10
      have hfm := List.getElem_mem hf
      have hi0 : idx t.fields 0 = some t.fields[0] := idx_nat (k := 0) hf
      have hnd := (f6 _ hfm).2.1 k10
      have := t.field_size _ hfm
      obtain ⟨a, b, e1, e2, p1, p2, p3, p4, p5⟩ := least_agree n t.fields[0].2.2.2.1 (by omega) (Ty.small_field ht hfm) (good_field gt hfm)
      obtain ⟨n', rfl⟩ : ∃ k, n = k + 2 := ⟨n - 2, by omega⟩
      rw [decide_eq_true k10]
      simp only [if_true, hi0, Option.bind_some, e1]
      rw [if_pos (by unfold I64; omega), r6_least_k4, r6_least_l16, if_pos (by simp; omega), hi0]
      simp only [Option.bind_some]
      rw [decide_eq_true hnd]
      simp only [if_true, e2, Option.bind_some]
      rw [if_pos (by unfold I64; omega), r6_least_k21, if_pos (by decide), r6_least_l16, if_neg (by simp [k10])]
      exact ⟨_, _, rfl, rfl, cap_lb (by omega) (by omega) (by unfold RL at *; omega)⟩
    rw [decide_eq_false k10]
    simp only [Bool.false_eq_true, if_false]
    by_cases k9 : t.kind = 9
    · rw [decide_eq_true k9]
      simp only [if_true, r6_least_k4]
      exact least_loop (s_leastSize_F n) (r6_least_F n) n t (by omega) ht k9 f6 (fun p hp => by
        have := t.field_size p hp
        exact least_agree n p.2.2.2.1 (by omega) (Ty.small_field ht hp) (good_field gt hp)) t.fields.length n 0 1 1 (by omega) (by omega) (by decide) (by decide) (by decide) (by decide) (.inl rfl)
    · rw [decide_eq_false k9]
      simp only [Bool.false_eq_true, if_false]
      rw [nof (f4 k9 k10)]
      exact ⟨_, _, rfl, rfl, one⟩
end Go.Proofs.YtggimoedcamonaaGreatDoor
namespace Go.Proofs.YtggimoedcamonaaGreatDoor
open Go Go.RowKit Go.Ev
set_option linter.unusedVariables false
set_option linter.unusedSimpArgs false
theorem max_lb {a b c d : Int} (h : LB a b) (k : LB c d) : LB (if a < c then c else a) (if b < d then d else b) := by
  unfold LB RL at *
  split <;> split <;> omega
theorem gr_l21 (r1 r2 : Ty → Option Int) (n : Nat) (t : Ty) (hl : t.fields.length ≤ 1000000000) (hr : ∀ p ∈ t.fields, ∃ a b, r1 p.2.2.2.1 = some a ∧ r2 p.2.2.2.1 = some b ∧ LB a b) : ∀ (k m i : Nat) (a b : Int), i + k = t.fields.length → k < m → LB a b →
    ∃ a' b', s_greatestSize_l21 r1 n t m a i = some a' ∧ r6_greatest_l20 r2 n t m b i = some b' ∧ LB a' b'
  | k, 0, i, _, _, _, h, _ => absurd h (Nat.not_lt_zero _)
  | 0, m + 1, i, a, b, hi, _, h => by
    rw [s_greatestSize_l21, r6_greatest_l20, lt_int, decide_eq_false (show ¬ i < t.fields.length by omega)]
    exact ⟨_, _, rfl, rfl, h⟩
  | k + 1, m + 1, i, a, b, hi, hm, h => by
    have hlt : i < t.fields.length := by omega
    obtain ⟨c, d, e1, e2, p⟩ := hr _ (List.getElem_mem hlt)
    rw [s_greatestSize_l21, r6_greatest_l20, lt_int, decide_eq_true hlt]
    rw [if_pos rfl, if_pos rfl, idx_nat hlt, Option.bind_some, Option.bind_some, e1, e2, Option.bind_some, Option.bind_some]
    rw [if_pos (I64_succ (by omega)), if_pos (I64_succ (by omega))]
    exact gr_l21 r1 r2 n t hl hr k m (i + 1) _ _ (by omega) (by omega) (max_lb h p)
theorem gr_l8 (r1 r2 : Ty → Option Int) (n : Nat) (t : Ty) (hl : t.fields.length ≤ 1000000000) (hn : t.fields.length < n) (hl2 : t.elem.length ≤ 1000000000) (hr : ∀ p ∈ t.fields, ∃ a b, r1 p.2.2.2.1 = some a ∧ r2 p.2.2.2.1 = some b ∧ LB a b)
    (hr2 : ∀ p ∈ t.elem, ∃ a b, r1 p = some a ∧ r2 p = some b ∧ LB a b) : ∀ (k m i : Nat) (a b : Int), i + k = t.elem.length → k < m → LB a b →
    ∃ a' b', s_greatestSize_l8 r1 n t m a i = some a' ∧ r6_greatest_l8 r2 n t m b i = some b' ∧ LB a' b'
  | k, 0, i, _, _, _, h, _ => absurd h (Nat.not_lt_zero _)
  | 0, m + 1, i, a, b, hi, _, h => by
    rw [s_greatestSize_l8, r6_greatest_l8, lt_int, decide_eq_false (show ¬ i < t.elem.length by omega)]
    simp only [Bool.false_eq_true, if_false, s_greatestSize_k5, r6_greatest_k5]
    exact gr_l21 r1 r2 n t hl hr t.fields.length n 0 a b (by omega) hn h
  | k + 1, m + 1, i, a, b, hi, hm, h => by
    have hlt : i < t.elem.length := by omega
    obtain ⟨c, d, e1, e2, p⟩ := hr2 _ (List.getElem_mem hlt)
    rw [s_greatestSize_l8, r6_greatest_l8, lt_int, decide_eq_true hlt]
    rw [if_pos rfl, if_pos rfl, idx_nat hlt, Option.bind_some, Option.bind_some, e1, e2, Option.bind_some, Option.bind_some]
    rw [if_pos (I64_succ (by omega)), if_pos (I64_succ (by omega))]
    exact gr_l8 r1 r2 n t hl hn hl2 hr hr2 k m (i + 1) _ _ (by omega) (by omega) (max_lb h p)
theorem greatest_agree : ∀ (n : Nat) (t : Ty), t.size + 2002 ≤ n → t.small → t.Good → ∃ a b, s_greatestSize_F n t = some a ∧ r6_greatest_F n t = some b ∧ LB a b
  | 0, t, h, _, _ => by omega
  | n + 1, t, h, ht, gt => by
    have hl := t.lens
    have hts := ht.1
    obtain ⟨a, b, e1, e2, hb⟩ := least_agree n t (by omega) ht gt
    rw [s_greatestSize_F, s_greatestSize_B, r6_greatest_F, r6_greatest_B, e1, e2]
    exact gr_l8 (s_greatestSize_F n) (r6_greatest_F n) n t (by omega) (by omega) (by omega) (fun p hp => by
      have := t.field_size p hp
      exact greatest_agree n _ (by omega) (Ty.small_field ht hp) (good_field gt hp)) (fun p hp => by
      have := t.elem_size p hp
      exact greatest_agree n _ (by omega) (Ty.small_elem ht hp) (good_elem gt hp)) t.elem.length n 0 a b (by omega) (by omega) hb
theorem checks_eq (n : Nat) (t : Ty) (hn : 3000 ≤ n) (ht : t.small) : ∃ c, s_Check_F n t = some c ∧ r6_Check_F n t = some c ∧ (c = 0 → t.Good) := by
  have hts := ht.1
  obtain ⟨e, l1, l2, e1, e2, e3⟩ := check_agree n t 1 4096 (by omega) ht (by decide) (by decide) (by decide) (by decide)
  rw [s_Check_F, r6_Check_F, e1, e2]
  simp only [Option.bind_some]
  by_cases h : e = 0
  · obtain ⟨_, _, _, g⟩ := e3 h
    have gt : t.Good := g t (by simp)
    obtain ⟨a, b, q1, q2, p1, p2, p3, p4, p5⟩ := greatest_agree n t (by omega) ht gt
    rw [decide_eq_true h, q1, q2]
    simp only [Bool.not_true, Bool.false_eq_true, if_false, Option.bind_some]
    by_cases c : 4096 < a
    · have c2 : 4096 < b := by unfold RL at p5; omega
      rw [decide_eq_true c, decide_eq_true c2]
      exact ⟨9, rfl, rfl, fun q => absurd q (by decide)⟩
    · have c2 : ¬ 4096 < b := by unfold RL at p5; omega
      rw [decide_eq_false c, decide_eq_false c2]
      exact ⟨0, rfl, rfl, fun _ => gt⟩
  · rw [decide_eq_false h]
    exact ⟨e, rfl, rfl, fun q => absurd q h⟩
end Go.Proofs.YtggimoedcamonaaGreatDoor
namespace Go.Proofs.YtggimoedcamonaaGreatDoor
open Go Go.RowKit Go.Ev
set_option linter.unusedSimpArgs false
set_option linter.unusedVariables false
def l6_SchemaAccepts_F (n : Nat) (a0 : Ty) (a1 : Vl) : Option Bool :=
  (l6_known_F n ).bind fun y4 =>
  if !y4 then
    (l6_known_F n ).bind fun y8 =>
    some (y8)
  else
    (l6_Small_F n a0).bind fun y9 =>
    if !y9 then
      (l6_known_F n ).bind fun y13 =>
      some (y13)
    else
      (l6_SmallValue_F n a1).bind fun y14 =>
      if !y14 then
        (l6_known_F n ).bind fun y17 =>
        some (y17)
      else
        (s_Accepts_F n a0 a1).bind fun y19 =>
        (r6_Check_F n a0).bind fun y20 =>
        if decide (y20 = 0) then
          (r6_Accepts_F n a0 a1).bind fun y22 =>
          some (y19 == y22)
        else
          some (y19 == false)
set_option maxRecDepth 100000 in
set_option maxHeartbeats 4000000 in
theorem l6_SchemaAccepts_at (w0 : World) (hP : Pow10 w0) (hT : Lib.Utf8Tabs 0 1 w0) (n : Nat) (B : List (List AV)) (Rw : List RowA) (L : List LoopA) (a0 : Ty) (a1 : Vl) (r : Bool) (h : l6_SchemaAccepts_F n a0 a1 = some r) :
    ACalls Tryz.prog w0 4 [.agg (a0.cs), .agg (a1.cs)] ⟨B, Rw, L⟩ fun x st => x = .val (.bool r) ∧ st = ⟨B, Rw, L⟩ := by
  rw [l6_SchemaAccepts_F] at h
  refine ACalls.finP (acalls_of (rs := [.tmp 4]) Tryz.func4 rfl rfl Tryz.ntmps4 (enters_some Tryz.func4 rfl (by decide)) (Nat.le_of_ble_eq_true rfl) ?_)
  intro M0 W0 hN hNR hNL hcalm hu
  dsimp only at hN hNR hNL hcalm hu
  simp only [argsE]
  have hO := Owns.none Rw
  have hs := fact0
  refine rg [2, 3] hs ?_
  apply awp_seq; intro K2 hK2
  apply awp_seq; intro K3 hK3
  obtain ⟨y4, hy4, h⟩ := bind_some h
  rcases Bool.eq_false_or_eq_true (!y4) with hf5 | hf5
  · replace h := ite_tt h hf5
    apply awp_region 4 [2, 3, 16]
    rw [evK_succ]; simp +decide only [go_sem, Nat.reduceAdd, hf5]
    have hs := And.intro hf5 hs
    (repeat' apply And.intro) <;> first | refine callK_p _ (l6_known_at w0 hP hT n _ _ _  _ hy4) (hv hs) ?_ | exact cl
    rw [evK_succ]; simp +decide only [go_sem, Nat.reduceAdd, hf5]
    (repeat' apply And.intro) <;> first | refine callK_skip ?_ | exact cl
    rw [evK_succ]; simp +decide only [go_sem, Nat.reduceAdd, hf5]
    (repeat' apply And.intro) <;> first | refine callK_skip ?_ | exact cl
    rw [evK_succ]; simp +decide only [go_sem, Nat.reduceAdd, hf5]
    (repeat' apply And.intro) <;> first | refine hK3 _ _ ?_ | exact cl
    clear hK3
    refine awp_cond true ev (ef hs) (fun hb6 => ?_) (fun hb6 => by cases hb6)
    obtain ⟨y8, hy8, h⟩ := bind_some h
    refine rc 2 [4] hs ?_; intro K7 hK7
    refine callK_p _ (l6_known_at w0 hP hT n _ _ _  _ hy8) (hv hs) ?_
    refine ne hs hK7 ?_
    clear hK7
    exact rt h hs hcalm hO
  · replace h := ite_ff h hf5
    obtain ⟨y9, hy9, h⟩ := bind_some h
    rcases Bool.eq_false_or_eq_true (!y9) with hf10 | hf10
    · replace h := ite_tt h hf10
      apply awp_region 4 [2, 3, 16]
      rw [evK_succ]; simp +decide only [go_sem, Nat.reduceAdd, hf5, hf10]
      have hs := And.intro hf5 hs
      have hs := And.intro hf10 hs
      (repeat' apply And.intro) <;> first | refine callK_p _ (l6_known_at w0 hP hT n _ _ _  _ hy4) (hv hs) ?_ | exact cl
      rw [evK_succ]; simp +decide only [go_sem, Nat.reduceAdd, hf5, hf10]
      (repeat' apply And.intro) <;> first | refine callK_p _ (l6_Small_at w0 n _ _ _ a0 _ hy9) (hv hs) ?_ | exact cl
      rw [evK_succ]; simp +decide only [go_sem, Nat.reduceAdd, hf5, hf10]
      (repeat' apply And.intro) <;> first | refine callK_skip ?_ | exact cl
      rw [evK_succ]; simp +decide only [go_sem, Nat.reduceAdd, hf5, hf10]
      (repeat' apply And.intro) <;> first | refine hK3 _ _ ?_ | exact cl
      clear hK3
      refine awp_cond true ev (ef hs) (fun hb11 => ?_) (fun hb11 => by cases hb11)
      obtain ⟨y13, hy13, h⟩ := bind_some h
      refine rc 2 [4] hs ?_; intro K12 hK12
      refine callK_p _ (l6_known_at w0 hP hT n _ _ _  _ hy13) (hv hs) ?_
      refine ne hs hK12 ?_
      clear hK12
      exact rt h hs hcalm hO
    · replace h := ite_ff h hf10
      obtain ⟨y14, hy14, h⟩ := bind_some h
      apply awp_region 4 [2, 3, 16]
      rw [evK_succ]; simp +decide only [go_sem, Nat.reduceAdd, hf5, hf10]
      have hs := And.intro hf5 hs
      have hs := And.intro hf10 hs
      (repeat' apply And.intro) <;> first | refine callK_p _ (l6_known_at w0 hP hT n _ _ _  _ hy4) (hv hs) ?_ | exact cl
      rw [evK_succ]; simp +decide only [go_sem, Nat.reduceAdd, hf5, hf10]
      (repeat' apply And.intro) <;> first | refine callK_p _ (l6_Small_at w0 n _ _ _ a0 _ hy9) (hv hs) ?_ | exact cl
      rw [evK_succ]; simp +decide only [go_sem, Nat.reduceAdd, hf5, hf10]
      (repeat' apply And.intro) <;> first | refine callK_p _ (l6_SmallValue_at w0 n _ _ _ a1 _ hy14) (hv hs) ?_ | exact cl
      rw [evK_succ]; simp +decide only [go_sem, Nat.reduceAdd, hf5, hf10]
      (repeat' apply And.intro) <;> first | refine hK3 _ _ ?_ | exact cl
      clear hK3
      refine cnd h hs (fun hs h => ?_) (fun hs h => ?_)
      · skip
        have hb15 := hs.1
        obtain ⟨y17, hy17, h⟩ := bind_some h
        refine rc 2 [4] hs ?_; intro K16 hK16
        refine callK_p _ (l6_known_at w0 hP hT n _ _ _  _ hy17) (hv hs) ?_
        refine ne hs hK16 ?_
        clear hK16
        exact rt h hs hcalm hO
      have hb15 := hs.1
      refine sk [2, 3] hs hK2 ?_
      clear hK2
      apply awp_seq; intro K18 hK18
      obtain ⟨y19, hy19, h⟩ := bind_some h
      obtain ⟨y20, hy20, h⟩ := bind_some h
      rcases Bool.eq_false_or_eq_true (decide (y20 = 0)) with hf21 | hf21
      · replace h := ite_tt h hf21
        obtain ⟨y22, hy22, h⟩ := bind_some h
        apply awp_draw mix 13 4 1 [4] (by kernel_rfl)
        rw [evK_succ]; simp +decide only [go_sem, Nat.reduceAdd, hf5, hf10, hb15, hf21]
        have hs := And.intro hf21 hs
        (repeat' apply And.intro) <;> first | refine callK_p _ (s_Accepts_at w0 hT n _ _ _ a0 a1 _ hy19) (hv hs) ?_ | exact cl
        rw [evK_succ]; simp +decide only [go_sem, Nat.reduceAdd, hf5, hf10, hb15, hf21]
        (repeat' apply And.intro) <;> first | refine callK_p _ (r6_Check_at w0 hT n _ _ _ a0 _ hy20) (hv hs) ?_ | exact cl
        rw [evK_succ]; simp +decide only [go_sem, Nat.reduceAdd, hf5, hf10, hb15, hf21]
        (repeat' apply And.intro) <;> first | refine callK_p _ (r6_Accepts_at w0 hT n _ _ _ a0 a1 _ hy22) (hv hs) ?_ | exact cl
        rw [evK_succ]; simp +decide only [go_sem, Nat.reduceAdd, hf5, hf10, hb15, hf21]
        (repeat' with_reducible apply And.intro) <;> first | (rw [evK_succ]; simp +decide only [go_sem, Nat.reduceAdd, hf5, hf10, hb15, hf21]) | exact cl
        (repeat' apply And.intro) <;> first | refine hK18 _ _ ?_ | exact cl
        clear hK18
        exact rt h hs hcalm hO
      · replace h := ite_ff h hf21
        apply awp_draw mix 13 4 1 [4] (by kernel_rfl)
        rw [evK_succ]; simp +decide only [go_sem, Nat.reduceAdd, hf5, hf10, hb15, hf21]
        have hs := And.intro hf21 hs
        (repeat' apply And.intro) <;> first | refine callK_p _ (s_Accepts_at w0 hT n _ _ _ a0 a1 _ hy19) (hv hs) ?_ | exact cl
        rw [evK_succ]; simp +decide only [go_sem, Nat.reduceAdd, hf5, hf10, hb15, hf21]
        (repeat' apply And.intro) <;> first | refine callK_p _ (r6_Check_at w0 hT n _ _ _ a0 _ hy20) (hv hs) ?_ | exact cl
        rw [evK_succ]; simp +decide only [go_sem, Nat.reduceAdd, hf5, hf10, hb15, hf21]
        (repeat' apply And.intro) <;> first | refine callK_skip ?_ | exact cl
        rw [evK_succ]; simp +decide only [go_sem, Nat.reduceAdd, hf5, hf10, hb15, hf21]
        (repeat' with_reducible apply And.intro) <;> first | (rw [evK_succ]; simp +decide only [go_sem, Nat.reduceAdd, hf5, hf10, hb15, hf21]) | exact cl
        (repeat' apply And.intro) <;> first | refine hK18 _ _ ?_ | exact cl
        clear hK18
        exact rt h hs hcalm hO
end Go.Proofs.YtggimoedcamonaaGreatDoor
namespace Go.Proofs.YtggimoedcamonaaGreatDoor
open Go Go.RowKit Go.Ev
set_option linter.unusedVariables false
set_option linter.unusedSimpArgs false
theorem accepts_plain (n : Nat) (hn : 100000 ≤ n) (t : Ty) (v : Vl) : l6_SchemaAccepts_F n t v = some true := by
  have kn := known_ge n (by omega)
  rw [l6_SchemaAccepts_F, kn]
  simp only [Option.bind_some, Bool.not_true, Bool.false_eq_true, if_false]
  obtain ⟨b, e, hb⟩ := Small_eq n (by omega) t
  rw [e]
  simp only [Option.bind_some]
  cases b with
  | false => rfl
  | true =>
  simp only [Bool.not_true, Bool.false_eq_true, if_false]
  obtain ⟨b, e, hb2⟩ := SmallValue_eq n (by omega) v
  rw [e]
  simp only [Option.bind_some]
  cases b with
  | false => rfl
  | true =>
  have ht := hb rfl
  obtain ⟨v1, v2, v3⟩ := hb2 rfl
  obtain ⟨c, c1, c2, c3⟩ := checks_eq n t (by omega) ht
  simp only [Bool.not_true, Bool.false_eq_true, if_false]
  rw [s_Accepts_F, c1, c2]
  simp only [Option.bind_some]
  by_cases h : c = 0
  · have hts := ht.1
    obtain ⟨d, d1, d2⟩ := acc_eq n t v (by omega) (by omega) (by omega) ht v3 (c3 h)
    rw [decide_eq_true h, d1, d2]
    simp
  · rw [decide_eq_false h]
    rfl
end Go.Proofs.YtggimoedcamonaaGreatDoor
namespace Go.Proofs.YtggimoedcamonaaGreatDoor
open Go Go.Shelf Go.ChangeShapes Go.WideShapes Go.ChangeAt Go.RowKit Go.Lib Go.Ev
abbrev schAcceptsSpec : OpenSpec := OpenSpec.ofChange Rows.schemaAcceptsSpec
theorem schAccepts_witness (os : Os) {H : Type} (enc : TypeId × Value → H) :
    schAcceptsSpec.preRow enc Tryz.prog Tryz.f4 Rows.schemaAcceptsRow.domain false Rows.schemaAcceptsRow.laid ((lawWorld os).forCall (fun _ _ => 0) ⟨#[], #[Value.agg #[Value.int .i64 0, Value.int .i64 0, Value.int .i64 0, Value.int .i64 0, Value.slice none 0 0, Value.slice none 0 0, Value.slice none 0 0], Value.agg #[Value.int .i64 0, Value.int .i64 0, Value.int .i64 0, Value.string ⟨#[]⟩, Value.slice none 0 0, Value.slice none 0 0]], []⟩).memory #[Value.agg #[Value.int .i64 0, Value.int .i64 0, Value.int .i64 0, Value.int .i64 0, Value.slice none 0 0, Value.slice none 0 0, Value.slice none 0 0], Value.agg #[Value.int .i64 0, Value.int .i64 0, Value.int .i64 0, Value.string ⟨#[]⟩, Value.slice none 0 0, Value.slice none 0 0]] := by
  have hw : (DataW.whole enc Tryz.prog ((lawWorld os).forCall (fun _ _ => 0) ⟨#[], #[Value.agg #[Value.int .i64 0, Value.int .i64 0, Value.int .i64 0, Value.int .i64 0, Value.slice none 0 0, Value.slice none 0 0, Value.slice none 0 0], Value.agg #[Value.int .i64 0, Value.int .i64 0, Value.int .i64 0, Value.string ⟨#[]⟩, Value.slice none 0 0, Value.slice none 0 0]], []⟩).memory Tryz.f4.params.toList schAcceptsSpec.vars false (#[Value.agg #[Value.int .i64 0, Value.int .i64 0, Value.int .i64 0, Value.int .i64 0, Value.slice none 0 0, Value.slice none 0 0, Value.slice none 0 0], Value.agg #[Value.int .i64 0, Value.int .i64 0, Value.int .i64 0, Value.string ⟨#[]⟩, Value.slice none 0 0, Value.slice none 0 0]]).toList 8).map (fun x => (x.1, x.2.1)) =
      some ([.agg [.lit (.int .i64 0), .lit (.int .i64 0), .lit (.int .i64 0), .lit (.int .i64 0), .nil, .nil, .nil], .agg [.lit (.int .i64 0), .lit (.int .i64 0), .lit (.int .i64 0), .lit (.string []), .nil, .nil]], []) := by kernel_rfl
  obtain ⟨⟨x1, x2, x3⟩, hx, hx1⟩ := Option.map_eq_some_iff.1 hw
  simp only [Prod.mk.injEq] at hx1
  obtain ⟨rfl, rfl⟩ := hx1
  exact OpenSpec.preRow_of_cond 8 hx (by kernel_rfl) (fun k hk => by cases hk) (by kernel_rfl) (law_laid_met os _)
set_option maxRecDepth 100000 in
set_option maxHeartbeats 2000000 in
theorem schAccepts_lifted (os : Os) (started : os.Started) (H : Type) (enc : TypeId × Value → H) (F : Stop.Interp) :
    ReturnsInHanded {} Tryz.checked os 4 .any (schAcceptsSpec.preRow enc Tryz.prog Tryz.f4 Rows.schemaAcceptsRow.domain false Rows.schemaAcceptsRow.laid) ((schAcceptsSpec.at F).post enc Tryz.prog Tryz.f4 false true false false) := by
  refine returnsInHanded_of_row (C := Tryz.checked) (s := schAcceptsSpec) law_own started (by kernel_rfl) Tryz.func4
    (witness_row_atRef (enc := enc) (C := Tryz.checked) false (lawWorld os) #[Value.agg #[Value.int .i64 0, Value.int .i64 0, Value.int .i64 0, Value.int .i64 0, Value.slice none 0 0, Value.slice none 0 0, Value.slice none 0 0], Value.agg #[Value.int .i64 0, Value.int .i64 0, Value.int .i64 0, Value.string ⟨#[]⟩, Value.slice none 0 0, Value.slice none 0 0]] rfl (by kernel_rfl) (by kernel_rfl) (by kernel_rfl) (schAccepts_witness os enc)) ?_
  intro W base args ds gs before hval0 hW _ _ _ hL _ _
  have hval : ∀ (j : Nat) t v, Tryz.f4.params[j]? = some t → args[j]? = some v → Value.okWide Tryz.prog W .any base t v := hval0
  have hW' := hW
  obtain ⟨p, q, hA0, hV0, rfl, _, _⟩ := hW
  have hA : DataW.TrodAll enc Tryz.prog W 0 (fun _ => true) true Tryz.f4.params.toList args.toList ds p := hA0
  rw [Tryz.params4] at hA hval
  obtain ⟨v0, v1, d0, d1, p0, p1, rfl, rfl, rfl, h0, h1⟩ := trodAll_two hA
  obtain ⟨rfl, rfl⟩ := trodVars_none hV0
  have hwt := hA.lt
  obtain ⟨x0, hx0, hR0⟩ := open_t (hval 0 _ v0 rfl rfl) h0
  obtain ⟨x1, hx1, hR1⟩ := open_v (hval 1 _ v1 rfl rfl) h1
  clear hA0 hV0 hval0
  obtain ⟨htab, hpow⟩ := law_tabs hL
  have hc := Ev.calls_of_acalls (l6_SchemaAccepts_at W hpow htab 100000 [] [] [] x0 x1 true (accepts_plain 100000 (by omega) x0 x1)) (rowR_two hR0 hR1)
  refine hc.mono ?_
  rintro e W' ⟨rfl, bel⟩
  have e1 : (schAcceptsSpec.at F).fn H ([d0, d1] ++ []) = { results := [.lit (.bool true)], args := [d0, d1] } := rfl
  refine ⟨_, rfl, _, _, _, [], (p0 ++ p1), [], hW', ?_, ?_, ?_, bel.frame _, fun h => by cases h⟩
  · rw [e1]; exact trodAll_mk1 (shut_bool Tryz.underlying4 _)
  · rw [e1]; exact trodAll_mk2 (Below.trod (by kernel_rfl) (by kernel_rfl) (of_decide_eq_true (by kernel_rfl)) h0 bel (fun x hx => hwt x (by simp only [List.mem_append]; exact Or.inl hx))) (Below.trod (by kernel_rfl) (by kernel_rfl) (of_decide_eq_true (by kernel_rfl)) h1 bel (fun x hx => hwt x (by simp only [List.mem_append]; exact Or.inr hx)))
  · rw [e1]; rfl
theorem schAccepts_holds : Rows.SchemaAcceptsSaid :=
  OpenClaim.holds_of_cond 4 Tryz.f4 rfl rfl rfl rfl rfl rfl rfl ⟨rfl, rfl, rfl, rfl, rfl⟩ rfl rfl rfl rfl rfl (by kernel_rfl) Tryz.func4 (by kernel_rfl)
    (of_decide_eq_true (by kernel_rfl)) (by unfold Func.isWrapper; rw [if_neg (of_decide_eq_false (by kernel_rfl))]; exact ⟨rfl, rfl⟩)
    (fun os started H enc _ F0 => by rw [OpenClaim.pre_eq_preRow]; exact schAccepts_lifted os started H enc F0)
end Go.Proofs.YtggimoedcamonaaGreatDoor
namespace Go.Proofs.YtggimoedcamonaaGreatDoor
open Go
theorem accepts_card : Rows.SchemaAcceptsCardSaid :=
  Claim7.holds_tied_plain_at .later [] [.data, .data, .data, .data, .pinned] true (true, "fcc1e7a57a9ce17606b8959cd2b5942f9c281f0752ea4614b237ba76011cbc81") false
    schAccepts_holds (fun _ h => by cases h) (by kernel_rfl) (fun _ h => by cases h) schemaAccepts_row_tie rfl ⟨rfl, rfl⟩ (by kernel_rfl) rfl
    (fun f fn hf hfn => by
      obtain rfl : f = 4 := Option.some.inj ((show Tryz.prog.funcNamed Rows.schemaAcceptsRow.func = some 4 by kernel_rfl).symm.trans hf) |>.symm
      obtain rfl : fn = Tryz.f4 := (Option.some.inj (Tryz.func4.symm.trans hfn)).symm
      exact ⟨by kernel_rfl, fun j t ht => by
        rw [Tryz.params4] at ht
        have h3 : t = 26 ∨ t = 34 := by
          rcases j with _ | _ | j
          · left; simpa using ht.symm
          · right; simpa using ht.symm
          · simp at ht
        rcases h3 with rfl | rfl
        · exact (show Tryz.prog.wantsStandIn 26 = false by kernel_rfl)
        · exact (show Tryz.prog.wantsStandIn 34 = false by kernel_rfl)⟩)
    (by kernel_rfl)
#print axioms accepts_card
end Go.Proofs.YtggimoedcamonaaGreatDoor
