/-
  The charset package, part three: the iterator over the code points of a string.
-/
import Derived.Test.YthlhbbejcmbpoaaDoorCsA
import Derived.Test.YthlhbbejcmbpoaaDoorCsB
namespace Go.Proofs.YthlhbbejcmbpoaaDoor
open Go Go.RowKit Go.Ev

/-- What the loop over a string's code points is handed. -/
def items : Nat → List (Nat × Nat) → List (List AV)
  | _, [] => []
  | k, (p, n) :: r => [.val (.int .i64 k), .val (.int .i32 p)] :: items (k + n) r
theorem items_len : ∀ (k : Nat) (rs : List (Nat × Nat)), (items k rs).length = rs.length
  | _, [] => rfl
  | k, (_, n) :: r => by simp [items, items_len (k + n) r]
theorem items_get : ∀ (k : Nat) (a : List (Nat × Nat)) (p n : Nat) (b : List (Nat × Nat)), (items k (a ++ (p, n) :: b))[a.length]? = some [.val (.int .i64 (k + tot a : Nat)), .val (.int .i32 p)]
  | k, [], p, n, b => by simp [items, tot]
  | k, (q, m) :: a, p, n, b => by
    have := items_get (k + m) a p n b
    simp only [List.cons_append, items, List.length_cons, List.getElem?_cons_succ, this, tot_cons]
    simp only [Nat.add_assoc]
theorem ext_nil (s : St) : s.ext ⟨[], [], []⟩ = s := by simp [St.ext]

theorem decodeGo_drop (s : ByteArray) (k : Nat) (h : k < s.size) : Lib.decodeGo (s.extract k s.size) = Lib.decodeL (s.data.toList.drop k) := by
  have h1 : (s.extract k s.size).data.toList = s.data.toList.drop k := Lib.ext_list s k
  have h2 : ¬ (s.extract k s.size).size = 0 := by rw [Lib.ext_size]; omega
  unfold Lib.decodeGo
  rw [if_neg h2]
  unfold Lib.decodeL
  congr 1
  rw [← h1]

set_option maxHeartbeats 1000000 in
theorem runes_iter (w0 : World) (hT : Lib.Utf8Tabs 0 1 w0) (s : ByteArray) (hs : s.size ≤ maxLen) (l : Nat) :
    AIter Tryd.prog w0 46 [.box l 0] (items 0 (runesOf s.data.toList)) (fun st => st.boxes[l]? = some [.val (.string s)]) := by
  intro k J Jx hJ hY s0 h0
  refine acalls_of (rs := []) Tryd.func46 rfl rfl Tryd.ntmps46 (enters_some Tryd.func46 rfl (by decide)) (Nat.le_of_ble_eq_true rfl) ?_
  intro M0 W0 hN hNR hNL hcalm hu
  unfold maxLen at hs
  simp only [argsE]
  apply awp_seq; intro K1 hK1
  apply awp_region 1 [0, 1, 3]
  rw [evK_succ]; simp +decide only [go_sem]
  (repeat' apply And.intro) <;> first | refine hK1 _ _ ?_ | (intros; omega) | (intros; simp_all; done)
  clear hK1
  apply awp_block
  refine awp_loop (fun m e st => ∃ pre : List (Nat × Nat), runesOf s.data.toList = pre ++ runesOf (s.data.toList.drop (tot pre)) ∧ tot pre ≤ s.size ∧ m = s.size - tot pre ∧ J pre.length st ∧
    e = [(0, true, .yld k), (1, true, .box l 0), (3, true, .val (.int .i64 (tot pre)))]) (s.size - 0) ⟨[], rfl, Nat.zero_le _, rfl, h0, rfl⟩ ?_
  rintro m e st ⟨pre, hpre, hle, rfl, hj, rfl⟩ KR hKR
  obtain ⟨hbox, hkl⟩ := hJ _ _ hj
  have hl : l < st.boxes.length := (List.getElem?_eq_some_iff.1 hbox).1
  have e1 : isRef st (.box l 0) = true := by simp [isRef, hl]
  have e2 : cellsAt st (.box l 0) = [.val (.string s)] := by simp [cellsAt, List.getD, hbox]
  apply awp_seq; intro K2 hK2
  apply awp_seq; intro K3 hK3
  apply awp_region 1 [0, 1, 3, 9]
  rw [evK_succ]; simp +decide only [go_sem, e1, e2]
  (repeat' apply And.intro) <;> first | refine hK3 _ _ ?_ | (intros; omega) | (intros; simp_all; done)
  clear hK3
  refine awp_cond _ (by simp +decide only [go_sem]) (by simp +decide only [go_sem]; rfl) (fun hb => ?_) (fun hb => ?_)
  rotate_left
  · simp at hb
    apply awp_exit; simp +decide only [go_sem]
    have hend : s.data.toList.drop (tot pre) = [] := List.drop_of_length_le (by simp; omega)
    rw [hend, runesOf_nil, List.append_nil] at hpre
    rw [hpre, items_len]
    exact .inl hj
  simp at hb
  have hne : s.data.toList.drop (tot pre) ≠ [] := by
    intro e
    have := congrArg List.length e
    simp at this
    omega
  apply awp_skip; simp only [go_sem]
  (repeat' apply And.intro) <;> first | refine hK2 _ _ ?_ | (intros; omega) | (intros; simp_all; done)
  clear hK2
  apply awp_block
  apply awp_seq; intro K4 hK4
  apply awp_region 2 [0, 1, 3, 4, 5]
  rw [evK_succ]; simp +decide only [go_sem, e1, e2]
  (repeat' apply And.intro) <;> first | refine callK_intro _ (decode_at w0 _ hT _) ?_ | (intros; omega) | (intros; simp_all; done)
  rw [evK_succ]; simp +decide only [go_sem]
  rw [decodeGo_drop s _ hb]
  obtain ⟨d, hd⟩ : ∃ d, Lib.decodeL (s.data.toList.drop (tot pre)) = d := ⟨_, rfl⟩
  rw [hd]
  (repeat' apply And.intro) <;> first | refine hK4 _ _ ?_ | (intros; omega) | (intros; simp_all; done)
  clear hK4
  have hdle := Lib.decodeL_le _ hne
  have hd1 := Lib.decodeL_width (s.data.toList.drop (tot pre))
  have hdr := Lib.decodeL_rune (s.data.toList.drop (tot pre))
  rw [hd] at hdle hd1 hdr
  simp only [List.length_drop, Array.length_toList] at hdle
  have hsz : s.data.size = s.size := rfl
  rw [hsz] at hdle
  cases hbad : bad (s.data.toList.drop (tot pre)) with
  | true =>
    have hbd : d = (65533, 1) := by
      simp only [bad, hd, decide_eq_true_eq] at hbad
      exact Prod.ext hbad.1 hbad.2
    subst hbd
    apply awp_seq; intro K5 hK5
    apply awp_seq; intro K6 hK6
    apply awp_region 2 [0, 1, 3, 5, 29]
    rw [evK_succ]; simp +decide only [go_sem]
    (repeat' apply And.intro) <;> first | refine callK_yield (fun _ _ => True) (by intro h; cases h) ?_ | (intros; omega) | (intros; simp_all; done)
    intro v st' _ hst'
    have := hst' rfl
    subst this
    rw [evK_succ]; simp +decide only [go_sem]
    (repeat' apply And.intro) <;> first | refine hK6 _ _ ?_ | (intros; omega) | (intros; simp_all; done)
    clear hK6
    refine awp_cond _ (by simp +decide only [go_sem]) (by simp +decide only [go_sem]; rfl) (fun _ => ?_) (fun h => by cases h)
    apply awp_ret; simp +decide only [go_sem]
    rw [runesOf_bad hbad, List.append_nil] at hpre
    rw [hpre, items_len]
    exact .inl hj
  | false =>
    have hstep := runesOf_step hne hbad
    rw [hd, List.drop_drop] at hstep
    have hgood : (decide (((d.1 : Nat) : Int) = 65533) && decide (((d.2 : Nat) : Int) ≤ 1)) = false := by
      simp only [bad, hd, decide_eq_false_iff_not] at hbad
      cases h1 : decide (((d.1 : Nat) : Int) = 65533) with
      | false => rfl
      | true =>
        simp at h1
        simp
        omega
    apply awp_seq; intro K5 hK5
    apply awp_seq; intro K6 hK6
    apply awp_region 2 [0, 1, 3, 5, 29]
    rw [evK_succ]; simp +decide only [go_sem, hgood]
    have hy := hY pre.length st _ ⟨[], [], []⟩ rfl hj (by rw [hpre, hstep]; exact items_get 0 pre d.1 d.2 _)
    simp only [ext_nil, Nat.zero_add] at hy
    refine callK_yield _ (fun _ => hy) (fun v s' hp _ => ?_)
    obtain ⟨t, rfl, hlike, hp⟩ := hp rfl
    rcases hp with ⟨rfl, hj'⟩ | ⟨rfl, hx⟩
    · rw [evK_succ]; simp +decide only [go_sem]
      (repeat' apply And.intro) <;> first | refine hK6 _ _ ?_ | (intros; omega) | (intros; simp_all; done)
      clear hK6
      refine awp_cond _ (by simp +decide only [go_sem]) (by simp +decide only [go_sem]; rfl) (fun h => by cases h) (fun _ => ?_)
      apply awp_skip; simp only [go_sem]
      (repeat' apply And.intro) <;> first | refine hK5 _ _ ?_ | (intros; omega) | (intros; simp_all; done)
      clear hK5
      apply awp_region 1 [0, 1, 3]
      rw [evK_succ]; simp +decide only [go_sem]
      have e3 : tot (pre ++ [d]) = tot pre + d.2 := by simp [tot]
      (repeat' apply And.intro) <;> first | refine hKR (s.size - tot (pre ++ [d])) _ _ ?_ ⟨pre ++ [d], ?_, ?_, rfl, ?_, ?_⟩ | (intros; omega) | (intros; simp_all; done)
      · rw [e3]; omega
      · rw [List.append_assoc, e3]; exact hpre.trans (by rw [hstep]; rfl)
      · rw [e3]; omega
      · rw [List.length_append]; exact hj'
      · rw [e3]; simp
    · rw [evK_succ]; simp +decide only [go_sem]
      (repeat' apply And.intro) <;> first | refine hK6 _ _ ?_ | (intros; omega) | (intros; simp_all; done)
      clear hK6
      refine awp_cond _ (by simp +decide only [go_sem]) (by simp +decide only [go_sem]; rfl) (fun _ => ?_) (fun h => by cases h)
      apply awp_ret; simp +decide only [go_sem]
      exact .inr hx
end Go.Proofs.YthlhbbejcmbpoaaDoor
