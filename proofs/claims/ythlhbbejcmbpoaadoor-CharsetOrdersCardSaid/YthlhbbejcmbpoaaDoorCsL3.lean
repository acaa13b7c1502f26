/-
  The statement CharsetOrders, walked over abstract states: it answers true.
-/
import Derived.Test.YthlhbbejcmbpoaaDoorCsL30
namespace Go.Proofs.YthlhbbejcmbpoaaDoor
open Go Go.RowKit Go.Ev
theorem ptsI_get {l : List UInt8} {k : Nat} (h : k < (ptsI l).length) : ∃ p : Nat, (ptsN l)[k]? = some p ∧ (ptsI l)[k] = p := by
  have h' : k < (ptsN l).length := by simpa [ptsI] using h
  exact ⟨(ptsN l)[k], List.getElem?_eq_getElem h', by simp [ptsI]⟩
theorem takes_eq {l m : List UInt8} {k : Nat} (h : (ptsI l).take k = (ptsI m).take k) : ∀ j, j < k → (ptsN l)[j]? = (ptsN m)[j]? := by
  intro j hj
  have := congrArg (·[j]?) h
  simp only [List.getElem?_take, if_pos hj, ptsI, List.getElem?_map] at this
  cases h1 : (ptsN l)[j]? with
  | none =>
    cases h2 : (ptsN m)[j]? with
    | none => rfl
    | some q => simp [h1, h2] at this
  | some p =>
    cases h2 : (ptsN m)[j]? with
    | none => simp [h1, h2] at this
    | some q =>
      simp only [h1, h2, Option.map_some, Option.some.injEq] at this
      rw [show p = q from by omega]
theorem order_end {s t : ByteArray} {k : Nat} (hl : Lib.validD s.data.toList = true) (hm : Lib.validD t.data.toList = true) (h : (ptsI s.data.toList).take k = (ptsI t.data.toList).take k) (h1 : k ≤ (ptsI s.data.toList).length) (h2 : k ≤ (ptsI t.data.toList).length)
    (he : ¬ (k < (ptsI s.data.toList).length ∧ k < (ptsI t.data.toList).length)) : sLt s t = decide ((((ptsI s.data.toList).length : Nat) : Int) < (ptsI t.data.toList).length) := by
  have e1 : (ptsI s.data.toList).length = (ptsN s.data.toList).length := by simp [ptsI]
  have e2 : (ptsI t.data.toList).length = (ptsN t.data.toList).length := by simp [ptsI]
  rw [sLt, order_pts _ _ hl hm, natLess_end k _ _ (takes_eq h) (by rw [← e1, ← e2]; exact he) (by omega) (by omega), decide_eq_decide]
  omega
theorem order_at {s t : ByteArray} {k : Nat} {p q : Int} (hl : Lib.validD s.data.toList = true) (hm : Lib.validD t.data.toList = true) (h : (ptsI s.data.toList).take k = (ptsI t.data.toList).take k) (h1 : k < (ptsI s.data.toList).length) (h2 : k < (ptsI t.data.toList).length)
    (hp : (ptsI s.data.toList)[k] = p) (hq : (ptsI t.data.toList)[k] = q) (hne : p ≠ q) : sLt s t = decide (p < q) := by
  obtain ⟨p', a1, a2⟩ := ptsI_get h1
  obtain ⟨q', b1, b2⟩ := ptsI_get h2
  rw [sLt, order_pts _ _ hl hm, natLess_at k _ _ p' q' (takes_eq h) a1 b1 (by omega), decide_eq_decide]
  omega

set_option maxRecDepth 100000 in
set_option maxHeartbeats 4000000 in
theorem Orders_law (w0 : World) (B : List (List AV)) (Rw : List (Nat × Nat)) (L : List LoopA) (hT : Lib.Utf8Tabs 0 1 w0) (s : ByteArray) (hs : s.size ≤ maxLen) (t : ByteArray) (ht : t.size ≤ maxLen) :
    ACalls Tryd.prog w0 3 [.val (.string s), .val (.string t)] ⟨B, Rw, L⟩ fun r st => r = .val (.bool true) ∧ st = ⟨B, Rw, L⟩ := by
  refine ACalls.fin (acalls_of (rs := [.tmp 4]) Tryd.func3 rfl rfl Tryd.ntmps3 (enters_some Tryd.func3 rfl (by decide)) (Nat.le_of_ble_eq_true rfl) ?_)
  intro M0 W0 hN hNR hNL hcalm hu
  have hcs := cut_size s
  obtain ⟨c, hc⟩ : ∃ c, s.extract 0 (min s.size 300) = c := ⟨_, rfl⟩
  rw [hc] at hcs
  have hcm : c.size ≤ maxLen := by unfold maxLen; omega
  have hcM : c.size ≤ 1048576 := by omega
  have hcz : c.data.toList.length = c.size := by simp
  have hds := cut_size t
  obtain ⟨d, hd⟩ : ∃ d, t.extract 0 (min t.size 300) = d := ⟨_, rfl⟩
  rw [hd] at hds
  have hdM : d.size ≤ 1048576 := by omega
  have hdz : d.data.toList.length = d.size := by simp
  obtain ⟨a, ea, hpc, hca⟩ := pointsA_form c
  obtain ⟨b, eb, hpd, hdb⟩ := pointsA_form d
  have ha : (intsA a).length = a.length := by simp [intsA]
  have hbl : (intsA b).length = b.length := by simp [intsA]
  simp only [argsE]
  apply awp_seq; intro K1 hK1
  apply awp_region 1 [0, 1]
  rw [evK_succ]; simp +decide only [go_sem]
  (repeat' apply And.intro) <;> first | refine hK1 _ _ ?_ | (intros; omega) | (intros; simp_all; done)
  clear hK1
  apply awp_seq; intro K2 hK2
  apply awp_region 3 [0, 1]
  rw [evK_succ]; simp +decide only [go_sem]
  (repeat' apply And.intro) <;> first | refine callK_intro _ (cut_at w0 B Rw L s hs) ?_ | (intros; omega) | (intros; simp_all; done)
  rw [hc]
  rw [evK_succ]; simp +decide only [go_sem]
  (repeat' apply And.intro) <;> first | refine callK_intro _ (cut_at w0 B Rw L t ht) ?_ | (intros; omega) | (intros; simp_all; done)
  rw [hd]
  rw [evK_succ]; simp +decide only [go_sem]
  (repeat' apply And.intro) <;> first | refine hK2 _ _ ?_ | (intros; omega) | (intros; simp_all; done)
  clear hK2
  apply awp_seq; intro K3 hK3
  apply awp_region 2 [0, 1, 5, 6]
  rw [evK_succ]; simp +decide only [go_sem]
  (repeat' apply And.intro) <;> first | refine callK_intro _ (Points_at w0 B Rw L hT c hcM) ?_ | (intros; omega) | (intros; simp_all; done)
  rw [hpc]
  rw [evK_succ]; simp +decide only [go_sem]
  (repeat' apply And.intro) <;> first | refine hK3 _ _ ?_ | (intros; omega) | (intros; simp_all; done)
  clear hK3
  apply awp_seq; intro K4 hK4
  apply awp_region 2 [0, 1, 5, 6, 7, 8]
  rw [evK_succ]; simp +decide only [go_sem]
  (repeat' apply And.intro) <;> first | refine callK_intro _ (Points_at w0 B Rw L hT d hdM) ?_ | (intros; omega) | (intros; simp_all; done)
  rw [hpd]
  rw [evK_succ]; simp +decide only [go_sem]
  (repeat' apply And.intro) <;> first | refine hK4 _ _ ?_ | (intros; omega) | (intros; simp_all; done)
  clear hK4
  apply awp_seq; intro K5 hK5
  apply awp_seq; intro K6 hK6
  apply awp_region 2 [0, 1, 5, 7, 33]
  rw [evK_succ]; simp +decide only [go_sem]
  (repeat' apply And.intro) <;> first | refine callK_intro _ (known_at w0 B Rw L hT) ?_ | (intros; omega) | (intros; simp_all; done)
  rw [evK_succ]; simp +decide only [go_sem]
  (repeat' apply And.intro) <;> first | refine hK6 _ _ ?_ | (intros; omega) | (intros; simp_all; done)
  clear hK6
  refine awp_cond _ (by simp +decide only [go_sem]) (by simp +decide only [go_sem]; rfl) (fun hb => ?_) (fun hb => ?_)
  · try simp at hb
    apply awp_seq; intro K7 hK7
    apply awp_region 2 [4]
    rw [evK_succ]; simp +decide only [go_sem]
    (repeat' apply And.intro) <;> first | refine callK_intro _ (known_at w0 B Rw L hT) ?_ | (intros; omega) | (intros; simp_all; done)
    rw [evK_succ]; simp +decide only [go_sem]
    (repeat' apply And.intro) <;> first | refine hK7 _ _ ?_ | (intros; omega) | (intros; simp_all; done)
    clear hK7
    apply awp_ret; simp +decide only [go_sem]
    refine fin_same hcalm (by simp only [go_sem]) ⟨?_, rfl⟩
    rfl
  try simp at hb
  obtain ⟨he0, hf0⟩ := hb
  obtain ⟨hvc, rfl, _⟩ := hca.resolve_right (fun h => by omega)
  obtain ⟨hvd, rfl, _⟩ := hdb.resolve_right (fun h => by omega)
  have hl1 := ptsI_length c.data.toList
  have hl2 := ptsI_length d.data.toList
  obtain ⟨a, haa⟩ : ∃ a, ptsI c.data.toList = a := ⟨_, rfl⟩
  obtain ⟨b, hbb⟩ : ∃ b, ptsI d.data.toList = b := ⟨_, rfl⟩
  rw [haa] at hl1 ha ⊢
  rw [hbb] at hl2 hbl ⊢
  apply awp_skip; simp only [go_sem]
  (repeat' apply And.intro) <;> first | refine hK5 _ _ ?_ | (intros; omega) | (intros; simp_all; done)
  clear hK5
  apply awp_seq; intro K8 hK8
  apply awp_seq; intro K9 hK9
  apply awp_region 1 [0, 1, 5, 7, 9]
  rw [evK_succ]; simp +decide only [go_sem]
  (repeat' apply And.intro) <;> first | refine hK9 _ _ ?_ | (intros; omega) | (intros; simp_all; done)
  clear hK9
  apply awp_block
  refine awp_loop (fun m e st => ∃ k : Nat, k ≤ a.length ∧ k ≤ b.length ∧ m = a.length - k ∧ a.take k = b.take k ∧ e = [(0, true, .val (.string c)), (1, true, .val (.string d)), (5, true, .list (intsA a) .none), (7, true, .list (intsA b) .none), (9, true, .val (.int .i64 k))] ∧ st = ⟨B, Rw, L⟩) a.length ⟨0, by omega, by omega, rfl, rfl, rfl, rfl⟩ ?_
  rintro m e st ⟨k, hk, hk2, rfl, htk, rfl, rfl⟩ KR hKR
  obtain ⟨x, hga⟩ : ∃ x, (intsA a).getD k .junk = x := ⟨_, rfl⟩
  obtain ⟨y, hgb⟩ : ∃ y, (intsA b).getD k .junk = y := ⟨_, rfl⟩
  apply awp_seq; intro K10 hK10
  apply awp_seq; intro K11 hK11
  apply awp_region 1 [0, 1, 5, 7, 9, 44]
  rw [evK_succ]; simp +decide only [go_sem, ha, hbl, hga, hgb]
  (repeat' apply And.intro) <;> first | refine hK11 _ _ ?_ | (intros; omega) | (intros; simp_all; done)
  clear hK11
  refine awp_cond _ (by simp +decide only [go_sem]) (by simp +decide only [go_sem]; rfl) (fun hb => ?_) (fun hb => ?_)
  rotate_left
  · try simp at hb
    apply awp_exit; simp +decide only [go_sem, ha, hbl, hga, hgb]
    (repeat' apply And.intro) <;> first | refine hK8 _ _ ?_ | (intros; omega) | (intros; simp_all; done)
    clear hK8
    apply awp_seq; intro K12 hK12
    apply awp_region 1 [4]
    rw [evK_succ]; simp +decide only [go_sem, ha, hbl, hga, hgb]
    (repeat' apply And.intro) <;> first | refine hK12 _ _ ?_ | (intros; omega) | (intros; simp_all; done)
    clear hK12
    apply awp_ret; simp +decide only [go_sem]
    refine fin_same hcalm (by simp only [go_sem]) ⟨?_, rfl⟩
    subst haa; subst hbb
    rw [order_end hvc hvd htk hk hk2 (by omega)]; simp
  try simp at hb
  have e1 := ints_get (a := a) (k := k) (by omega)
  rw [hga] at e1
  subst e1
  have e2 := ints_get (a := b) (k := k) (by omega)
  rw [hgb] at e2
  subst e2
  obtain ⟨p, hp⟩ : ∃ p, a[k]'(by omega) = p := ⟨_, rfl⟩
  obtain ⟨q, hq⟩ : ∃ q, b[k]'(by omega) = q := ⟨_, rfl⟩
  rw [hp] at hga
  rw [hq] at hgb
  apply awp_skip; simp only [go_sem]
  (repeat' apply And.intro) <;> first | refine hK10 _ _ ?_ | (intros; omega) | (intros; simp_all; done)
  clear hK10
  apply awp_seq; intro K13 hK13
  apply awp_block
  apply awp_seq; intro K14 hK14
  apply awp_draw mix 9 1 1 [0, 1, 5, 7, 9, 55] (by kernel_rfl)
  rw [evK_succ]; simp +decide only [go_sem, ha, hbl, hga, hgb]
  (repeat' with_reducible apply And.intro) <;> first | (rw [evK_succ]; simp +decide only [go_sem, ha, hbl, hga, hgb]) | (intros; omega) | (intros; simp_all; done)
  (repeat' apply And.intro) <;> first | refine hK14 _ _ ?_ | (intros; omega) | (intros; simp_all; done)
  clear hK14
  refine awp_cond _ (by simp +decide only [go_sem]) (by simp +decide only [go_sem]; rfl) (fun hb => ?_) (fun hb => ?_)
  · try simp at hb
    have hne := hb
    apply awp_seq; intro K15 hK15
    apply awp_draw mix 14 1 1 [4] (by kernel_rfl)
    rw [evK_succ]; simp +decide only [go_sem, ha, hbl, hga, hgb]
    (repeat' with_reducible apply And.intro) <;> first | (rw [evK_succ]; simp +decide only [go_sem, ha, hbl, hga, hgb]) | (intros; omega) | (intros; simp_all; done)
    (repeat' apply And.intro) <;> first | refine hK15 _ _ ?_ | (intros; omega) | (intros; simp_all; done)
    clear hK15
    apply awp_ret; simp +decide only [go_sem]
    refine fin_same hcalm (by simp only [go_sem]) ⟨?_, rfl⟩
    subst haa; subst hbb
    rw [order_at hvc hvd htk (by omega) (by omega) hp hq hne]; simp
  try simp at hb
  apply awp_skip; simp only [go_sem]
  (repeat' apply And.intro) <;> first | refine hK13 _ _ ?_ | (intros; omega) | (intros; simp_all; done)
  clear hK13
  apply awp_region 1 [0, 1, 5, 7, 9]
  rw [evK_succ]; simp +decide only [go_sem, ha, hbl, hga, hgb]
  (repeat' apply And.intro) <;> first | refine hKR (a.length - (k + 1)) _ _ ?_ ⟨k + 1, ?_, ?_, rfl, ?_, ?_, rfl⟩ | (intros; omega) | (intros; simp_all; done)
  · omega
  · omega
  · omega
  · exact take_more (by omega) (by omega) htk (by rw [hp, hq]; simpa using hb)
  · simp
end Go.Proofs.YthlhbbejcmbpoaaDoor
