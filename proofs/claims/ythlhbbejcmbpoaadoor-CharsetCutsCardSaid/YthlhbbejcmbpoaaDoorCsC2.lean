/-
  Cut.
-/
import Derived.Test.YthlhbbejcmbpoaaDoorCsN
namespace Go.Proofs.YthlhbbejcmbpoaaDoor
open Go Go.RowKit Go.Ev
/-- What Cut answers. -/
def cutA (s : ByteArray) (most : Int) : AV := if most < 0 then .tup [.val (.string ⟨#[]⟩), .val (.int .i64 2)] else if Lib.validD s.data.toList = false then .tup [.val (.string ⟨#[]⟩), .val (.int .i64 16)]
  else if (s.size : Int) ≤ most then .tup [.val (.string s), .val (.int .i64 0)] else .tup [.val (.string (s.extract 0 (cutN (runesOf s.data.toList) most.toNat))), .val (.int .i64 0)]

set_option maxHeartbeats 4000000 in
theorem Cut_at (w0 : World) (B : List (List AV)) (Rw : List (Nat × Nat)) (L : List LoopA) (hT : Lib.Utf8Tabs 0 1 w0) (s : ByteArray) (hs : s.size ≤ 1048576) (most : Int) :
    ACalls Tryd.prog w0 30 [.val (.string s), .val (.int .i64 most)] ⟨B, Rw, L⟩ fun r st => r = cutA s most ∧ st = ⟨B, Rw, L⟩ := by
  refine ACalls.fin (acalls_of (rs := [.tmp 4, .tmp 5]) Tryd.func30 rfl rfl Tryd.ntmps30 (enters_some Tryd.func30 rfl (by decide)) (Nat.le_of_ble_eq_true rfl) ?_)
  intro M0 W0 hN hNR hNL hcalm hu
  have hsm : s.size ≤ maxLen := by unfold maxLen; omega
  obtain ⟨rs, hrs⟩ : ∃ rs, runesOf s.data.toList = rs := ⟨_, rfl⟩
  have hcount := runes_count s.data.toList
  have htl := tot_le s.data.toList
  rw [hrs] at hcount htl
  have hsz : s.data.toList.length = s.size := by simp
  rw [hsz] at hcount htl
  have hit := runes_iter w0 hT s hsm (B.length + 2)
  rw [hrs] at hit
  simp only [argsE]
  apply awp_seq; intro K1 hK1
  apply awp_region 1 [0, 3]
  rw [evK_succ]; simp +decide only [go_sem]
  (repeat' apply And.intro) <;> first | refine hK1 _ _ ?_ | (intros; omega) | (intros; simp_all; done)
  clear hK1
  apply awp_seq; intro K2 hK2
  apply awp_block
  apply awp_seq; intro K3 hK3
  apply awp_region 1 [0, 3, 9]
  rw [evK_succ]; simp +decide only [go_sem]
  (repeat' apply And.intro) <;> first | refine hK3 _ _ ?_ | (intros; omega) | (intros; simp_all; done)
  clear hK3
  refine awp_cond _ (by simp +decide only [go_sem]) (by simp +decide only [go_sem]; rfl) (fun hb => ?_) (fun hb => ?_)
  · try simp at hb
    apply awp_seq; intro K4 hK4
    apply awp_region 1 [4, 5]
    rw [evK_succ]; simp +decide only [go_sem]
    (repeat' apply And.intro) <;> first | refine hK4 _ _ ?_ | (intros; omega) | (intros; simp_all; done)
    clear hK4
    apply awp_ret; simp +decide only [go_sem]
    refine fin_at hcalm (by first | exact List.prefix_append _ _ | exact List.prefix_refl _) (by first | exact List.prefix_append _ _ | exact List.prefix_refl _) (by first | exact List.prefix_append _ _ | exact List.prefix_refl _) (by simp only [go_sem]) ⟨?_, rfl⟩
    rw [cutA, if_pos hb]
  try simp at hb
  have hm0 := hb
  apply awp_seq; intro K5 hK5
  apply awp_region 2 [0, 3, 12]
  rw [evK_succ]; simp +decide only [go_sem]
  (repeat' apply And.intro) <;> first | refine callK_intro _ (Valid_at w0 _ Rw L hT s hsm) ?_ | (intros; omega) | (intros; simp_all; done)
  rw [evK_succ]; simp +decide only [go_sem]
  (repeat' apply And.intro) <;> first | refine hK5 _ _ ?_ | (intros; omega) | (intros; simp_all; done)
  clear hK5
  refine awp_cond _ (by simp +decide only [go_sem]) (by simp +decide only [go_sem]; rfl) (fun hb => ?_) (fun hb => ?_)
  · try simp at hb
    apply awp_seq; intro K6 hK6
    apply awp_region 1 [4, 5]
    rw [evK_succ]; simp +decide only [go_sem]
    (repeat' apply And.intro) <;> first | refine hK6 _ _ ?_ | (intros; omega) | (intros; simp_all; done)
    clear hK6
    apply awp_ret; simp +decide only [go_sem]
    refine fin_at hcalm (by first | exact List.prefix_append _ _ | exact List.prefix_refl _) (by first | exact List.prefix_append _ _ | exact List.prefix_refl _) (by first | exact List.prefix_append _ _ | exact List.prefix_refl _) (by simp only [go_sem]) ⟨?_, rfl⟩
    rw [cutA, if_neg (by omega), if_pos hb]
  try simp at hb
  have hv := hb
  apply awp_seq; intro K7 hK7
  apply awp_region 1 [0, 3, 16]
  rw [evK_succ]; simp +decide only [go_sem]
  (repeat' apply And.intro) <;> first | refine hK7 _ _ ?_ | (intros; omega) | (intros; simp_all; done)
  clear hK7
  refine awp_cond _ (by simp +decide only [go_sem]) (by simp +decide only [go_sem]; rfl) (fun hb => ?_) (fun hb => ?_)
  · try simp at hb
    apply awp_seq; intro K8 hK8
    apply awp_region 1 [4, 5]
    rw [evK_succ]; simp +decide only [go_sem]
    (repeat' apply And.intro) <;> first | refine hK8 _ _ ?_ | (intros; omega) | (intros; simp_all; done)
    clear hK8
    apply awp_ret; simp +decide only [go_sem]
    refine fin_at hcalm (by first | exact List.prefix_append _ _ | exact List.prefix_refl _) (by first | exact List.prefix_append _ _ | exact List.prefix_refl _) (by first | exact List.prefix_append _ _ | exact List.prefix_refl _) (by simp only [go_sem]) ⟨?_, rfl⟩
    rw [cutA, if_neg (by omega), if_neg (by simp [hv]), if_pos hb]
  try simp at hb
  have hlm := hb
  apply awp_skip; simp only [go_sem]
  (repeat' apply And.intro) <;> first | refine hK2 _ _ ?_ | (intros; omega) | (intros; simp_all; done)
  clear hK2
  apply awp_seq; intro K9 hK9
  apply awp_region 1 [0, 3, 6]
  rw [evK_succ]; simp +decide only [go_sem]
  (repeat' apply And.intro) <;> first | refine hK9 _ _ ?_ | (intros; omega) | (intros; simp_all; done)
  clear hK9
  refine awp_mid (fun e st => ∃ (j : Nat) (la : LoopA), (tot (rs.take j) : Int) ≤ most ∧ j ≤ rs.length ∧ (j < rs.length → most < tot (rs.take (j + 1))) ∧ subE [(0, true, .val (.string s)), (6, true, .box (B.length + 1) 0)] e ∧ st = ⟨B ++ [[.val (.int .i64 most)], [.val (.int .i64 (tot (rs.take j)))], [.val (.string s)]], Rw, L ++ [la]⟩) ?_ ?_
  · intro K10 hK10
    apply awp_seq; intro K11 hK11
    apply awp_region 2 [0, 3, 6, 23]
    rw [evK_succ]; simp +decide only [go_sem]
    (repeat' apply And.intro) <;> first | refine callK_post _ (runes_at w0 _ Rw L s) ?_ | (intros; omega) | (intros; simp_all; done)
    rintro v st ⟨rfl, rfl⟩
    rw [evK_succ]; simp +decide only [go_sem]
    (repeat' apply And.intro) <;> first | refine hK11 _ _ ?_ | (intros; omega) | (intros; simp_all; done)
    clear hK11
    apply awp_block
    refine awp_range (items 0 rs) (fun st => st.boxes[B.length + 2]? = some [.val (.string s)])
      (fun i st => (tot (rs.take i) : Int) ≤ most ∧ st = ⟨B ++ [[.val (.int .i64 most)], [.val (.int .i64 (tot (rs.take i)))], [.val (.string s)]], Rw, L⟩) (fun ex st => ex = .exit 1 ∧ ∃ j, (tot (rs.take j) : Int) ≤ most ∧ j < rs.length ∧ most < tot (rs.take (j + 1)) ∧ st = ⟨B ++ [[.val (.int .i64 most)], [.val (.int .i64 (tot (rs.take j)))], [.val (.string s)]], Rw, L⟩)
      (by simp +decide only [go_sem]) (by simp +decide only [go_sem]) hit (fun x hx => items_two 0 rs x hx) (by decide) ?_ ⟨by simp [tot]; omega, rfl⟩ (fun _ _ h => .inr ⟨1, h.1⟩) ?_ ?_ ?_
    · rintro i st la ⟨_, rfl⟩ _ _; simp [St.push]
    · rintro i s1 ⟨XB, XR, XL⟩ x M1 W1 l la la' hX hI hlike hloops hx K hK
      obtain ⟨p, n, k', hrsi, rfl, hk'⟩ := items_inv 0 rs i x hx
      have hi : i < rs.length := (List.getElem?_eq_some_iff.1 hrsi).1
      have hgd := runes_good s.data.toList (p, n) (by rw [hrs]; exact List.mem_of_getElem? hrsi)
      have hgood := hgd.1
      have hrl := hgd.2.1
      simp only [isPt, decide_eq_true_eq] at hgood
      (try simp only at hX hrl)
      subst hX
      have htk := tot_take_succ rs i p n hrsi
      have htk1 := tot_take_le rs (i + 1)
      obtain ⟨hle, rfl⟩ := hI
      apply awp_seq; intro K12 hK12
      apply awp_region 1 [0, 3, 6, 7, 25]
      rw [evK_succ]; simp +decide only [go_sem]
      (repeat' apply And.intro) <;> first | refine hK12 _ _ ?_ | (intros; omega) | (intros; simp_all; done)
      clear hK12
      apply awp_region 1 [0, 3, 6, 7, 8]
      rw [evK_succ]; simp +decide only [go_sem]
      (repeat' apply And.intro) <;> first | refine hK _ _ (by simp [St.ext, St.push]) (fun KQ hKQ => ?_) | (intros; omega) | (intros; simp_all; done)
      clear hK
      apply awp_block
      apply awp_seq; intro K13 hK13
      apply awp_seq; intro K14 hK14
      apply awp_draw mix 6 2 1 [0, 6, 7, 8, 31] (by kernel_rfl)
      rw [evK_succ]; simp +decide only [go_sem]
      (repeat' apply And.intro) <;> first | refine callK_intro _ (runeLen_at w0 _ _) ?_ | (intros; omega) | (intros; simp_all; done)
      rw [hrl]
      rw [evK_succ]; simp +decide only [go_sem]
      (repeat' with_reducible apply And.intro) <;> first | (rw [evK_succ]; simp +decide only [go_sem]) | (intros; omega) | (intros; simp_all; done)
      (repeat' apply And.intro) <;> first | refine hK14 _ _ ?_ | (intros; omega) | (intros; simp_all; done)
      clear hK14
      refine awp_cond _ (by simp +decide only [go_sem]) (by simp +decide only [go_sem]; rfl) (fun hb => ?_) (fun hb => ?_)
      · try simp at hb
        apply awp_exit; simp +decide only [go_sem]
        (repeat' apply And.intro) <;> first | refine hKQ _ _ _ ?_ | (intros; omega) | (intros; simp_all; done)
        refine ⟨⟨B ++ [[.val (.int .i64 most)], [.val (.int .i64 (tot (rs.take i)))], [.val (.string s)]], Rw, L⟩, [], ?_, ⟨by simp, by simp, rfl⟩, rfl, ⟨rfl, i, hle, hi, by omega, rfl⟩, .inl rfl⟩
        simp
      try simp at hb
      apply awp_skip; simp only [go_sem]
      (repeat' apply And.intro) <;> first | refine hK13 _ _ ?_ | (intros; omega) | (intros; simp_all; done)
      clear hK13
      apply awp_region 2 [0, 6]
      rw [evK_succ]; simp +decide only [go_sem]
      (repeat' apply And.intro) <;> first | refine callK_intro _ (runeLen_at w0 _ _) ?_ | (intros; omega) | (intros; simp_all; done)
      rw [hrl]
      rw [evK_succ]; simp +decide only [go_sem]
      (repeat' apply And.intro) <;> first | refine hKQ _ _ _ ?_ | (intros; omega) | (intros; simp_all; done)
      have e : (k' : Int) + (n : Int) = tot (rs.take (i + 1)) := by omega
      refine ⟨⟨B ++ [[.val (.int .i64 most)], [.val (.int .i64 (tot (rs.take (i + 1))))], [.val (.string s)]], Rw, L⟩, [], ?_, ⟨by simp, by simp, rfl⟩, rfl, ⟨by omega, rfl⟩, .inl rfl⟩
      simp [e]
    · rintro st la ⟨hle, rfl⟩ _ _
      rw [items_len] at hle ⊢
      simp +decide only [go_sem]
      (repeat' apply And.intro) <;> first | refine hK10 _ _ ?_ | (intros; omega) | (intros; simp_all; done)
      exact ⟨rs.length, la, hle, Nat.le_refl _, fun h => absurd h (Nat.lt_irrefl _), subE_cons (by simp [Ev.look]) (subE_cons (by simp [Ev.look]) (subE_nil _)), rfl⟩
    · rintro ex st la ⟨rfl, j, hj1, hj2, hj3, rfl⟩ _ _
      simp +decide only [go_sem]
      refine hK10 _ _ ⟨j, la, hj1, by omega, fun _ => hj3, subE_cons (by simp [Ev.look]) (subE_cons (by simp [Ev.look]) (subE_nil _)), rfl⟩
  · rintro e st ⟨j, la, hj1, hj2, hj3, hsub, rfl⟩
    refine awp_sub _ ?_ hsub
    have hjs := tot_take_le rs j
    apply awp_seq; intro K15 hK15
    apply awp_region 1 [4, 5]
    rw [evK_succ]; simp +decide only [go_sem]
    (repeat' apply And.intro) <;> first | refine hK15 _ _ ?_ | (intros; omega) | (intros; simp_all; done)
    clear hK15
    apply awp_ret; simp +decide only [go_sem]
    refine fin_at hcalm (by first | exact List.prefix_append _ _ | exact List.prefix_refl _) (by first | exact List.prefix_append _ _ | exact List.prefix_refl _) (by first | exact List.prefix_append _ _ | exact List.prefix_refl _) (by simp only [go_sem]) ⟨?_, rfl⟩
    rw [cutA, if_neg (by omega), if_neg (by simp [hv]), if_neg (by omega), hrs, cutN_eq rs most.toNat j (by omega) hj2 (fun h => by have := hj3 h; omega)]

end Go.Proofs.YthlhbbejcmbpoaaDoor
