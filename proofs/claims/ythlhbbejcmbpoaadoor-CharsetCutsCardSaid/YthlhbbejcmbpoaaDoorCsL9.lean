/-
  The statement CharsetCuts, walked over abstract states: it answers true.
-/
import Derived.Test.YthlhbbejcmbpoaaDoorCsL90
namespace Go.Proofs.YthlhbbejcmbpoaaDoor
open Go Go.RowKit Go.Ev
set_option maxRecDepth 100000 in
set_option maxHeartbeats 4000000 in
theorem Cuts_law (w0 : World) (B : List (List AV)) (Rw : List (Nat × Nat)) (L : List LoopA) (hT : Lib.Utf8Tabs 0 1 w0) (s : ByteArray) (hs : s.size ≤ maxLen) (most : Int) (hmm : -9223372036854775808 ≤ most ∧ most ≤ 9223372036854775807) :
    ACalls Tryd.prog w0 9 [.val (.string s), .val (.int .i64 most)] ⟨B, Rw, L⟩ fun r st => r = .val (.bool true) ∧ st = ⟨B, Rw, L⟩ := by
  refine ACalls.fin (acalls_of (rs := [.tmp 4]) Tryd.func9 rfl rfl Tryd.ntmps9 (enters_some Tryd.func9 rfl (by decide)) (Nat.le_of_ble_eq_true rfl) ?_)
  intro M0 W0 hN hNR hNL hcalm hu
  have hcs := cut_size s
  obtain ⟨c, hc⟩ : ∃ c, s.extract 0 (min s.size 300) = c := ⟨_, rfl⟩
  rw [hc] at hcs
  have hcm : c.size ≤ maxLen := by unfold maxLen; omega
  have hcM : c.size ≤ 1048576 := by omega
  have hcz : c.data.toList.length = c.size := by simp
  have hfn := first_neg c.data.toList
  obtain ⟨Fc, hF⟩ : ∃ F, firstOf c.data.toList = F := ⟨_, rfl⟩
  rw [hF] at hfn
  obtain ⟨A, e0, hca, hcf⟩ := cutA_form c most
  simp only [argsE]
  apply awp_seq; intro K1 hK1
  apply awp_region 1 [0, 1]
  rw [evK_succ]; simp +decide only [go_sem]
  (repeat' apply And.intro) <;> first | refine hK1 _ _ ?_ | (intros; omega) | (intros; simp_all; done)
  clear hK1
  apply awp_seq; intro K2 hK2
  apply awp_region 2 [0, 1]
  rw [evK_succ]; simp +decide only [go_sem]
  (repeat' apply And.intro) <;> first | refine callK_intro _ (cut_at w0 B Rw L s hs) ?_ | (intros; omega) | (intros; simp_all; done)
  rw [hc]
  rw [evK_succ]; simp +decide only [go_sem]
  (repeat' apply And.intro) <;> first | refine hK2 _ _ ?_ | (intros; omega) | (intros; simp_all; done)
  clear hK2
  apply awp_seq; intro K3 hK3
  apply awp_region 2 [0, 1, 5, 6]
  rw [evK_succ]; simp +decide only [go_sem]
  (repeat' apply And.intro) <;> first | refine callK_intro _ (Cut_at w0 B Rw L hT c hcM most) ?_ | (intros; omega) | (intros; simp_all; done)
  rw [hca]
  rw [evK_succ]; simp +decide only [go_sem]
  (repeat' apply And.intro) <;> first | refine hK3 _ _ ?_ | (intros; omega) | (intros; simp_all; done)
  clear hK3
  apply awp_seq; intro K4 hK4
  apply awp_block
  apply awp_seq; intro K5 hK5
  apply awp_region 2 [0, 1, 5, 6, 16]
  rw [evK_succ]; simp +decide only [go_sem]
  (repeat' apply And.intro) <;> first | refine callK_intro _ (known_at w0 B Rw L hT) ?_ | (intros; omega) | (intros; simp_all; done)
  rw [evK_succ]; simp +decide only [go_sem]
  (repeat' apply And.intro) <;> first | refine hK5 _ _ ?_ | (intros; omega) | (intros; simp_all; done)
  clear hK5
  refine awp_cond _ (by simp +decide only [go_sem]) (by simp +decide only [go_sem]; rfl) (fun hb => ?_) (fun hb => ?_)
  · cases hb
  clear hb
  apply awp_seq; intro K7 hK7
  apply awp_region 1 [0, 1, 5, 6, 19]
  rw [evK_succ]; simp +decide only [go_sem]
  (repeat' apply And.intro) <;> first | refine hK7 _ _ ?_ | (intros; omega) | (intros; simp_all; done)
  clear hK7
  refine awp_cond _ (by simp +decide only [go_sem]) (by simp +decide only [go_sem]; rfl) (fun hb => ?_) (fun hb => ?_)
  · try simp at hb
    apply awp_seq; intro K8 hK8
    apply awp_region 1 [4]
    rw [evK_succ]; simp +decide only [go_sem]
    (repeat' apply And.intro) <;> first | refine hK8 _ _ ?_ | (intros; omega) | (intros; simp_all; done)
    clear hK8
    apply awp_ret; simp +decide only [go_sem]
    refine fin_same hcalm (by simp only [go_sem]) ⟨?_, rfl⟩
    obtain ⟨_, rfl, rfl⟩ := hcf.resolve_right (fun h => by rcases h with h | h <;> omega)
    simp [sEq_refl]
  try simp at hb
  have hm0 := hb
  apply awp_seq; intro K9 hK9
  apply awp_region 2 [0, 1, 5, 6, 28]
  rw [evK_succ]; simp +decide only [go_sem]
  (repeat' apply And.intro) <;> first | refine callK_intro _ (refFirst_at w0 B Rw L c hcm) ?_ | (intros; omega) | (intros; simp_all; done)
  rw [hF]
  rw [evK_succ]; simp +decide only [go_sem]
  (repeat' apply And.intro) <;> first | refine hK9 _ _ ?_ | (intros; omega) | (intros; simp_all; done)
  clear hK9
  refine awp_cond _ (by simp +decide only [go_sem]) (by simp +decide only [go_sem]; rfl) (fun hb => ?_) (fun hb => ?_)
  · try simp at hb
    have hv : Lib.validD c.data.toList = false := by rw [← hfn]; exact decide_eq_false (by omega)
    apply awp_seq; intro K10 hK10
    apply awp_region 1 [4]
    rw [evK_succ]; simp +decide only [go_sem]
    (repeat' apply And.intro) <;> first | refine hK10 _ _ ?_ | (intros; omega) | (intros; simp_all; done)
    clear hK10
    apply awp_ret; simp +decide only [go_sem]
    refine fin_same hcalm (by simp only [go_sem]) ⟨?_, rfl⟩
    obtain ⟨_, _, rfl, rfl⟩ := (hcf.resolve_left (fun h => by omega)).resolve_right (fun h => by rw [h.2.1] at hv; cases hv)
    simp [sEq_refl]
  try simp at hb
  have hv : Lib.validD c.data.toList = true := by rw [← hfn]; exact decide_eq_true (by omega)
  obtain ⟨_, _, hA, hE⟩ := (hcf.resolve_left (fun h => by omega)).resolve_left (fun h => by rw [h.2.1] at hv; cases hv)
  obtain ⟨q1, q2, q3, q4⟩ := cut_best c.data.toList hv (min most.toNat c.data.toList.length)
  have hcK : cutN (runesOf c.data.toList) (min most.toNat c.data.toList.length) = cutK c.data.toList most := rfl
  rw [hcK] at q1 q2 q3 q4
  apply awp_skip; simp only [go_sem]
  (repeat' apply And.intro) <;> first | refine hK4 _ _ ?_ | (intros; omega) | (intros; simp_all; done)
  clear hK4
  apply awp_seq; intro K11 hK11
  apply awp_region 1 [0, 5, 6, 7]
  rw [evK_succ]; simp +decide only [go_sem]
  (repeat' apply And.intro) <;> first | refine hK11 _ _ ?_ | (intros; omega) | (intros; simp_all; done)
  clear hK11
  apply awp_seq; intro K12 hK12
  apply awp_block
  refine awp_loop (fun m e st => ∃ k : Nat, cutK c.data.toList most ≤ k ∧ k ≤ min most.toNat c.data.toList.length ∧ m = k ∧ e = [(0, true, .val (.string c)), (5, true, .val (.string A)), (6, true, .val (.int .i64 e0)), (7, true, .val (.int .i64 k))] ∧ st = ⟨B, Rw, L⟩) (min most.toNat c.data.toList.length) ⟨min most.toNat c.data.toList.length, q1, Nat.le_refl _, rfl, ?_, rfl⟩ ?_
  · have e : (if (c.size : Int) < most then (c.size : Int) else most) = ((min most.toNat c.data.toList.length : Nat) : Int) := by split <;> omega
    rw [e]
  rintro m e st ⟨k, hk1, hk2, hm, rfl, rfl⟩ KR hKR
  have hek : (c.extract 0 k).size ≤ maxLen := by simp [ByteArray.size_extract, maxLen]; omega
  have hfk := first_neg (c.extract 0 k).data.toList
  obtain ⟨Fk, hFk⟩ : ∃ F, firstOf (c.extract 0 k).data.toList = F := ⟨_, rfl⟩
  rw [hFk, ext_take] at hfk
  apply awp_seq; intro K13 hK13
  apply awp_seq; intro K14 hK14
  apply awp_region 2 [0, 5, 6, 7, 46]
  rw [evK_succ]; simp +decide only [go_sem]
  (repeat' apply And.intro) <;> first | refine callK_intro _ (refFirst_at w0 B Rw L _ hek) ?_ | (intros; omega) | (intros; simp_all; done)
  rw [hFk]
  rw [evK_succ]; simp +decide only [go_sem]
  (repeat' apply And.intro) <;> first | refine hK14 _ _ ?_ | (intros; omega) | (intros; simp_all; done)
  clear hK14
  refine awp_cond _ (by simp +decide only [go_sem]) (by simp +decide only [go_sem]; rfl) (fun hb => ?_) (fun hb => ?_)
  rotate_left
  · try simp at hb
    apply awp_exit; simp +decide only [go_sem]
    (repeat' apply And.intro) <;> first | refine hK12 _ _ ?_ | (intros; omega) | (intros; simp_all; done)
    clear hK12
    apply awp_seq; intro K15 hK15
    apply awp_region 1 [4]
    rw [evK_succ]; simp +decide only [go_sem]
    (repeat' apply And.intro) <;> first | refine hK15 _ _ ?_ | (intros; omega) | (intros; simp_all; done)
    clear hK15
    apply awp_ret; simp +decide only [go_sem]
    refine fin_same hcalm (by simp only [go_sem]) ⟨?_, rfl⟩
    have hvk : Lib.validD (c.data.toList.take k) = true := by rw [← hfk]; exact decide_eq_true (by omega)
    have hkk : k = cutK c.data.toList most := Nat.le_antisymm (q4 k (by omega) (by omega) hvk) hk1
    have e : sEq A (c.extract 0 k) = true := by simp [sEq, hA, hkk, ext_take]
    simp [hE, e]
  try simp at hb
  have hinv : Lib.validD (c.data.toList.take k) = false := by rw [← hfk]; exact decide_eq_false (by omega)
  have hne : k ≠ cutK c.data.toList most := fun e => by rw [e] at hinv; rw [hinv] at q3; cases q3
  apply awp_skip; simp only [go_sem]
  (repeat' apply And.intro) <;> first | refine hK13 _ _ ?_ | (intros; omega) | (intros; simp_all; done)
  clear hK13
  apply awp_block
  apply awp_region 1 [0, 5, 6, 7]
  rw [evK_succ]; simp +decide only [go_sem]
  (repeat' apply And.intro) <;> first | refine hKR (k - 1) _ _ ?_ ⟨k - 1, ?_, ?_, rfl, ?_, rfl⟩ | (intros; omega) | (intros; simp_all; done)
  · omega
  · omega
  · omega
  · have e : ((k - 1 : Nat) : Int) = (k : Int) - 1 := by omega
    rw [e]
end Go.Proofs.YthlhbbejcmbpoaaDoor
