/-
  The statement CharsetPoints, walked over abstract states: it answers true.
-/
import Derived.Test.YthlhbbejcmbpoaaDoorCsL30
namespace Go.Proofs.YthlhbbejcmbpoaaDoor
open Go Go.RowKit Go.Ev
set_option maxRecDepth 100000 in
set_option maxHeartbeats 4000000 in
theorem Points_law (w0 : World) (B : List (List AV)) (Rw : List (Nat × Nat)) (L : List LoopA) (hT : Lib.Utf8Tabs 0 1 w0) (s : ByteArray) (hs : s.size ≤ maxLen) :
    ACalls Tryd.prog w0 13 [.val (.string s)] ⟨B, Rw, L⟩ fun r st => r = .val (.bool true) ∧ st = ⟨B, Rw, L⟩ := by
  refine ACalls.fin (acalls_of (rs := [.tmp 2]) Tryd.func13 rfl rfl Tryd.ntmps13 (enters_some Tryd.func13 rfl (by decide)) (Nat.le_of_ble_eq_true rfl) ?_)
  intro M0 W0 hN hNR hNL hcalm hu
  have hcs := cut_size s
  obtain ⟨c, hc⟩ : ∃ c, s.extract 0 (min s.size 300) = c := ⟨_, rfl⟩
  rw [hc] at hcs
  have hcm : c.size ≤ maxLen := by unfold maxLen; omega
  have hcM : c.size ≤ 1048576 := by omega
  have hcz : c.data.toList.length = c.size := by simp
  have hfn := first_neg c.data.toList
  obtain ⟨Fc, hF⟩ : ∃ F, firstOf c.data.toList = F := ⟨_, rfl⟩
  rw [hF] at hfn
  obtain ⟨a, ea, hpc, hca⟩ := pointsA_form c
  have hal : a.length ≤ 300 := by
    have := ptsI_length c.data.toList
    rcases hca with ⟨_, rfl, _⟩ | ⟨_, rfl, _⟩
    · omega
    · simp
  have ha : (intsA a).length = a.length := by simp [intsA]
  obtain ⟨n, f, hcnt, hcc⟩ : ∃ n f : Int, (AV.tup (if Lib.validD c.data.toList = true then [.val (.int .i64 (Lib.runeCount c)), .val (.int .i64 0)] else [.val (.int .i64 0), .val (.int .i64 16)])) = .tup [.val (.int .i64 n), .val (.int .i64 f)] ∧ ((Lib.validD c.data.toList = true ∧ n = Lib.runeCount c ∧ f = 0) ∨ (Lib.validD c.data.toList = false ∧ n = 0 ∧ f = 16)) := by
    cases Lib.validD c.data.toList with
    | true => exact ⟨_, _, rfl, .inl ⟨rfl, rfl, rfl⟩⟩
    | false => exact ⟨_, _, rfl, .inr ⟨rfl, rfl, rfl⟩⟩
  simp only [argsE]
  apply awp_seq; intro K1 hK1
  apply awp_region 1 [0]
  rw [evK_succ]; simp +decide only [go_sem, ha]
  (repeat' apply And.intro) <;> first | refine hK1 _ _ ?_ | (intros; omega) | (intros; simp_all; done)
  clear hK1
  apply awp_seq; intro K2 hK2
  apply awp_region 2 [0]
  rw [evK_succ]; simp +decide only [go_sem, ha]
  (repeat' apply And.intro) <;> first | refine callK_intro _ (cut_at w0 B Rw L s hs) ?_ | (intros; omega) | (intros; simp_all; done)
  rw [hc]
  rw [evK_succ]; simp +decide only [go_sem, ha]
  (repeat' apply And.intro) <;> first | refine hK2 _ _ ?_ | (intros; omega) | (intros; simp_all; done)
  clear hK2
  apply awp_seq; intro K3 hK3
  apply awp_region 2 [0, 3, 4]
  rw [evK_succ]; simp +decide only [go_sem, ha]
  (repeat' apply And.intro) <;> first | refine callK_intro _ (Points_at w0 B Rw L hT c hcM) ?_ | (intros; omega) | (intros; simp_all; done)
  rw [hpc]
  rw [evK_succ]; simp +decide only [go_sem, ha]
  (repeat' apply And.intro) <;> first | refine hK3 _ _ ?_ | (intros; omega) | (intros; simp_all; done)
  clear hK3
  apply awp_seq; intro K4 hK4
  apply awp_region 2 [0, 3, 4, 5, 6]
  rw [evK_succ]; simp +decide only [go_sem, ha]
  (repeat' apply And.intro) <;> first | refine callK_intro _ (Count_at w0 B Rw L hT c hcM) ?_ | (intros; omega) | (intros; simp_all; done)
  rw [hcnt]
  rw [evK_succ]; simp +decide only [go_sem, ha]
  (repeat' apply And.intro) <;> first | refine hK4 _ _ ?_ | (intros; omega) | (intros; simp_all; done)
  clear hK4
  apply awp_seq; intro K5 hK5
  apply awp_seq; intro K6 hK6
  apply awp_region 2 [0, 3, 4, 5, 6, 22]
  rw [evK_succ]; simp +decide only [go_sem, ha]
  (repeat' apply And.intro) <;> first | refine callK_intro _ (known_at w0 B Rw L hT) ?_ | (intros; omega) | (intros; simp_all; done)
  rw [evK_succ]; simp +decide only [go_sem, ha]
  (repeat' apply And.intro) <;> first | refine hK6 _ _ ?_ | (intros; omega) | (intros; simp_all; done)
  clear hK6
  refine awp_cond _ (by simp +decide only [go_sem]) (by simp +decide only [go_sem]; rfl) (fun hb => ?_) (fun hb => ?_)
  · cases hb
  clear hb
  apply awp_skip; simp only [go_sem]
  (repeat' apply And.intro) <;> first | refine hK5 _ _ ?_ | (intros; omega) | (intros; simp_all; done)
  clear hK5
  apply awp_seq; intro K8 hK8
  apply awp_seq; intro K9 hK9
  apply awp_region 2 [0, 3, 4, 5, 6, 25]
  rw [evK_succ]; simp +decide only [go_sem, ha]
  (repeat' apply And.intro) <;> first | refine callK_intro _ (refFirst_at w0 B Rw L c hcm) ?_ | (intros; omega) | (intros; simp_all; done)
  rw [hF]
  rw [evK_succ]; simp +decide only [go_sem, ha]
  (repeat' apply And.intro) <;> first | refine hK9 _ _ ?_ | (intros; omega) | (intros; simp_all; done)
  clear hK9
  refine awp_cond _ (by simp +decide only [go_sem]) (by simp +decide only [go_sem]; rfl) (fun hb => ?_) (fun hb => ?_)
  · try simp at hb
    have hv : Lib.validD c.data.toList = false := by rw [← hfn]; exact decide_eq_false (by omega)
    apply awp_seq; intro K10 hK10
    apply awp_region 1 [2]
    rw [evK_succ]; simp +decide only [go_sem, ha]
    (repeat' apply And.intro) <;> first | refine hK10 _ _ ?_ | (intros; omega) | (intros; simp_all; done)
    clear hK10
    apply awp_ret; simp +decide only [go_sem]
    refine fin_same hcalm (by simp only [go_sem]) ⟨?_, rfl⟩
    obtain ⟨_, haa, hea⟩ := hca.resolve_left (fun h => by rw [h.1] at hv; cases hv)
    obtain ⟨_, hnn, hff⟩ := hcc.resolve_left (fun h => by rw [h.1] at hv; cases hv)
    simp [haa, hea, hnn, hff, intsA]
  try simp at hb
  have hv : Lib.validD c.data.toList = true := by rw [← hfn]; exact decide_eq_true (by omega)
  obtain ⟨_, haa, hea⟩ := hca.resolve_right (fun h => by rw [h.1] at hv; cases hv)
  obtain ⟨_, hnn, hff⟩ := hcc.resolve_right (fun h => by rw [h.1] at hv; cases hv)
  have hgood := ptsI_good c.data.toList
  rw [← haa] at hgood
  apply awp_skip; simp only [go_sem]
  (repeat' apply And.intro) <;> first | refine hK8 _ _ ?_ | (intros; omega) | (intros; simp_all; done)
  clear hK8
  apply awp_seq; intro K11 hK11
  apply awp_region 2 [0, 3, 4, 5, 6, 7, 8]
  rw [evK_succ]; simp +decide only [go_sem, ha]
  (repeat' apply And.intro) <;> first | refine callK_intro _ (Text_at w0 _ a _ (by omega) (fun p hp => by have := hgood p hp; simp only [isPt, decide_eq_true_eq] at this; omega)) ?_ | (intros; omega) | (intros; simp_all; done)
  rw [evK_succ]; simp +decide only [go_sem, ha]
  (repeat' apply And.intro) <;> first | refine hK11 _ _ ?_ | (intros; omega) | (intros; simp_all; done)
  clear hK11
  apply awp_seq; intro K12 hK12
  apply awp_region 3 [2]
  rw [evK_succ]; simp +decide only [go_sem, ha]
  (repeat' apply And.intro) <;> first | refine callK_intro_if _ (fun _ => refPoints_at w0 B Rw L c hcM) ?_ | (intros; omega) | (intros; simp_all; done)
  rw [← haa]
  rw [evK_succ]; simp +decide only [go_sem, ha]
  (repeat' apply And.intro) <;> first | refine callK_intro_if _ (fun _ => same_at w0 B Rw L a a _ _ (by omega)) ?_ | (intros; omega) | (intros; simp_all; done)
  rw [evK_succ]; simp +decide only [go_sem, ha]
  (repeat' apply And.intro) <;> first | refine hK12 _ _ ?_ | (intros; omega) | (intros; simp_all; done)
  clear hK12
  apply awp_ret; simp +decide only [go_sem]
  refine fin_same hcalm (by simp only [go_sem]) ⟨?_, rfl⟩
  have e1 : textE a = 0 := if_pos hgood
  have e2 : textS a = ⟨(encL a).toArray⟩ := if_pos hgood
  have e3 : encL a = c.data.toList := by rw [haa]; exact encL_pts _ hv
  have e4 : (Lib.runeCount c : Int) = a.length := by rw [count_runes c hv, haa]
  simp [hea, hnn, hff, e1, e2, e3, e4, sEq]
end Go.Proofs.YthlhbbejcmbpoaaDoor
