/-
  The offset of the first error: the reference's, and the package's.
-/
import Derived.Test.YthlhbbejcmbpoaaDoorCsF
namespace Go.Proofs.YthlhbbejcmbpoaaDoor
open Go Go.RowKit Go.Ev
def firstOf (l : List UInt8) : Int := if Lib.validD l = true then -1 else tot (runesOf l)
theorem refDec_two {l : List UInt8} (hne : l ≠ []) : ((refDec l).2 = 0 ∧ bad l = true) ∨ (bad l = false ∧ refDec l = Lib.decodeL l ∧ 1 ≤ (refDec l).2 ∧ tot (runesOf l) = (refDec l).2 + tot (runesOf (l.drop (refDec l).2))) := by
  by_cases c : bad l = true
  · exact .inl ⟨by rw [refDec, if_pos (.inr c)], c⟩
  · have cf : bad l = false := by simpa using c
    have e : refDec l = Lib.decodeL l := by rw [refDec, if_neg (by simp [hne, cf])]
    have := Lib.decodeL_width l
    exact .inr ⟨cf, e, by rw [e]; exact this, by rw [e, runesOf_step hne cf, tot_cons]⟩
theorem drop_ne {l : List UInt8} {k : Nat} (h : k < l.length) : l.drop k ≠ [] := fun e => by
  have := congrArg List.length e
  simp at this; omega
theorem first_done {l : List UInt8} {k : Nat} (hk : l.length ≤ k) (hkl : k ≤ l.length) (h : tot (runesOf l) = k + tot (runesOf (l.drop k))) : firstOf l = -1 := by
  rw [List.drop_eq_nil_of_le hk, runesOf_nil, tot_nil] at h
  rw [firstOf, valid_tot, if_pos (decide_eq_true (by omega))]
theorem first_bad {l : List UInt8} {k : Nat} (hk : k < l.length) (hb : bad (l.drop k) = true) (h : tot (runesOf l) = k + tot (runesOf (l.drop k))) : firstOf l = k := by
  rw [runesOf_bad hb, tot_nil] at h
  rw [firstOf, valid_tot, if_neg (by simp; omega)]; omega

set_option maxHeartbeats 4000000 in
theorem refFirst_at (w0 : World) (B : List (List AV)) (Rw : List (Nat × Nat)) (L : List LoopA) (s : ByteArray) (hs : s.size ≤ maxLen) :
    ACalls Tryd.prog w0 20 [.val (.string s)] ⟨B, Rw, L⟩ fun r st => r = .val (.int .i64 (firstOf s.data.toList)) ∧ st = ⟨B, Rw, L⟩ := by
  refine ACalls.fin (acalls_of (rs := [.tmp 2]) Tryd.func20 rfl rfl Tryd.ntmps20 (enters_some Tryd.func20 rfl (by decide)) (Nat.le_of_ble_eq_true rfl) ?_)
  intro M0 W0 hN hNR hNL hcalm hu
  unfold maxLen at hs
  have hsz : s.data.toList.length = s.size := by simp
  simp only [argsE]
  apply awp_seq; intro K1 hK1
  apply awp_region 1 [0]
  rw [evK_succ]; simp +decide only [go_sem]
  (repeat' apply And.intro) <;> first | refine hK1 _ _ ?_ | (intros; omega) | (intros; simp_all; done)
  clear hK1
  apply awp_seq; intro K2 hK2
  apply awp_region 1 [0, 3]
  rw [evK_succ]; simp +decide only [go_sem]
  (repeat' apply And.intro) <;> first | refine hK2 _ _ ?_ | (intros; omega) | (intros; simp_all; done)
  clear hK2
  apply awp_seq; intro K3 hK3
  apply awp_block
  refine awp_loop (fun m e st => ∃ k : Nat, k ≤ s.size ∧ m = s.size - k ∧ tot (runesOf s.data.toList) = k + tot (runesOf (s.data.toList.drop k)) ∧ e = [(0, true, .val (.string s)), (3, true, .val (.int .i64 k))] ∧ st = ⟨B, Rw, L⟩) s.size ⟨0, by omega, rfl, by simp, rfl, rfl⟩ ?_
  rintro m e st ⟨k, hk, rfl, htot, rfl, rfl⟩ KR hKR
  apply awp_seq; intro K4 hK4
  apply awp_seq; intro K5 hK5
  apply awp_region 1 [0, 3, 9]
  rw [evK_succ]; simp +decide only [go_sem]
  (repeat' apply And.intro) <;> first | refine hK5 _ _ ?_ | (intros; omega) | (intros; simp_all; done)
  clear hK5
  refine awp_cond _ (by simp +decide only [go_sem]) (by simp +decide only [go_sem]; rfl) (fun hb => ?_) (fun hb => ?_)
  rotate_left
  · simp at hb
    apply awp_exit; simp +decide only [go_sem]
    (repeat' apply And.intro) <;> first | refine hK3 _ _ ?_ | (intros; omega) | (intros; simp_all; done)
    clear hK3
    apply awp_seq; intro K6 hK6
    apply awp_region 1 [2]
    rw [evK_succ]; simp +decide only [go_sem]
    (repeat' apply And.intro) <;> first | refine hK6 _ _ ?_ | (intros; omega) | (intros; simp_all; done)
    clear hK6
    apply awp_ret; simp +decide only [go_sem]
    refine fin_same hcalm (by simp only [go_sem]) ⟨?_, rfl⟩
    rw [first_done (by omega) (by omega) htot]
  simp at hb
  have hne := drop_ne (l := s.data.toList) (k := k) (by omega)
  have hd2 := refDec_two hne
  have hle := Lib.decodeL_le _ hne
  have hdl : (s.data.toList.drop k).length = s.size - k := by rw [List.length_drop, hsz]
  rw [hdl] at hle
  apply awp_skip; simp only [go_sem]
  (repeat' apply And.intro) <;> first | refine hK4 _ _ ?_ | (intros; omega) | (intros; simp_all; done)
  clear hK4
  apply awp_block
  apply awp_seq; intro K7 hK7
  apply awp_region 2 [0, 3, 5]
  rw [evK_succ]; simp +decide only [go_sem]
  (repeat' apply And.intro) <;> first | refine callK_intro _ (refDecode_at w0 B Rw L _ (by simp [ByteArray.size_extract, maxLen]; omega)) ?_ | (intros; omega) | (intros; simp_all; done)
  simp only [refDecA, Lib.ext_list]
  obtain ⟨d, hd⟩ : ∃ d, refDec (s.data.toList.drop k) = d := ⟨_, rfl⟩
  rw [hd] at hd2 ⊢
  rw [evK_succ]; simp +decide only [go_sem]
  (repeat' apply And.intro) <;> first | refine hK7 _ _ ?_ | (intros; omega) | (intros; simp_all; done)
  clear hK7
  apply awp_seq; intro K8 hK8
  apply awp_seq; intro K9 hK9
  apply awp_region 1 [0, 3, 5, 18]
  rw [evK_succ]; simp +decide only [go_sem]
  (repeat' apply And.intro) <;> first | refine hK9 _ _ ?_ | (intros; omega) | (intros; simp_all; done)
  clear hK9
  refine awp_cond _ (by simp +decide only [go_sem]) (by simp +decide only [go_sem]; rfl) (fun hb => ?_) (fun hb => ?_)
  · simp at hb
    apply awp_seq; intro K10 hK10
    apply awp_region 1 [2]
    rw [evK_succ]; simp +decide only [go_sem]
    (repeat' apply And.intro) <;> first | refine hK10 _ _ ?_ | (intros; omega) | (intros; simp_all; done)
    clear hK10
    apply awp_ret; simp +decide only [go_sem]
    refine fin_same hcalm (by simp only [go_sem]) ⟨?_, rfl⟩
    obtain ⟨_, hbad⟩ := hd2.resolve_right (fun h => by omega)
    rw [first_bad (by omega) hbad htot]
  simp at hb
  obtain ⟨hbad, hdec, h1, htt⟩ := hd2.resolve_left (fun h => hb h.1)
  rw [← hdec] at hle
  rw [List.drop_drop] at htt
  apply awp_skip; simp only [go_sem]
  (repeat' apply And.intro) <;> first | refine hK8 _ _ ?_ | (intros; omega) | (intros; simp_all; done)
  clear hK8
  apply awp_region 1 [0, 3]
  rw [evK_succ]; simp +decide only [go_sem]
  (repeat' apply And.intro) <;> first | refine hKR (s.size - (k + d.2)) _ _ ?_ ⟨k + d.2, ?_, rfl, ?_, ?_, rfl⟩ | (intros; omega) | (intros; simp_all; done)
  · omega
  · omega
  · omega
  · simp

end Go.Proofs.YthlhbbejcmbpoaaDoor
