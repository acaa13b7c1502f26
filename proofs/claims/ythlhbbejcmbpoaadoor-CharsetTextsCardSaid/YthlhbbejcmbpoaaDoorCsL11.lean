/-
  The statement CharsetTexts, walked over abstract states: it answers true.
-/
import Derived.Test.YthlhbbejcmbpoaaDoorCsL30
namespace Go.Proofs.YthlhbbejcmbpoaaDoor
open Go Go.RowKit Go.Ev
set_option maxRecDepth 100000 in
set_option maxHeartbeats 4000000 in
theorem Texts_law (w0 : World) (B : List (List AV)) (Rw : List (Nat × Nat)) (L : List LoopA) (hT : Lib.Utf8Tabs 0 1 w0) (ps : List Int) (ow : Ev.Own) (hpn : ps.length ≤ 9223372036854775807) (hpb : ∀ p ∈ ps, -9223372036854775808 ≤ p ∧ p ≤ 9223372036854775807) :
    ACalls Tryd.prog w0 11 [.list (intsA ps) ow] ⟨B, Rw, L⟩ fun r st => r = .val (.bool true) ∧ st = ⟨B, Rw, L⟩ := by
  refine ACalls.fin (acalls_of (rs := [.tmp 2]) Tryd.func11 rfl rfl Tryd.ntmps11 (enters_some Tryd.func11 rfl (by decide)) (Nat.le_of_ble_eq_true rfl) ?_)
  intro M0 W0 hN hNR hNL hcalm hu
  have ha0 : (intsA ps).length = ps.length := by simp [intsA]
  obtain ⟨q, hq⟩ : ∃ q, ps.take 100 = q := ⟨_, rfl⟩
  have hql : q.length ≤ 100 := by rw [← hq]; simp; omega
  have hqb : ∀ p ∈ q, -9223372036854775808 ≤ p ∧ p ≤ 9223372036854775807 := fun p hp => hpb p (by rw [← hq] at hp; exact List.mem_of_mem_take hp)
  have hcut : List.take (if (100 : Int) < (ps.length : Int) then (100 : Int) else (ps.length : Int)).toNat (intsA ps) = intsA q := by
    have e : (if (100 : Int) < (ps.length : Int) then (100 : Int) else (ps.length : Int)).toNat = min ps.length 100 := by split <;> omega
    rw [e, ← hq, intsA, intsA, ← List.map_take]
    congr 1
    by_cases c : ps.length ≤ 100
    · rw [Nat.min_eq_left c, List.take_length, List.take_of_length_le c]
    · rw [Nat.min_eq_right (by omega)]
  have ha : (intsA q).length = q.length := by simp [intsA]
  obtain ⟨T, hTt⟩ : ∃ T, textS q = T := ⟨_, rfl⟩
  obtain ⟨te, hte⟩ : ∃ e, textE q = e := ⟨_, rfl⟩
  simp only [argsE]
  apply awp_seq; intro K1 hK1
  apply awp_region 1 [0]
  rw [evK_succ]; simp +decide only [go_sem, ha0, ha, hcut]
  (repeat' apply And.intro) <;> first | refine hK1 _ _ ?_ | (intros; omega) | (intros; simp_all; done)
  clear hK1
  apply awp_seq; intro K2 hK2
  apply awp_region 1 [0]
  rw [evK_succ]; simp +decide only [go_sem, ha0, ha, hcut]
  (repeat' apply And.intro) <;> first | refine hK2 _ _ ?_ | (intros; omega) | (intros; simp_all; done)
  clear hK2
  apply awp_seq; intro K3 hK3
  apply awp_region 2 [0, 3, 4]
  rw [evK_succ]; simp +decide only [go_sem, ha0, ha, hcut]
  (repeat' apply And.intro) <;> first | refine callK_intro _ (Text_at w0 _ q _ (by omega) hqb) ?_ | (intros; omega) | (intros; simp_all; done)
  rw [hTt, hte]
  rw [evK_succ]; simp +decide only [go_sem, ha0, ha, hcut]
  (repeat' apply And.intro) <;> first | refine hK3 _ _ ?_ | (intros; omega) | (intros; simp_all; done)
  clear hK3
  apply awp_seq; intro K4 hK4
  apply awp_region 1 [0, 3, 4, 5]
  rw [evK_succ]; simp +decide only [go_sem, ha0, ha, hcut]
  (repeat' apply And.intro) <;> first | refine hK4 _ _ ?_ | (intros; omega) | (intros; simp_all; done)
  clear hK4
  apply awp_seq; intro K5 hK5
  apply awp_seq; intro K6 hK6
  apply awp_region 1 [0, 3, 4, 5, 6]
  rw [evK_succ]; simp +decide only [go_sem, ha0, ha, hcut]
  (repeat' apply And.intro) <;> first | refine hK6 _ _ ?_ | (intros; omega) | (intros; simp_all; done)
  clear hK6
  apply awp_block
  refine awp_loop (fun m e st => ∃ (k : Nat) (wn : ByteArray), k ≤ q.length ∧ m = q.length - k ∧ (∀ p ∈ q.take k, isPt p = true) ∧ wn.data.toList = encL (q.take k) ∧ e = [(0, true, .list (intsA q) .none), (3, true, .val (.string T)), (4, true, .val (.int .i64 te)), (5, true, .val (.string wn)), (6, true, .val (.int .i64 k))] ∧ st = ⟨B, Rw, L⟩) q.length ⟨0, ⟨#[]⟩, by omega, rfl, by simp, rfl, rfl, rfl⟩ ?_
  rintro m e st ⟨k, wn, hk, rfl, hall, hw, rfl, rfl⟩ KR hKR
  obtain ⟨x, hga⟩ : ∃ x, (intsA q).getD k .junk = x := ⟨_, rfl⟩
  apply awp_seq; intro K7 hK7
  apply awp_seq; intro K8 hK8
  apply awp_region 1 [0, 3, 4, 5, 6, 22]
  rw [evK_succ]; simp +decide only [go_sem, ha, hga]
  (repeat' apply And.intro) <;> first | refine hK8 _ _ ?_ | (intros; omega) | (intros; simp_all; done)
  clear hK8
  refine awp_cond _ (by simp +decide only [go_sem]) (by simp +decide only [go_sem]; rfl) (fun hb => ?_) (fun hb => ?_)
  rotate_left
  · try simp at hb
    have hkk : k = q.length := by omega
    subst hkk
    rw [List.take_length] at hall hw
    have hT1 : T = ⟨(encL q).toArray⟩ := by rw [← hTt]; exact if_pos hall
    have hte0 : te = 0 := by rw [← hte]; exact if_pos hall
    have hTl : T.data.toList = encL q := by rw [hT1]
    have hvt : Lib.validD T.data.toList = true := by rw [hTl]; exact valid_enc q hall
    have htp : ptsI T.data.toList = q := by
      rw [hTl, ptsI, ptsN, runes_enc q hall, List.map_map, List.map_map]
      have : ∀ p ∈ q, ((fun p : Nat => (p : Int)) ∘ (fun x : Nat × Nat => x.1) ∘ fun p : Int => (p.toNat, (Lib.encodeRune p).length)) p = p := fun p hp => by
        have := isPt_bounds (hall p hp)
        simp only [Function.comp_apply]; omega
      exact (List.map_congr_left this).trans (List.map_id' q)
    have hTs : T.size ≤ 400 := by
      have h1 := encL_length q
      have h2 : T.size = (encL q).length := by rw [← hTl]; simp
      omega
    obtain ⟨a, ea, hpc, hca⟩ := pointsA_form T
    obtain ⟨_, haa, hea⟩ := hca.resolve_right (fun h => by rw [h.1] at hvt; cases hvt)
    rw [htp] at haa
    rw [haa, hea] at hpc
    have hes : sEq T wn = true := by simp [sEq, hTl, hw]
    apply awp_exit; simp +decide only [go_sem, ha, hga]
    (repeat' apply And.intro) <;> first | refine hK5 _ _ ?_ | (intros; omega) | (intros; simp_all; done)
    clear hK5
    apply awp_seq; intro K9 hK9
    apply awp_region 2 [0, 3, 4, 5, 7, 8]
    rw [evK_succ]; simp +decide only [go_sem, ha, hga]
    (repeat' apply And.intro) <;> first | refine callK_intro _ (Points_at w0 B Rw L hT T (by omega)) ?_ | (intros; omega) | (intros; simp_all; done)
    rw [hpc]
    rw [evK_succ]; simp +decide only [go_sem, ha, hga]
    (repeat' apply And.intro) <;> first | refine hK9 _ _ ?_ | (intros; omega) | (intros; simp_all; done)
    clear hK9
    apply awp_seq; intro K10 hK10
    apply awp_region 3 [2]
    rw [evK_succ]; simp +decide only [go_sem, ha, hga]
    (repeat' apply And.intro) <;> first | refine callK_intro _ (known_at w0 B Rw L hT) ?_ | (intros; omega) | (intros; simp_all; done)
    rw [evK_succ]; simp +decide only [go_sem, ha, hga]
    (repeat' apply And.intro) <;> first | refine callK_intro_if _ (fun _ => same_at w0 B Rw L q q _ _ (by omega)) ?_ | (intros; omega) | (intros; simp_all; done)
    rw [evK_succ]; simp +decide only [go_sem, ha, hga]
    (repeat' apply And.intro) <;> first | refine hK10 _ _ ?_ | (intros; omega) | (intros; simp_all; done)
    clear hK10
    apply awp_ret; simp +decide only [go_sem]
    refine fin_same hcalm (by simp only [go_sem]) ⟨?_, rfl⟩
    simp [hte0, hes]
  try simp at hb
  have e1 := ints_get (a := q) (k := k) (by omega)
  rw [hga] at e1
  subst e1
  obtain ⟨p, hp⟩ : ∃ p, q[k]'(by omega) = p := ⟨_, rfl⟩
  rw [hp] at hga
  apply awp_skip; simp only [go_sem]
  (repeat' apply And.intro) <;> first | refine hK7 _ _ ?_ | (intros; omega) | (intros; simp_all; done)
  clear hK7
  apply awp_seq; intro K11 hK11
  apply awp_block
  apply awp_seq; intro K12 hK12
  apply awp_seq; intro K13 hK13
  apply awp_region 2 [0, 3, 4, 5, 6, 30]
  rw [evK_succ]; simp +decide only [go_sem, ha, hga]
  (repeat' apply And.intro) <;> first | refine callK_intro _ (IsPoint_at w0 B Rw L _) ?_ | (intros; omega) | (intros; simp_all; done)
  rw [evK_succ]; simp +decide only [go_sem, ha, hga]
  (repeat' apply And.intro) <;> first | refine hK13 _ _ ?_ | (intros; omega) | (intros; simp_all; done)
  clear hK13
  refine awp_cond _ (by simp +decide only [go_sem]) (by simp +decide only [go_sem]; rfl) (fun hb => ?_) (fun hb => ?_)
  · have hpt : isPt p = false := by simpa using hb
    have hbad := text_bad (ps := q) (k := k) (by omega) (by rw [hp]; exact hpt)
    apply awp_seq; intro K14 hK14
    apply awp_region 2 [2]
    rw [evK_succ]; simp +decide only [go_sem, ha, hga]
    (repeat' apply And.intro) <;> first | refine callK_intro _ (known_at w0 B Rw L hT) ?_ | (intros; omega) | (intros; simp_all; done)
    rw [evK_succ]; simp +decide only [go_sem, ha, hga]
    (repeat' apply And.intro) <;> first | refine hK14 _ _ ?_ | (intros; omega) | (intros; simp_all; done)
    clear hK14
    apply awp_ret; simp +decide only [go_sem]
    refine fin_same hcalm (by simp only [go_sem]) ⟨?_, rfl⟩
    rw [hTt, hte] at hbad
    obtain ⟨rfl, rfl⟩ := hbad
    simp [sEq_refl]
  have hpt : isPt p = true := by simpa using hb
  clear hb
  have hwz : wn.size ≤ 400 := by
    have h1 := encL_length (q.take k)
    have h2 : wn.size = (encL (q.take k)).length := by rw [← hw]; simp
    have h3 : (q.take k).length ≤ k := List.length_take_le _ _
    omega
  have hez : (encS p).size ≤ 4 := by
    have h2 : (encS p).size = (Lib.encodeRune p).length := rfl
    rw [h2, enc_length p hpt]
    split <;> (try split) <;> (try split) <;> omega
  apply awp_skip; simp only [go_sem]
  (repeat' apply And.intro) <;> first | refine hK12 _ _ ?_ | (intros; omega) | (intros; simp_all; done)
  clear hK12
  apply awp_region 2 [0, 3, 4, 5, 6]
  rw [evK_succ]; simp +decide only [go_sem, ha, hga]
  (repeat' apply And.intro) <;> first | refine callK_intro _ (refEncode_at w0 B Rw L p hpt) ?_ | (intros; omega) | (intros; simp_all; done)
  rw [evK_succ]; simp +decide only [go_sem, ha, hga]
  (repeat' apply And.intro) <;> first | refine hK11 _ _ ?_ | (intros; omega) | (intros; simp_all; done)
  clear hK11
  apply awp_region 1 [0, 3, 4, 5, 6]
  rw [evK_succ]; simp +decide only [go_sem, ha, hga]
  (repeat' apply And.intro) <;> first | refine hKR (q.length - (k + 1)) _ _ ?_ ⟨k + 1, wn ++ encS p, ?_, rfl, ?_, ?_, ?_, rfl⟩ | (intros; omega) | (intros; simp_all; done)
  · omega
  · omega
  · intro p' hp'
    rw [List.take_succ_eq_append_getElem (by omega), List.mem_append, List.mem_singleton] at hp'
    rcases hp' with h | h
    · exact hall p' h
    · rw [h, hp]; exact hpt
  · rw [encL_snoc q k (by omega), hp, ← hw, encS]; simp
  · simp
end Go.Proofs.YthlhbbejcmbpoaaDoor
