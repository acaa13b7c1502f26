/-
  The statement CharsetDecodes: walked over abstract states: it answers true.
-/
import Derived.Test.YthlhbbejcmbpoaaDoorCsF
namespace Go.Proofs.YthlhbbejcmbpoaaDoor
open Go Go.RowKit Go.Ev

def outB (s : ByteArray) (at' : Int) : Bool := decide (at' < 0 ∨ (s.size : Int) ≤ at')
def decP (s : ByteArray) (at' : Int) : Int := if outB s at' = true then 0 else if bad (s.data.toList.drop at'.toNat) then 0 else (Lib.decodeL (s.data.toList.drop at'.toNat)).1
def decN (s : ByteArray) (at' : Int) : Int := if outB s at' = true then 0 else if bad (s.data.toList.drop at'.toNat) then 0 else (Lib.decodeL (s.data.toList.drop at'.toNat)).2
def decE (s : ByteArray) (at' : Int) : Int := if outB s at' = true then 2 else if bad (s.data.toList.drop at'.toNat) then 16 else 0
theorem inside {s : ByteArray} {at' : Int} (h : 0 ≤ at' ∧ at' < (s.size : Int)) : outB s at' = false ∧ s.data.toList.drop at'.toNat ≠ [] := by
  refine ⟨decide_eq_false (by omega), fun e => ?_⟩
  have := congrArg List.length e
  simp only [List.length_drop, Array.length_toList, List.length_nil] at this
  have hz : s.data.size = s.size := rfl
  omega
theorem refDec_zero {l : List UInt8} (hne : l ≠ []) (h : (refDec l).2 = 0) : bad l = true := by
  cases hb : bad l with
  | true => rfl
  | false =>
    rw [refDec, if_neg (by simp [hne, hb])] at h
    have := Lib.decodeL_width l
    omega
theorem refDec_some {l : List UInt8} (h : ¬ (refDec l).2 = 0) : bad l = false ∧ refDec l = Lib.decodeL l := by
  by_cases c : l = [] ∨ bad l = true
  · exact absurd (by rw [refDec, if_pos c]) h
  · exact ⟨by cases hb : bad l with | true => exact absurd (.inr hb) c | false => rfl, by rw [refDec, if_neg c]⟩
theorem decodeA_eq (s : ByteArray) (at' : Int) : decodeA s at' = .tup [.val (.int .i64 (decP s at')), .val (.int .i64 (decN s at')), .val (.int .i64 (decE s at'))] := by
  unfold decodeA decP decN decE
  by_cases c : at' < 0 ∨ (s.size : Int) ≤ at'
  · have ho : outB s at' = true := decide_eq_true c
    simp only [if_pos c, ho, if_true]
  · have ho : ¬ outB s at' = true := by simp only [outB, decide_eq_true_eq]; exact c
    simp only [if_neg c, if_neg ho]
    by_cases d : bad (s.data.toList.drop at'.toNat) = true
    · simp only [if_pos d]
    · simp only [if_neg d]

set_option maxHeartbeats 4000000 in
theorem Decodes_at (w0 : World) (B : List (List AV)) (Rw : List (Nat × Nat)) (L : List LoopA) (hT : Lib.Utf8Tabs 0 1 w0) (s : ByteArray) (at' : Int) (hs : s.size ≤ maxLen) (hat : at' ≤ 9223372036854775807) :
    ACalls Tryd.prog w0 4 [.val (.string s), .val (.int .i64 at')] ⟨B, Rw, L⟩ fun r st => r = .val (.bool true) ∧ st = ⟨B, Rw, L⟩ := by
  refine ACalls.fin (acalls_of (rs := [.tmp 4]) Tryd.func4 rfl rfl Tryd.ntmps4 (enters_some Tryd.func4 rfl (by decide)) (Nat.le_of_ble_eq_true rfl) ?_)
  intro M0 W0 hN hNR hNL hcalm hu
  simp only [argsE]
  apply awp_seq; intro K1 hK1
  apply awp_region 1 [0, 1]
  rw [evK_succ]; simp +decide only [go_sem]
  (repeat' apply And.intro) <;> first | refine hK1 _ _ ?_ | (intros; omega) | (intros; simp_all; done)
  clear hK1
  apply awp_seq; intro K2 hK2
  apply awp_region 2 [0, 1]
  rw [evK_succ]; simp +decide only [go_sem]
  (repeat' apply And.intro) <;> first | refine callK_intro _ (cut_at w0 B Rw L s hs) ?_ | (intros; omega) | (intros; simp_all; done)
  obtain ⟨t, ht, hts⟩ : ∃ t, s.extract 0 (min s.size 300) = t ∧ t.size ≤ 300 := ⟨_, rfl, by simp [ByteArray.size_extract]; omega⟩
  rw [ht]
  rw [evK_succ]; simp +decide only [go_sem]
  (repeat' apply And.intro) <;> first | refine hK2 _ _ ?_ | (intros; omega) | (intros; simp_all; done)
  clear hK2
  apply awp_seq; intro K3 hK3
  apply awp_region 2 [0, 1, 5, 6, 7]
  rw [evK_succ]; simp +decide only [go_sem]
  (repeat' apply And.intro) <;> first | refine callK_intro _ (Decode_at w0 B Rw L hT t at' hat) ?_ | (intros; omega) | (intros; simp_all; done)
  rw [decodeA_eq]
  rw [evK_succ]; simp +decide only [go_sem]
  (repeat' apply And.intro) <;> first | refine hK3 _ _ ?_ | (intros; omega) | (intros; simp_all; done)
  clear hK3
  apply awp_seq; intro K4 hK4
  apply awp_seq; intro K5 hK5
  apply awp_region 2 [0, 1, 5, 6, 7, 20]
  rw [evK_succ]; simp +decide only [go_sem]
  (repeat' apply And.intro) <;> first | refine callK_intro _ (known_at w0 B Rw L hT) ?_ | (intros; omega) | (intros; simp_all; done)
  rw [evK_succ]; simp +decide only [go_sem]
  (repeat' apply And.intro) <;> first | refine hK5 _ _ ?_ | (intros; omega) | (intros; simp_all; done)
  clear hK5
  refine awp_cond _ (by simp +decide only [go_sem]) (by simp +decide only [go_sem]; rfl) (fun hb => ?_) (fun hb => ?_)
  · cases hb
  clear hb
  apply awp_skip; simp only [go_sem]
  (repeat' apply And.intro) <;> first | refine hK4 _ _ ?_ | (intros; omega) | (intros; simp_all; done)
  clear hK4
  apply awp_seq; intro K7 hK7
  apply awp_seq; intro K8 hK8
  apply awp_region 1 [0, 1, 5, 6, 7, 28]
  rw [evK_succ]; simp +decide only [go_sem]
  (repeat' apply And.intro) <;> first | refine hK8 _ _ ?_ | (intros; omega) | (intros; simp_all; done)
  clear hK8
  refine awp_cond _ (by simp +decide only [go_sem]) (by simp +decide only [go_sem]; rfl) (fun hb => ?_) (fun hb => ?_)
  · simp at hb
    apply awp_seq; intro K9 hK9
    apply awp_region 1 [4]
    rw [evK_succ]; simp +decide only [go_sem]
    (repeat' apply And.intro) <;> first | refine hK9 _ _ ?_ | (intros; omega) | (intros; simp_all; done)
    clear hK9
    apply awp_ret; simp +decide only [go_sem]
    refine fin_same hcalm (by simp only [go_sem]) ⟨?_, rfl⟩
    have ho : outB t at' = true := decide_eq_true hb
    simp [decP, decN, decE, ho]
  simp at hb
  have hin := hb
  apply awp_skip; simp only [go_sem]
  (repeat' apply And.intro) <;> first | refine hK7 _ _ ?_ | (intros; omega) | (intros; simp_all; done)
  clear hK7
  apply awp_seq; intro K10 hK10
  apply awp_region 2 [5, 6, 7, 8, 9]
  rw [evK_succ]; simp +decide only [go_sem]
  (repeat' apply And.intro) <;> first | refine callK_intro _ (refDecode_at w0 B Rw L _ (by simp [ByteArray.size_extract, maxLen]; omega)) ?_ | (intros; omega) | (intros; simp_all; done)
  simp only [refDecA, Lib.ext_list]
  rw [evK_succ]; simp +decide only [go_sem]
  (repeat' apply And.intro) <;> first | refine hK10 _ _ ?_ | (intros; omega) | (intros; simp_all; done)
  clear hK10
  apply awp_seq; intro K11 hK11
  apply awp_seq; intro K12 hK12
  apply awp_region 1 [5, 6, 7, 8, 9, 47]
  rw [evK_succ]; simp +decide only [go_sem]
  (repeat' apply And.intro) <;> first | refine hK12 _ _ ?_ | (intros; omega) | (intros; simp_all; done)
  clear hK12
  refine awp_cond _ (by simp +decide only [go_sem]) (by simp +decide only [go_sem]; rfl) (fun hb => ?_) (fun hb => ?_)
  · simp at hb
    apply awp_seq; intro K13 hK13
    apply awp_region 1 [4]
    rw [evK_succ]; simp +decide only [go_sem]
    (repeat' apply And.intro) <;> first | refine hK13 _ _ ?_ | (intros; omega) | (intros; simp_all; done)
    clear hK13
    apply awp_ret; simp +decide only [go_sem]
    refine fin_same hcalm (by simp only [go_sem]) ⟨?_, rfl⟩
    obtain ⟨ho, hne⟩ := inside hin
    have hbad := refDec_zero hne hb
    simp [decP, decN, decE, ho, hbad]
  simp at hb
  apply awp_skip; simp only [go_sem]
  (repeat' apply And.intro) <;> first | refine hK11 _ _ ?_ | (intros; omega) | (intros; simp_all; done)
  clear hK11
  apply awp_seq; intro K14 hK14
  apply awp_region 1 [4]
  rw [evK_succ]; simp +decide only [go_sem]
  (repeat' apply And.intro) <;> first | refine hK14 _ _ ?_ | (intros; omega) | (intros; simp_all; done)
  clear hK14
  apply awp_ret; simp +decide only [go_sem]
  refine fin_same hcalm (by simp only [go_sem]) ⟨?_, rfl⟩
  obtain ⟨ho, hne⟩ := inside hin
  obtain ⟨hbad, hr⟩ := refDec_some hb
  simp [decP, decN, decE, ho, hbad, hr]

end Go.Proofs.YthlhbbejcmbpoaaDoor
