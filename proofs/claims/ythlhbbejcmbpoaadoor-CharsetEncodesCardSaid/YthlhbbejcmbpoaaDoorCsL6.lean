/-
  Encode, and the statement CharsetEncodes: walked over abstract states: it answers true.
-/
import Derived.Test.YthlhbbejcmbpoaaDoorCsH2
namespace Go.Proofs.YthlhbbejcmbpoaaDoor
open Go Go.RowKit Go.Ev
/-- What Encode answers. -/
def encA (p : Int) : ByteArray := if isPt p = true then encS p else ⟨#[]⟩
def encE (p : Int) : Int := if isPt p = true then 0 else 2
theorem sEq_refl (s : ByteArray) : sEq s s = true := by simp [sEq]
theorem encA_list (p : Int) (h : isPt p = true) : (encA p).data.toList = Lib.encodeRune p := by simp [encA, h, encS]
theorem enc_size (p : Int) (h : isPt p = true) : 1 ≤ (encA p).size ∧ (encA p).size ≤ 4 := by
  have e : (encA p).size = (Lib.encodeRune p).length := by rw [← encA_list p h]; rfl
  rw [e, enc_length p h]
  split <;> (try split) <;> (try split) <;> omega
theorem decode_enc (p : Int) (h : isPt p = true) : decodeA (encA p) 0 = .tup [.val (.int .i64 p), .val (.int .i64 (encA p).size), .val (.int .i64 0)] := by
  obtain ⟨hb, hp, hn⟩ := dec_enc p h []
  rw [List.append_nil] at hb hp hn
  have hs := enc_size p h
  have e : (encA p).size = (Lib.encodeRune p).length := by rw [← encA_list p h]; rfl
  unfold decodeA
  rw [if_neg (by omega)]
  simp only [Int.toNat_zero, List.drop_zero, encA_list p h, hb, hp, hn, e]
  rfl

set_option maxHeartbeats 4000000 in
theorem Encode_at (w0 : World) (B : List (List AV)) (Rw : List (Nat × Nat)) (L : List LoopA) (p : Int) :
    ACalls Tryd.prog w0 22 [.val (.int .i64 p)] ⟨B, Rw, L⟩ fun r st => r = .tup [.val (.string (encA p)), .val (.int .i64 (encE p))] ∧ st = ⟨B, Rw, L⟩ := by
  refine ACalls.fin (acalls_of (rs := [.tmp 2, .tmp 3]) Tryd.func22 rfl rfl Tryd.ntmps22 (enters_some Tryd.func22 rfl (by decide)) (Nat.le_of_ble_eq_true rfl) ?_)
  intro M0 W0 hN hNR hNL hcalm hu
  simp only [argsE]
  apply awp_seq; intro K1 hK1
  apply awp_region 1 [0]
  rw [evK_succ]; simp +decide only [go_sem]
  (repeat' apply And.intro) <;> first | refine hK1 _ _ ?_ | (intros; omega) | (intros; simp_all; done)
  clear hK1
  apply awp_seq; intro K2 hK2
  apply awp_seq; intro K3 hK3
  apply awp_region 2 [0, 6]
  rw [evK_succ]; simp +decide only [go_sem]
  (repeat' apply And.intro) <;> first | refine callK_intro _ (isPoint_at w0 B Rw L p) ?_ | (intros; omega) | (intros; simp_all; done)
  rw [evK_succ]; simp +decide only [go_sem]
  (repeat' apply And.intro) <;> first | refine hK3 _ _ ?_ | (intros; omega) | (intros; simp_all; done)
  clear hK3
  refine awp_cond _ (by simp +decide only [go_sem]) (by simp +decide only [go_sem]; rfl) (fun hb => ?_) (fun hb => ?_)
  · simp at hb
    apply awp_seq; intro K4 hK4
    apply awp_region 1 [2, 3]
    rw [evK_succ]; simp +decide only [go_sem]
    (repeat' apply And.intro) <;> first | refine hK4 _ _ ?_ | (intros; omega) | (intros; simp_all; done)
    clear hK4
    apply awp_ret; simp +decide only [go_sem]
    refine fin_same hcalm (by simp only [go_sem]) ⟨?_, rfl⟩
    simp [encA, encE, hb]
  have hp : isPt p = true := by simpa using hb
  clear hb
  obtain ⟨hb0, hb1, hb2⟩ := isPt_bounds hp
  apply awp_skip; simp only [go_sem]
  (repeat' apply And.intro) <;> first | refine hK2 _ _ ?_ | (intros; omega) | (intros; simp_all; done)
  clear hK2
  apply awp_seq; intro K5 hK5
  apply awp_region 1 [2, 3]
  rw [evK_succ]; simp +decide only [go_sem]
  (repeat' apply And.intro) <;> first | refine hK5 _ _ ?_ | (intros; omega) | (intros; simp_all; done)
  clear hK5
  apply awp_ret; simp +decide only [go_sem]
  refine fin_same hcalm (by simp only [go_sem]) ⟨?_, rfl⟩
  simp [encA, encE, hp, encode_encS hb0]

set_option maxHeartbeats 4000000 in
theorem Encodes_at (w0 : World) (B : List (List AV)) (Rw : List (Nat × Nat)) (L : List LoopA) (hT : Lib.Utf8Tabs 0 1 w0) (p : Int) (_hp : -9223372036854775808 ≤ p ∧ p ≤ 9223372036854775807) :
    ACalls Tryd.prog w0 6 [.val (.int .i64 p)] ⟨B, Rw, L⟩ fun r st => r = .val (.bool true) ∧ st = ⟨B, Rw, L⟩ := by
  refine ACalls.fin (acalls_of (rs := [.tmp 2]) Tryd.func6 rfl rfl Tryd.ntmps6 (enters_some Tryd.func6 rfl (by decide)) (Nat.le_of_ble_eq_true rfl) ?_)
  intro M0 W0 hN hNR hNL hcalm hu
  simp only [argsE]
  apply awp_seq; intro K1 hK1
  apply awp_region 1 [0]
  rw [evK_succ]; simp +decide only [go_sem]
  (repeat' apply And.intro) <;> first | refine hK1 _ _ ?_ | (intros; omega) | (intros; simp_all; done)
  clear hK1
  apply awp_seq; intro K2 hK2
  apply awp_region 2 [0, 3, 4]
  rw [evK_succ]; simp +decide only [go_sem]
  (repeat' apply And.intro) <;> first | refine callK_intro _ (Encode_at w0 B Rw L p) ?_ | (intros; omega) | (intros; simp_all; done)
  rw [evK_succ]; simp +decide only [go_sem]
  (repeat' apply And.intro) <;> first | refine hK2 _ _ ?_ | (intros; omega) | (intros; simp_all; done)
  clear hK2
  apply awp_seq; intro K3 hK3
  apply awp_seq; intro K4 hK4
  apply awp_region 2 [0, 3, 4, 14]
  rw [evK_succ]; simp +decide only [go_sem]
  (repeat' apply And.intro) <;> first | refine callK_intro _ (known_at w0 B Rw L hT) ?_ | (intros; omega) | (intros; simp_all; done)
  rw [evK_succ]; simp +decide only [go_sem]
  (repeat' apply And.intro) <;> first | refine hK4 _ _ ?_ | (intros; omega) | (intros; simp_all; done)
  clear hK4
  refine awp_cond _ (by simp +decide only [go_sem]) (by simp +decide only [go_sem]; rfl) (fun hb => ?_) (fun hb => ?_)
  · cases hb
  clear hb
  apply awp_skip; simp only [go_sem]
  (repeat' apply And.intro) <;> first | refine hK3 _ _ ?_ | (intros; omega) | (intros; simp_all; done)
  clear hK3
  apply awp_seq; intro K6 hK6
  apply awp_seq; intro K7 hK7
  apply awp_region 2 [0, 3, 4, 17]
  rw [evK_succ]; simp +decide only [go_sem]
  (repeat' apply And.intro) <;> first | refine callK_intro _ (IsPoint_at w0 B Rw L p) ?_ | (intros; omega) | (intros; simp_all; done)
  rw [evK_succ]; simp +decide only [go_sem]
  (repeat' apply And.intro) <;> first | refine hK7 _ _ ?_ | (intros; omega) | (intros; simp_all; done)
  clear hK7
  refine awp_cond _ (by simp +decide only [go_sem]) (by simp +decide only [go_sem]; rfl) (fun hb => ?_) (fun hb => ?_)
  · simp at hb
    apply awp_seq; intro K8 hK8
    apply awp_region 1 [2]
    rw [evK_succ]; simp +decide only [go_sem]
    (repeat' apply And.intro) <;> first | refine hK8 _ _ ?_ | (intros; omega) | (intros; simp_all; done)
    clear hK8
    apply awp_ret; simp +decide only [go_sem]
    refine fin_same hcalm (by simp only [go_sem]) ⟨?_, rfl⟩
    simp [encA, encE, hb, sEq_refl]
  have hp : isPt p = true := by simpa using hb
  clear hb
  have hdec := decode_enc p hp
  have hen := (enc_size p hp).2
  apply awp_skip; simp only [go_sem]
  (repeat' apply And.intro) <;> first | refine hK6 _ _ ?_ | (intros; omega) | (intros; simp_all; done)
  clear hK6
  apply awp_seq; intro K9 hK9
  apply awp_region 2 [0, 3, 4, 5, 6, 7]
  rw [evK_succ]; simp +decide only [go_sem]
  (repeat' apply And.intro) <;> first | refine callK_intro _ (Decode_at w0 B Rw L hT (encA p) 0 (by omega)) ?_ | (intros; omega) | (intros; simp_all; done)
  rw [hdec]
  rw [evK_succ]; simp +decide only [go_sem]
  (repeat' apply And.intro) <;> first | refine hK9 _ _ ?_ | (intros; omega) | (intros; simp_all; done)
  clear hK9
  apply awp_seq; intro K10 hK10
  apply awp_region 2 [2]
  rw [evK_succ]; simp +decide only [go_sem]
  (repeat' apply And.intro) <;> first | refine callK_intro _ (refEncode_at w0 B Rw L p hp) ?_ | (intros; omega) | (intros; simp_all; done)
  rw [evK_succ]; simp +decide only [go_sem]
  (repeat' apply And.intro) <;> first | refine hK10 _ _ ?_ | (intros; omega) | (intros; simp_all; done)
  clear hK10
  apply awp_ret; simp +decide only [go_sem]
  refine fin_same hcalm (by simp only [go_sem]) ⟨?_, rfl⟩
  simp [encA, encE, hp, sEq_refl]

end Go.Proofs.YthlhbbejcmbpoaaDoor
