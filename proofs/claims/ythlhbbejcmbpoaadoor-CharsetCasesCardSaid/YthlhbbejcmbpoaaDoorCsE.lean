/-
  The charset package, part five: small functions: the first example, cut, Decode, IsPoint.
-/
import Derived.Test.YthlhbbejcmbpoaaDoorCsD
namespace Go.Proofs.YthlhbbejcmbpoaaDoor
open Go Go.RowKit Go.Ev

def exampleL : List UInt8 := [97, 195, 169, 226, 130, 172]
theorem example_runes : runesOf exampleL = [(97, 1), (233, 2), (8364, 3)] := by
  have h1 : runesOf exampleL = Lib.decodeL exampleL :: runesOf (exampleL.drop (Lib.decodeL exampleL).2) := runesOf_step (by decide) (by decide)
  have d1 : Lib.decodeL exampleL = (97, 1) := by decide
  have h2 : runesOf [195, 169, 226, 130, 172] = Lib.decodeL [195, 169, 226, 130, 172] :: runesOf ([195, 169, 226, 130, 172].drop (Lib.decodeL [195, 169, 226, 130, 172]).2) := runesOf_step (by decide) (by decide)
  have d2 : Lib.decodeL [195, 169, 226, 130, 172] = (233, 2) := by decide
  have h3 : runesOf [226, 130, 172] = Lib.decodeL [226, 130, 172] :: runesOf ([226, 130, 172].drop (Lib.decodeL [226, 130, 172]).2) := runesOf_step (by decide) (by decide)
  have d3 : Lib.decodeL [226, 130, 172] = (8364, 3) := by decide
  rw [h1, d1]
  show (97, 1) :: runesOf [195, 169, 226, 130, 172] = _
  rw [h2, d2]
  show (97, 1) :: (233, 2) :: runesOf [226, 130, 172] = _
  rw [h3, d3]
  show (97, 1) :: (233, 2) :: (8364, 3) :: runesOf [] = _
  rw [runesOf_nil]
theorem example_points (s : ByteArray) (h : s.data.toList = exampleL) : pointsA s = .tup [.list [.val (.int .i64 97), .val (.int .i64 233), .val (.int .i64 8364)] .none, .val (.int .i64 0)] := by
  have hv : Lib.validD exampleL = true := by decide
  rw [pointsA, h, hv, example_runes]
  rfl

set_option maxHeartbeats 1000000 in
theorem known_at (w0 : World) (B : List (List AV)) (Rw : List (Nat × Nat)) (L : List LoopA) (hT : Lib.Utf8Tabs 0 1 w0) :
    ACalls Tryd.prog w0 16 [] ⟨B, Rw, L⟩ fun r st => r = .val (.bool true) ∧ st = ⟨B, Rw, L⟩ := by
  refine ACalls.fin (acalls_of (rs := [.tmp 0]) Tryd.func16 rfl rfl Tryd.ntmps16 (enters_some Tryd.func16 rfl (by decide)) (Nat.le_of_ble_eq_true rfl) ?_)
  intro M0 W0 hN hNR hNL hcalm hu
  simp only [argsE]
  apply awp_seq; intro K1 hK1
  apply awp_region 1 []
  rw [evK_succ]; simp +decide only [go_sem]
  (repeat' apply And.intro) <;> first | refine hK1 _ _ ?_ | (intros; omega) | (intros; simp_all; done)
  clear hK1
  apply awp_seq; intro K2 hK2
  apply awp_region 2 [1, 2]
  rw [evK_succ]; simp +decide only [go_sem]
  (repeat' apply And.intro) <;> first | refine callK_intro _ (Points_at w0 B Rw L hT _ (by decide)) ?_ | (intros; omega) | (intros; simp_all; done)
  rw [example_points _ (by rfl)]
  rw [evK_succ]; simp +decide only [go_sem]
  (repeat' apply And.intro) <;> first | refine hK2 _ _ ?_ | (intros; omega) | (intros; simp_all; done)
  clear hK2
  apply awp_seq; intro K3 hK3
  apply awp_region 1 [0]
  rw [evK_succ]; simp +decide only [go_sem]
  (repeat' apply And.intro) <;> first | refine hK3 _ _ ?_ | (intros; omega) | (intros; simp_all; done)
  clear hK3
  apply awp_ret; simp +decide only [go_sem]
  exact fin_same hcalm (by simp only [go_sem]) ⟨rfl, rfl⟩

theorem cut_at (w0 : World) (B : List (List AV)) (Rw : List (Nat × Nat)) (L : List LoopA) (s : ByteArray) (hs : s.size ≤ maxLen) :
    ACalls Tryd.prog w0 14 [.val (.string s)] ⟨B, Rw, L⟩ fun r st => r = .val (.string (s.extract 0 (min s.size 300))) ∧ st = ⟨B, Rw, L⟩ := by
  refine ACalls.fin (acalls_of (rs := [.tmp 2]) Tryd.func14 rfl rfl Tryd.ntmps14 (enters_some Tryd.func14 rfl (by decide)) (Nat.le_of_ble_eq_true rfl) ?_)
  intro M0 W0 hN hNR hNL hcalm hu
  unfold maxLen at hs
  simp only [argsE]
  apply awp_seq; intro K1 hK1
  apply awp_region 1 [0]
  rw [evK_succ]; simp +decide only [go_sem]
  (repeat' apply And.intro) <;> first | refine hK1 _ _ ?_ | (intros; omega) | (intros; simp_all; done)
  clear hK1
  apply awp_seq; intro K2 hK2
  apply awp_region 1 [2]
  rw [evK_succ]; simp +decide only [go_sem]
  (repeat' apply And.intro) <;> first | refine hK2 _ _ ?_ | (intros; omega) | (intros; simp_all; done)
  clear hK2
  apply awp_ret; simp +decide only [go_sem]
  refine fin_same hcalm (by simp only [go_sem]) ⟨?_, rfl⟩
  have e : (if 300 < (s.size : Int) then (300 : Int) else (s.size : Int)).toNat = min s.size 300 := by split <;> omega
  rw [e]

theorem IsPoint_at (w0 : World) (B : List (List AV)) (Rw : List (Nat × Nat)) (L : List LoopA) (p : Int) :
    ACalls Tryd.prog w0 23 [.val (.int .i64 p)] ⟨B, Rw, L⟩ fun r st => r = .val (.bool (isPt p)) ∧ st = ⟨B, Rw, L⟩ := by
  refine ACalls.fin (acalls_of (rs := [.tmp 2]) Tryd.func23 rfl rfl Tryd.ntmps23 (enters_some Tryd.func23 rfl (by decide)) (Nat.le_of_ble_eq_true rfl) ?_)
  intro M0 W0 hN hNR hNL hcalm hu
  simp only [argsE]
  apply awp_seq; intro K1 hK1
  apply awp_region 1 [0]
  rw [evK_succ]; simp +decide only [go_sem]
  (repeat' apply And.intro) <;> first | refine hK1 _ _ ?_ | (intros; omega) | (intros; simp_all; done)
  clear hK1
  apply awp_seq; intro K2 hK2
  apply awp_region 1 [2]
  rw [evK_succ]; simp +decide only [go_sem]
  (repeat' apply And.intro) <;> first | refine hK2 _ _ ?_ | (intros; omega) | (intros; simp_all; done)
  clear hK2
  apply awp_ret; simp +decide only [go_sem]
  refine fin_same hcalm (by simp only [go_sem]) ⟨?_, rfl⟩
  simp [isPt, Bool.decide_and, Bool.decide_or, Bool.and_assoc]

theorem isPoint_at (w0 : World) (B : List (List AV)) (Rw : List (Nat × Nat)) (L : List LoopA) (p : Int) :
    ACalls Tryd.prog w0 39 [.val (.int .i64 p)] ⟨B, Rw, L⟩ fun r st => r = .val (.bool (isPt p)) ∧ st = ⟨B, Rw, L⟩ := by
  refine ACalls.fin (acalls_of (rs := [.tmp 2]) Tryd.func39 rfl rfl Tryd.ntmps39 (enters_some Tryd.func39 rfl (by decide)) (Nat.le_of_ble_eq_true rfl) ?_)
  intro M0 W0 hN hNR hNL hcalm hu
  simp only [argsE]
  apply awp_seq; intro K1 hK1
  apply awp_region 1 [0]
  rw [evK_succ]; simp +decide only [go_sem]
  (repeat' apply And.intro) <;> first | refine hK1 _ _ ?_ | (intros; omega) | (intros; simp_all; done)
  clear hK1
  apply awp_seq; intro K2 hK2
  apply awp_region 1 [2]
  rw [evK_succ]; simp +decide only [go_sem]
  (repeat' apply And.intro) <;> first | refine hK2 _ _ ?_ | (intros; omega) | (intros; simp_all; done)
  clear hK2
  apply awp_ret; simp +decide only [go_sem]
  refine fin_same hcalm (by simp only [go_sem]) ⟨?_, rfl⟩
  simp [isPt, Bool.decide_and, Bool.decide_or, Bool.and_assoc]

/-- What Decode answers. -/
def decodeA (s : ByteArray) (at' : Int) : AV :=
  if at' < 0 ∨ (s.size : Int) ≤ at' then .tup [.val (.int .i64 0), .val (.int .i64 0), .val (.int .i64 2)]
  else if bad (s.data.toList.drop at'.toNat) then .tup [.val (.int .i64 0), .val (.int .i64 0), .val (.int .i64 16)]
  else .tup [.val (.int .i64 (Lib.decodeL (s.data.toList.drop at'.toNat)).1), .val (.int .i64 (Lib.decodeL (s.data.toList.drop at'.toNat)).2), .val (.int .i64 0)]

theorem Decode_at (w0 : World) (B : List (List AV)) (Rw : List (Nat × Nat)) (L : List LoopA) (hT : Lib.Utf8Tabs 0 1 w0) (s : ByteArray) (at' : Int) (hat : at' ≤ 9223372036854775807) :
    ACalls Tryd.prog w0 17 [.val (.string s), .val (.int .i64 at')] ⟨B, Rw, L⟩ fun r st => r = decodeA s at' ∧ st = ⟨B, Rw, L⟩ := by
  refine ACalls.fin (acalls_of (rs := [.tmp 4, .tmp 5, .tmp 6]) Tryd.func17 rfl rfl Tryd.ntmps17 (enters_some Tryd.func17 rfl (by decide)) (Nat.le_of_ble_eq_true rfl) ?_)
  intro M0 W0 hN hNR hNL hcalm hu
  simp only [argsE]
  apply awp_seq; intro K1 hK1
  apply awp_region 1 [0, 1]
  rw [evK_succ]; simp +decide only [go_sem]
  (repeat' apply And.intro) <;> first | refine hK1 _ _ ?_ | (intros; omega) | (intros; simp_all; done)
  clear hK1
  apply awp_seq; intro K2 hK2
  apply awp_seq; intro K3 hK3
  apply awp_region 1 [0, 1, 16]
  rw [evK_succ]; simp +decide only [go_sem]
  (repeat' apply And.intro) <;> first | refine hK3 _ _ ?_ | (intros; omega) | (intros; simp_all; done)
  clear hK3
  refine awp_cond _ (by simp +decide only [go_sem]) (by simp +decide only [go_sem]; rfl) (fun hb => ?_) (fun hb => ?_)
  · simp at hb
    apply awp_seq; intro K4 hK4
    apply awp_region 1 [4, 5, 6]
    rw [evK_succ]; simp +decide only [go_sem]
    (repeat' apply And.intro) <;> first | refine hK4 _ _ ?_ | (intros; omega) | (intros; simp_all; done)
    clear hK4
    apply awp_ret; simp +decide only [go_sem]
    refine fin_same hcalm (by simp only [go_sem]) ⟨?_, rfl⟩
    rw [decodeA, if_pos (by omega)]
  simp at hb
  apply awp_skip; simp only [go_sem]
  (repeat' apply And.intro) <;> first | refine hK2 _ _ ?_ | (intros; omega) | (intros; simp_all; done)
  clear hK2
  apply awp_seq; intro K5 hK5
  apply awp_region 2 [7, 8]
  rw [evK_succ]; simp +decide only [go_sem]
  (repeat' apply And.intro) <;> first | refine callK_intro _ (decode_at w0 _ hT _) ?_ | (intros; omega) | (intros; simp_all; done)
  rw [decodeGo_drop s at'.toNat (by omega)]
  have hdr := Lib.decodeL_rune (s.data.toList.drop at'.toNat)
  have hdw := Lib.decodeL_width (s.data.toList.drop at'.toNat)
  obtain ⟨d, hd⟩ : ∃ d, Lib.decodeL (s.data.toList.drop at'.toNat) = d := ⟨_, rfl⟩
  rw [hd] at hdr hdw ⊢
  rw [evK_succ]; simp +decide only [go_sem]
  (repeat' apply And.intro) <;> first | refine hK5 _ _ ?_ | (intros; omega) | (intros; simp_all; done)
  clear hK5
  apply awp_seq; intro K6 hK6
  apply awp_seq; intro K7 hK7
  apply awp_region 1 [7, 8, 29]
  rw [evK_succ]; simp +decide only [go_sem]
  (repeat' apply And.intro) <;> first | refine hK7 _ _ ?_ | (intros; omega) | (intros; simp_all; done)
  clear hK7
  refine awp_cond _ (by simp +decide only [go_sem]) (by simp +decide only [go_sem]; rfl) (fun hb => ?_) (fun hb => ?_)
  · simp at hb
    apply awp_seq; intro K8 hK8
    apply awp_region 1 [4, 5, 6]
    rw [evK_succ]; simp +decide only [go_sem]
    (repeat' apply And.intro) <;> first | refine hK8 _ _ ?_ | (intros; omega) | (intros; simp_all; done)
    clear hK8
    apply awp_ret; simp +decide only [go_sem]
    refine fin_same hcalm (by simp only [go_sem]) ⟨?_, rfl⟩
    have hbad : bad (s.data.toList.drop at'.toNat) = true := by simp [bad, hd]; omega
    rw [decodeA, if_neg (by omega), if_pos hbad]
  simp at hb
  apply awp_skip; simp only [go_sem]
  (repeat' apply And.intro) <;> first | refine hK6 _ _ ?_ | (intros; omega) | (intros; simp_all; done)
  clear hK6
  apply awp_seq; intro K9 hK9
  apply awp_region 1 [4, 5, 6]
  rw [evK_succ]; simp +decide only [go_sem]
  (repeat' apply And.intro) <;> first | refine hK9 _ _ ?_ | (intros; omega) | (intros; simp_all; done)
  clear hK9
  apply awp_ret; simp +decide only [go_sem]
  refine fin_same hcalm (by simp only [go_sem]) ⟨?_, rfl⟩
  have hbad : ¬ bad (s.data.toList.drop at'.toNat) = true := by simp [bad, hd]; omega
  rw [decodeA, if_neg (by omega), if_neg hbad, hd]

end Go.Proofs.YthlhbbejcmbpoaaDoor
