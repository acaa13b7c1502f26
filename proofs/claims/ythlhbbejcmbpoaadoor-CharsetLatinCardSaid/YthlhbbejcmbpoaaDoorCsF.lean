/-
  The charset package, part six: the reference's Encode and Decode.
-/
import Derived.Test.YthlhbbejcmbpoaaDoorCsE
import Derived.Test.YthlhbbejcmbpoaaDoorCsG
namespace Go.Proofs.YthlhbbejcmbpoaaDoor
open Go Go.RowKit Go.Ev

/-- The encoding of a code point. -/
def encS (p : Int) : ByteArray := ⟨(Lib.encodeRune p).toArray⟩

set_option maxHeartbeats 1000000 in
theorem refEncode_at (w0 : World) (B : List (List AV)) (Rw : List (Nat × Nat)) (L : List LoopA) (p : Int) (hp : isPt p = true) :
    ACalls Tryd.prog w0 24 [.val (.int .i64 p)] ⟨B, Rw, L⟩ fun r st => r = .val (.string (encS p)) ∧ st = ⟨B, Rw, L⟩ := by
  refine ACalls.fin (acalls_of (rs := [.tmp 2]) Tryd.func24 rfl rfl Tryd.ntmps24 (enters_some Tryd.func24 rfl (by decide)) (Nat.le_of_ble_eq_true rfl) ?_)
  intro M0 W0 hN hNR hNL hcalm hu
  simp only [isPt, decide_eq_true_eq] at hp
  simp only [argsE]
  apply awp_seq; intro K1 hK1
  apply awp_region 1 [0]
  rw [evK_succ]; simp +decide only [go_sem]
  (repeat' apply And.intro) <;> first | refine hK1 _ _ ?_ | (intros; omega) | (intros; simp_all; done)
  clear hK1
  apply awp_seq; intro K2 hK2
  apply awp_block
  apply awp_seq; intro K3 hK3
  apply awp_region 1 [0, 3]
  rw [evK_succ]; simp +decide only [go_sem]
  (repeat' apply And.intro) <;> first | refine hK3 _ _ ?_ | (intros; omega) | (intros; simp_all; done)
  clear hK3
  refine awp_cond _ (by simp +decide only [go_sem]) (by simp +decide only [go_sem]; rfl) (fun hb => ?_) (fun hb => ?_)
  · simp at hb
    apply awp_seq; intro K4 hK4
    apply awp_region 1 [2]
    rw [evK_succ]; simp +decide only [go_sem]
    (repeat' apply And.intro) <;> first | refine hK4 _ _ ?_ | (intros; omega) | (intros; simp_all; done)
    clear hK4
    apply awp_ret; simp +decide only [go_sem]
    refine fin_same hcalm (by simp only [go_sem]) ⟨?_, rfl⟩
    rw [encS, Lib.encodeRune, Lib.encodeRuneZ_one (by omega) (by omega)]; rfl
  simp at hb
  apply awp_seq; intro K5 hK5
  apply awp_region 1 [0, 10]
  rw [evK_succ]; simp +decide only [go_sem]
  (repeat' apply And.intro) <;> first | refine hK5 _ _ ?_ | (intros; omega) | (intros; simp_all; done)
  clear hK5
  refine awp_cond _ (by simp +decide only [go_sem]) (by simp +decide only [go_sem]; rfl) (fun hb => ?_) (fun hb => ?_)
  · simp at hb
    apply awp_seq; intro K6 hK6
    apply awp_region 1 [2]
    rw [evK_succ]; simp +decide only [go_sem]
    (repeat' apply And.intro) <;> first | refine hK6 _ _ ?_ | (intros; omega) | (intros; simp_all; done)
    clear hK6
    apply awp_ret; simp +decide only [go_sem]
    refine fin_same hcalm (by simp only [go_sem]) ⟨?_, rfl⟩
    rw [encS, Lib.encodeRune, Lib.encodeRuneZ_two (by omega) (by omega)]; rfl
  simp at hb
  apply awp_seq; intro K7 hK7
  apply awp_region 1 [0, 23]
  rw [evK_succ]; simp +decide only [go_sem]
  (repeat' apply And.intro) <;> first | refine hK7 _ _ ?_ | (intros; omega) | (intros; simp_all; done)
  clear hK7
  refine awp_cond _ (by simp +decide only [go_sem]) (by simp +decide only [go_sem]; rfl) (fun hb => ?_) (fun hb => ?_)
  · simp at hb
    apply awp_seq; intro K8 hK8
    apply awp_region 1 [2]
    rw [evK_succ]; simp +decide only [go_sem]
    (repeat' apply And.intro) <;> first | refine hK8 _ _ ?_ | (intros; omega) | (intros; simp_all; done)
    clear hK8
    apply awp_ret; simp +decide only [go_sem]
    refine fin_same hcalm (by simp only [go_sem]) ⟨?_, rfl⟩
    rw [encS, Lib.encodeRune, Lib.encodeRuneZ_three (by omega)]; rfl
  simp at hb
  apply awp_skip; simp only [go_sem]
  (repeat' apply And.intro) <;> first | refine hK2 _ _ ?_ | (intros; omega) | (intros; simp_all; done)
  clear hK2
  apply awp_seq; intro K9 hK9
  apply awp_region 1 [2]
  rw [evK_succ]; simp +decide only [go_sem]
  (repeat' apply And.intro) <;> first | refine hK9 _ _ ?_ | (intros; omega) | (intros; simp_all; done)
  clear hK9
  apply awp_ret; simp +decide only [go_sem]
  refine fin_same hcalm (by simp only [go_sem]) ⟨?_, rfl⟩
  rw [encS, Lib.encodeRune, Lib.encodeRuneZ_four (by omega) (by omega)]; rfl

/-- What the reference's Decode answers. -/
def refDec (l : List UInt8) : Nat × Nat := if l = [] ∨ bad l = true then (0, 0) else Lib.decodeL l
def refDecA (s : ByteArray) : AV := .tup [.val (.int .i64 (refDec s.data.toList).1), .val (.int .i64 (refDec s.data.toList).2)]
theorem sEq_nil (s : ByteArray) : sEq s ⟨#[]⟩ = decide (s.data.toList = []) := by
  unfold sEq
  cases s.data.toList <;> rfl
theorem get_byteN (s : ByteArray) (i : Nat) (h : i < s.size) : ((s.get! i).toNat : Int) = byteN s.data.toList i := by
  have h' : i < s.data.size := h
  have e : s.get! i = s.data.toList.getD i 0 := by
    rw [Utf8W.get!_of_lt s i h, List.getD, Array.getElem?_toList, Array.getElem?_eq_getElem h']
    rfl
  rw [e]; rfl
theorem ext_take (s : ByteArray) (n : Nat) : (s.extract 0 n).data.toList = s.data.toList.take n := by
  simp [ByteArray.data_extract, Array.toList_extract, List.extract]
theorem sEq_enc (p : Int) (s : ByteArray) (n : Nat) : sEq (encS p) (s.extract 0 n) = decide (Lib.encodeRune p = s.data.toList.take n) := by
  unfold sEq encS
  rw [ext_take]
  cases h : (Lib.encodeRune p == s.data.toList.take n) with
  | true => exact (decide_eq_true (eq_of_beq h)).symm
  | false => exact (decide_eq_false (fun e => by rw [e] at h; simp at h)).symm
theorem accF_bound (l : List UInt8) (p0 : Int) (n : Nat) (h : leadB (byteN l 0) = (n, p0)) (k : Nat) (hk : k < n) (hc : ∀ i, 1 ≤ i → i ≤ k → contB (byteN l i)) : 0 ≤ accF l p0 k ∧ accF l p0 k ≤ 100000000 := by
  rcases leadB_cases (byteN l 0) with ⟨e, c⟩ | ⟨e, c⟩ | ⟨e, c⟩ | ⟨e, c⟩ | ⟨e, c⟩ <;> rw [h] at e <;> cases e
  · have : k = 0 := by omega
    subst this; simp only [accF]; omega
  all_goals
    have hk' : k = 0 ∨ k = 1 ∨ k = 2 ∨ k = 3 := by omega
    rcases hk' with rfl | rfl | rfl | rfl
    · simp only [accF]; omega
    · first
      | omega
      | (have q1 := hc 1 (by omega) (by omega)
         unfold contB at q1
         simp only [accF, Nat.reduceAdd]; omega)
    · first
      | omega
      | (have q1 := hc 1 (by omega) (by omega)
         have q2 := hc 2 (by omega) (by omega)
         unfold contB at q1 q2
         simp only [accF, Nat.reduceAdd]; omega)
    · first
      | omega
      | (have q1 := hc 1 (by omega) (by omega)
         have q2 := hc 2 (by omega) (by omega)
         have q3 := hc 3 (by omega) (by omega)
         unfold contB at q1 q2 q3
         simp only [accF, Nat.reduceAdd]; omega)

set_option maxHeartbeats 4000000 in
theorem refDecode_at (w0 : World) (B : List (List AV)) (Rw : List (Nat × Nat)) (L : List LoopA) (s : ByteArray) (hs : s.size ≤ maxLen) :
    ACalls Tryd.prog w0 18 [.val (.string s)] ⟨B, Rw, L⟩ fun r st => r = refDecA s ∧ st = ⟨B, Rw, L⟩ := by
  refine ACalls.fin (acalls_of (rs := [.tmp 2, .tmp 3]) Tryd.func18 rfl rfl Tryd.ntmps18 (enters_some Tryd.func18 rfl (by decide)) (Nat.le_of_ble_eq_true rfl) ?_)
  intro M0 W0 hN hNR hNL hcalm hu
  unfold maxLen at hs
  obtain ⟨n, p0, hlead⟩ : ∃ n p0, leadB (byteN s.data.toList 0) = (n, p0) := ⟨_, _, rfl⟩
  have hln : n ≤ 4 := by rcases leadB_cases (byteN s.data.toList 0) with ⟨e, c⟩ | ⟨e, c⟩ | ⟨e, c⟩ | ⟨e, c⟩ | ⟨e, c⟩ <;> rw [hlead] at e <;> cases e <;> omega
  simp only [argsE]
  apply awp_seq; intro K1 hK1
  apply awp_region 1 [0]
  rw [evK_succ]; simp +decide only [go_sem]
  (repeat' apply And.intro) <;> first | refine hK1 _ _ ?_ | (intros; omega) | (intros; simp_all; done)
  clear hK1
  apply awp_seq; intro K2 hK2
  apply awp_seq; intro K3 hK3
  apply awp_region 1 [0, 9]
  rw [evK_succ]; simp +decide only [go_sem]
  (repeat' apply And.intro) <;> first | refine hK3 _ _ ?_ | (intros; omega) | (intros; simp_all; done)
  clear hK3
  refine awp_cond _ (by simp +decide only [go_sem]) (by simp +decide only [go_sem]; rfl) (fun hb => ?_) (fun hb => ?_)
  · rw [sEq_nil] at hb
    simp at hb
    apply awp_seq; intro K4 hK4
    apply awp_region 1 [2, 3]
    rw [evK_succ]; simp +decide only [go_sem]
    (repeat' apply And.intro) <;> first | refine hK4 _ _ ?_ | (intros; omega) | (intros; simp_all; done)
    clear hK4
    apply awp_ret; simp +decide only [go_sem]
    refine fin_same hcalm (by simp only [go_sem]) ⟨?_, rfl⟩
    rw [refDecA, refDec, if_pos (.inl (by rw [hb]))]; rfl
  rw [sEq_nil] at hb
  simp at hb
  have hpos : 0 < s.size := by
    have := Array.size_pos_iff.2 hb
    exact this
  have hg0 := get_byteN s 0 hpos
  have hb0 := byteN_lt s.data.toList 0
  have hsz : s.data.toList.length = s.size := by simp
  have hne : s.data.toList ≠ [] := fun e => by rw [e] at hsz; simp at hsz; omega
  apply awp_skip; simp only [go_sem]
  (repeat' apply And.intro) <;> first | refine hK2 _ _ ?_ | (intros; omega) | (intros; simp_all; done)
  clear hK2
  apply awp_seq; intro K5 hK5
  apply awp_region 1 [0, 4, 5]
  rw [evK_succ]; simp +decide only [go_sem]
  (repeat' apply And.intro) <;> first | refine hK5 _ _ ?_ | (intros; omega) | (intros; simp_all; done)
  clear hK5
  apply awp_seq; intro K6 hK6
  apply awp_region 1 [0, 4, 5, 6]
  rw [evK_succ]; simp +decide only [go_sem]
  (repeat' apply And.intro) <;> first | refine hK6 _ _ ?_ | (intros; omega) | (intros; simp_all; done)
  clear hK6
  refine awp_mid (fun e st => subE [(0, true, .val (.string s)), (4, true, .val (.int .i64 n)), (5, true, .val (.int .i64 p0))] e ∧ st = ⟨B, Rw, L⟩) ?_ ?_
  · intro K7 hK7
    apply awp_block
    apply awp_seq; intro K8 hK8
    apply awp_region 1 [0, 4, 5, 6, 13]
    rw [evK_succ]; simp +decide only [go_sem]
    (repeat' apply And.intro) <;> first | refine hK8 _ _ ?_ | (intros; omega) | (intros; simp_all; done)
    clear hK8
    refine awp_cond _ (by simp +decide only [go_sem]) (by simp +decide only [go_sem]; rfl) (fun hb => ?_) (fun hb => ?_)
    -- JOIN
    · simp at hb
      apply awp_region 1 [0, 4, 5]
      rw [evK_succ]; simp +decide only [go_sem]
      (repeat' apply And.intro) <;> first | refine hK7 _ _ ?_ | (intros; omega) | (intros; simp_all; done)
      have h := hlead
      rw [leadB, if_pos (by omega)] at h
      cases h
      exact ⟨subE_cons (by simp [Ev.look]) (subE_cons (by simp [Ev.look]) (subE_cons (by simp [Ev.look, hg0]) (subE_nil _))), rfl⟩
    simp at hb
    apply awp_seq; intro K9 hK9
    apply awp_region 1 [0, 4, 5, 6, 17]
    rw [evK_succ]; simp +decide only [go_sem]
    (repeat' apply And.intro) <;> first | refine hK9 _ _ ?_ | (intros; omega) | (intros; simp_all; done)
    clear hK9
    refine awp_cond _ (by simp +decide only [go_sem]) (by simp +decide only [go_sem]; rfl) (fun hb => ?_) (fun hb => ?_)
    -- JOIN
    · simp at hb
      apply awp_region 1 [0, 4, 5]
      rw [evK_succ]; simp +decide only [go_sem]
      (repeat' apply And.intro) <;> first | refine hK7 _ _ ?_ | (intros; omega) | (intros; simp_all; done)
      have h := hlead
      rw [leadB, if_neg (by omega), if_pos (by omega)] at h
      cases h
      exact ⟨subE_cons (by simp [Ev.look]) (subE_cons (by simp [Ev.look]) (subE_cons (by simp [Ev.look, hg0]) (subE_nil _))), rfl⟩
    simp at hb
    apply awp_seq; intro K10 hK10
    apply awp_region 1 [0, 4, 5, 6, 26]
    rw [evK_succ]; simp +decide only [go_sem]
    (repeat' apply And.intro) <;> first | refine hK10 _ _ ?_ | (intros; omega) | (intros; simp_all; done)
    clear hK10
    refine awp_cond _ (by simp +decide only [go_sem]) (by simp +decide only [go_sem]; rfl) (fun hb => ?_) (fun hb => ?_)
    -- JOIN
    · simp at hb
      apply awp_region 1 [0, 4, 5]
      rw [evK_succ]; simp +decide only [go_sem]
      (repeat' apply And.intro) <;> first | refine hK7 _ _ ?_ | (intros; omega) | (intros; simp_all; done)
      have h := hlead
      rw [leadB, if_neg (by omega), if_neg (by omega), if_pos (by omega)] at h
      cases h
      exact ⟨subE_cons (by simp [Ev.look]) (subE_cons (by simp [Ev.look]) (subE_cons (by simp [Ev.look, hg0]) (subE_nil _))), rfl⟩
    simp at hb
    apply awp_seq; intro K11 hK11
    apply awp_region 1 [0, 4, 5, 6, 35]
    rw [evK_succ]; simp +decide only [go_sem]
    (repeat' apply And.intro) <;> first | refine hK11 _ _ ?_ | (intros; omega) | (intros; simp_all; done)
    clear hK11
    refine awp_cond _ (by simp +decide only [go_sem]) (by simp +decide only [go_sem]; rfl) (fun hb => ?_) (fun hb => ?_)
    -- JOIN
    · simp at hb
      apply awp_region 1 [0, 4, 5]
      rw [evK_succ]; simp +decide only [go_sem]
      (repeat' apply And.intro) <;> first | refine hK7 _ _ ?_ | (intros; omega) | (intros; simp_all; done)
      have h := hlead
      rw [leadB, if_neg (by omega), if_neg (by omega), if_neg (by omega), if_pos (by omega)] at h
      cases h
      exact ⟨subE_cons (by simp [Ev.look]) (subE_cons (by simp [Ev.look]) (subE_cons (by simp [Ev.look, hg0]) (subE_nil _))), rfl⟩
    simp at hb
    apply awp_skip; simp only [go_sem]
    (repeat' apply And.intro) <;> first | refine hK7 _ _ ?_ | (intros; omega) | (intros; simp_all; done)
    have h := hlead
    rw [leadB, if_neg (by omega), if_neg (by omega), if_neg (by omega), if_neg (by omega)] at h
    cases h
    exact ⟨subE_cons (by simp [Ev.look]) (subE_cons (by simp [Ev.look]) (subE_cons (by simp [Ev.look]) (subE_nil _))), rfl⟩
  · rintro e st ⟨hsub, rfl⟩
    refine awp_sub _ ?_ hsub
    apply awp_seq; intro K12 hK12
    apply awp_seq; intro K13 hK13
    apply awp_region 1 [0, 4, 5, 51]
    rw [evK_succ]; simp +decide only [go_sem]
    (repeat' apply And.intro) <;> first | refine hK13 _ _ ?_ | (intros; omega) | (intros; simp_all; done)
    clear hK13
    refine awp_cond _ (by simp +decide only [go_sem]) (by simp +decide only [go_sem]; rfl) (fun hb => ?_) (fun hb => ?_)
    · simp at hb
      apply awp_seq; intro K14 hK14
      apply awp_region 1 [2, 3]
      rw [evK_succ]; simp +decide only [go_sem]
      (repeat' apply And.intro) <;> first | refine hK14 _ _ ?_ | (intros; omega) | (intros; simp_all; done)
      clear hK14
      apply awp_ret; simp +decide only [go_sem]
      refine fin_same hcalm (by simp only [go_sem]) ⟨?_, rfl⟩
      have hbad := ref_bad (l := s.data.toList) (by rw [hlead, hsz]; rcases hb with h | h; exact .inl h; exact .inr (.inl h)) hne
      rw [refDecA, refDec, if_pos (.inr hbad)]; rfl
    simp at hb
    obtain ⟨hn0, hnl⟩ := hb
    apply awp_skip; simp only [go_sem]
    (repeat' apply And.intro) <;> first | refine hK12 _ _ ?_ | (intros; omega) | (intros; simp_all; done)
    clear hK12
    apply awp_seq; intro K15 hK15
    apply awp_seq; intro K16 hK16
    apply awp_region 1 [0, 4, 5, 7]
    rw [evK_succ]; simp +decide only [go_sem]
    (repeat' apply And.intro) <;> first | refine hK16 _ _ ?_ | (intros; omega) | (intros; simp_all; done)
    clear hK16
    apply awp_block
    refine awp_loop (fun m e st => ∃ i : Nat, 1 ≤ i ∧ i ≤ n ∧ m = n - i ∧ (∀ j, 1 ≤ j → j < i → contB (byteN s.data.toList j)) ∧ e = [(0, true, .val (.string s)), (4, true, .val (.int .i64 n)), (5, true, .val (.int .i64 (accF s.data.toList p0 (i - 1)))), (7, true, .val (.int .i64 i))] ∧ st = ⟨B, Rw, L⟩) (n - 1) ⟨1, by omega, by omega, rfl, by omega, rfl, rfl⟩ ?_
    rintro m e st ⟨i, hi1, hi2, rfl, hcont, rfl, rfl⟩ KR hKR
    have hbd := accF_bound s.data.toList p0 n hlead (i - 1) (by omega) (fun j h1 h2 => hcont j h1 (by omega))
    apply awp_seq; intro K17 hK17
    apply awp_seq; intro K18 hK18
    apply awp_region 1 [0, 4, 5, 7, 54]
    rw [evK_succ]; simp +decide only [go_sem]
    (repeat' apply And.intro) <;> first | refine hK18 _ _ ?_ | (intros; omega) | (intros; simp_all; done)
    clear hK18
    refine awp_cond _ (by simp +decide only [go_sem]) (by simp +decide only [go_sem]; rfl) (fun hb => ?_) (fun hb => ?_)
    rotate_left
    · simp at hb
      apply awp_exit; simp +decide only [go_sem]
      (repeat' apply And.intro) <;> first | refine hK15 _ _ ?_ | (intros; omega) | (intros; simp_all; done)
      clear hK15
      apply awp_seq; intro K19 hK19
      apply awp_seq; intro K20 hK20
      apply awp_draw mix 11 3 1 [4, 5, 85] (by kernel_rfl)
      rw [evK_succ]; simp +decide only [go_sem]
      (repeat' apply And.intro) <;> first | refine callK_intro _ (IsPoint_at w0 B Rw L _) ?_ | (intros; omega) | (intros; simp_all; done)
      rw [evK_succ]; simp +decide only [go_sem]
      (repeat' apply And.intro) <;> first | refine callK_intro_if _ (fun hc => refEncode_at w0 B Rw L _ hc) ?_ | (intros; omega) | (intros; simp_all; done)
      rw [evK_succ]; simp +decide only [go_sem]
      (repeat' apply And.intro) <;> first | (rw [evK_succ]; simp +decide only [go_sem]) | (intros; omega) | (intros; simp_all; done)
      (repeat' apply And.intro) <;> first | refine hK20 _ _ ?_ | (intros; omega) | (intros; simp_all; done)
      clear hK20
      refine awp_cond _ (by simp +decide only [go_sem]) (by simp +decide only [go_sem]; rfl) (fun hb => ?_) (fun hb => ?_)
      · simp at hb
        apply awp_seq; intro K21 hK21
        apply awp_region 1 [2, 3]
        rw [evK_succ]; simp +decide only [go_sem]
        (repeat' apply And.intro) <;> first | refine hK21 _ _ ?_ | (intros; omega) | (intros; simp_all; done)
        clear hK21
        apply awp_ret; simp +decide only [go_sem]
        refine fin_same hcalm (by simp only [go_sem]) ⟨?_, rfl⟩
        have hin : i = n := by omega
        subst hin
        rw [sEq_enc] at hb
        have hrg := ref_good hlead hi1 (by omega) (fun j h1 h2 => hcont j h1 h2) rfl
        have hbad := hrg.2 (fun h => by rcases hb with hb | hb; rw [h.1] at hb; cases hb; rw [decide_eq_true h.2] at hb; cases hb)
        rw [refDecA, refDec, if_pos (.inr hbad)]; rfl
      simp at hb
      apply awp_skip; simp only [go_sem]
      (repeat' apply And.intro) <;> first | refine hK19 _ _ ?_ | (intros; omega) | (intros; simp_all; done)
      clear hK19
      apply awp_seq; intro K22 hK22
      apply awp_region 1 [2, 3]
      rw [evK_succ]; simp +decide only [go_sem]
      (repeat' apply And.intro) <;> first | refine hK22 _ _ ?_ | (intros; omega) | (intros; simp_all; done)
      clear hK22
      apply awp_ret; simp +decide only [go_sem]
      refine fin_same hcalm (by simp only [go_sem]) ⟨?_, rfl⟩
      have hin : i = n := by omega
      subst hin
      rw [sEq_enc] at hb
      have hrg := ref_good hlead hi1 (by omega) (fun j h1 h2 => hcont j h1 h2) rfl
      obtain ⟨g1, g2, g3⟩ := hrg.1 ⟨hb.1, of_decide_eq_true hb.2⟩
      rw [refDecA, refDec, if_neg (by simp [hne, g1]), g2, g3]
    simp at hb
    have hlt : i < n := hb
    apply awp_skip; simp only [go_sem]
    (repeat' apply And.intro) <;> first | refine hK17 _ _ ?_ | (intros; omega) | (intros; simp_all; done)
    clear hK17
    apply awp_seq; intro K23 hK23
    apply awp_block
    apply awp_seq; intro K24 hK24
    apply awp_seq; intro K25 hK25
    apply awp_region 1 [0, 4, 5, 7, 66]
    rw [evK_succ]; simp +decide only [go_sem]
    (repeat' apply And.intro) <;> first | refine hK25 _ _ ?_ | (intros; omega) | (intros; simp_all; done)
    clear hK25
    refine awp_cond _ (by simp +decide only [go_sem]) (by simp +decide only [go_sem]; rfl) (fun hb => ?_) (fun hb => ?_)
    · simp at hb
      apply awp_seq; intro K26 hK26
      apply awp_region 1 [2, 3]
      rw [evK_succ]; simp +decide only [go_sem]
      (repeat' apply And.intro) <;> first | refine hK26 _ _ ?_ | (intros; omega) | (intros; simp_all; done)
      clear hK26
      apply awp_ret; simp +decide only [go_sem]
      refine fin_same hcalm (by simp only [go_sem]) ⟨?_, rfl⟩
      have hbad := ref_bad (l := s.data.toList) (by rw [hlead]; exact .inr (.inr ⟨i, hi1, hlt, by have := get_byteN s i (by omega); unfold contB; omega⟩)) hne
      rw [refDecA, refDec, if_pos (.inr hbad)]; rfl
    simp at hb
    apply awp_skip; simp only [go_sem]
    (repeat' apply And.intro) <;> first | refine hK24 _ _ ?_ | (intros; omega) | (intros; simp_all; done)
    clear hK24
    apply awp_region 1 [0, 4, 5, 7]
    rw [evK_succ]; simp +decide only [go_sem]
    (repeat' apply And.intro) <;> first | refine hK23 _ _ ?_ | (intros; omega) | (intros; simp_all; done)
    clear hK23
    apply awp_region 1 [0, 4, 5, 7]
    rw [evK_succ]; simp +decide only [go_sem]
    have hgi := get_byteN s i (by omega)
    (repeat' apply And.intro) <;> first | refine hKR (n - (i + 1)) _ _ ?_ ⟨i + 1, ?_, ?_, rfl, ?_, ?_, rfl⟩ | (intros; omega) | (intros; simp_all; done)
    · omega
    · omega
    · omega
    · intro j h1 h2
      by_cases c : j = i
      · subst c; unfold contB; omega
      · exact hcont j h1 (by omega)
    · obtain ⟨k, rfl⟩ : ∃ k, i = k + 1 := ⟨i - 1, by omega⟩
      simp [accF, hgi]

end Go.Proofs.YthlhbbejcmbpoaaDoor
