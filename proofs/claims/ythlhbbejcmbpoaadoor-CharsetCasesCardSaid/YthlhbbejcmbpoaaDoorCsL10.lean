/-
  The statement CharsetCases, walked over abstract states: it answers true.
-/
import Derived.Test.YthlhbbejcmbpoaaDoorCsL70
namespace Go.Proofs.YthlhbbejcmbpoaaDoor
open Go Go.RowKit Go.Ev
set_option linter.unusedSimpArgs false
theorem list_get (s : ByteArray) (l : List UInt8) (h : s.data.toList = l) (k : Nat) (hk : k < l.length) : s.get! k = l[k] := by
  subst h
  have hk' : k < s.size := by simpa using hk
  rw [Utf8W.get!_of_lt s k hk']; rfl
theorem map_get (s : ByteArray) (f : UInt8 → UInt8) (k : Nat) (hk : k < s.size) : ((⟨(s.data.toList.map f).toArray⟩ : ByteArray).get! k) = f (s.get! k) := by
  rw [list_get _ (s.data.toList.map f) rfl k (by simpa using hk), list_get s s.data.toList rfl k (by simpa using hk), List.getElem_map]
theorem map_size (s : ByteArray) (f : UInt8 → UInt8) : (⟨(s.data.toList.map f).toArray⟩ : ByteArray).size = s.size := by
  show ((s.data.toList.map f).toArray).size = _
  rw [List.size_toArray, List.length_map]; simp
theorem lower_byte (c : UInt8) : (65 ≤ (c.toNat : Int) ∧ (c.toNat : Int) ≤ 90 ∧ ((shiftB 65 32 c).toNat : Int) = c.toNat + 32) ∨ (¬ (65 ≤ (c.toNat : Int) ∧ (c.toNat : Int) ≤ 90) ∧ ((shiftB 65 32 c).toNat : Int) = c.toNat) := by
  by_cases q : 65 ≤ (c.toNat : Int) ∧ (c.toNat : Int) ≤ 90
  · exact .inl ⟨q.1, q.2, shiftB_yes (by omega) (by omega) q.1 (by omega)⟩
  · exact .inr ⟨q, by rw [shiftB_no (by omega)]⟩
theorem upper_byte (c : UInt8) : (97 ≤ (c.toNat : Int) ∧ (c.toNat : Int) ≤ 122 ∧ ((shiftB 97 (-32) c).toNat : Int) = c.toNat - 32) ∨ (¬ (97 ≤ (c.toNat : Int) ∧ (c.toNat : Int) ≤ 122) ∧ ((shiftB 97 (-32) c).toNat : Int) = c.toNat) := by
  by_cases q : 97 ≤ (c.toNat : Int) ∧ (c.toNat : Int) ≤ 122
  · exact .inl ⟨q.1, q.2, by rw [shiftB_yes (by omega) (by omega) q.1 (by omega)]; omega⟩
  · exact .inr ⟨q, by rw [shiftB_no (by omega)]⟩

set_option maxRecDepth 100000 in
set_option maxHeartbeats 4000000 in
theorem Cases_law (w0 : World) (B : List (List AV)) (Rw : List (Nat × Nat)) (L : List LoopA) (hT : Lib.Utf8Tabs 0 1 w0) (s : ByteArray) (hs : s.size ≤ maxLen) :
    ACalls Tryd.prog w0 10 [.val (.string s)] ⟨B, Rw, L⟩ fun r st => r = .val (.bool true) ∧ st = ⟨B, Rw, L⟩ := by
  refine ACalls.fin (acalls_of (rs := [.tmp 2]) Tryd.func10 rfl rfl Tryd.ntmps10 (enters_some Tryd.func10 rfl (by decide)) (Nat.le_of_ble_eq_true rfl) ?_)
  intro M0 W0 hN hNR hNL hcalm hu
  have hcs := cut_size s
  obtain ⟨c, hc⟩ : ∃ c, s.extract 0 (min s.size 300) = c := ⟨_, rfl⟩
  rw [hc] at hcs
  have hcm : c.size ≤ maxLen := by unfold maxLen; omega
  have hcM : c.size ≤ 1048576 := by omega
  have hcz : c.data.toList.length = c.size := by simp
  obtain ⟨lo, hlo⟩ : ∃ x : ByteArray, (⟨(c.data.toList.map (shiftB 65 32)).toArray⟩ : ByteArray) = x := ⟨_, rfl⟩
  obtain ⟨up, hup⟩ : ∃ x : ByteArray, (⟨(c.data.toList.map (shiftB 97 (-32))).toArray⟩ : ByteArray) = x := ⟨_, rfl⟩
  have hlz : lo.size = c.size := by rw [← hlo, map_size]
  have huz : up.size = c.size := by rw [← hup, map_size]
  have hl1 : firstOf lo.data.toList = firstOf c.data.toList := by rw [← hlo]; exact first_map keeps_lower _
  have hu1 : firstOf up.data.toList = firstOf c.data.toList := by rw [← hup]; exact first_map keeps_upper _
  have hlm : lo.size ≤ maxLen := by rw [hlz]; exact hcm
  have hum : up.size ≤ maxLen := by rw [huz]; exact hcm
  obtain ⟨Fc, hF⟩ : ∃ F, firstOf c.data.toList = F := ⟨_, rfl⟩
  rw [hF] at hl1 hu1
  simp only [argsE]
  apply awp_seq; intro K1 hK1
  apply awp_region 1 [0]
  rw [evK_succ]; simp +decide only [go_sem, hlz, huz]
  (repeat' apply And.intro) <;> first | refine hK1 _ _ ?_ | (intros; omega) | (intros; simp_all; done)
  clear hK1
  apply awp_seq; intro K2 hK2
  apply awp_region 2 [0]
  rw [evK_succ]; simp +decide only [go_sem, hlz, huz]
  (repeat' apply And.intro) <;> first | refine callK_intro _ (cut_at w0 B Rw L s hs) ?_ | (intros; omega) | (intros; simp_all; done)
  rw [hc]
  rw [evK_succ]; simp +decide only [go_sem, hlz, huz]
  (repeat' apply And.intro) <;> first | refine hK2 _ _ ?_ | (intros; omega) | (intros; simp_all; done)
  clear hK2
  apply awp_seq; intro K3 hK3
  apply awp_region 3 [0, 3, 4]
  rw [evK_succ]; simp +decide only [go_sem, hlz, huz]
  (repeat' apply And.intro) <;> first | refine callK_intro _ (Lower_at w0 B Rw L c hcm) ?_ | (intros; omega) | (intros; simp_all; done)
  rw [hlo]
  rw [evK_succ]; simp +decide only [go_sem, hlz, huz]
  (repeat' apply And.intro) <;> first | refine callK_intro _ (Upper_at w0 B Rw L c hcm) ?_ | (intros; omega) | (intros; simp_all; done)
  rw [hup]
  rw [evK_succ]; simp +decide only [go_sem, hlz, huz]
  (repeat' apply And.intro) <;> first | refine hK3 _ _ ?_ | (intros; omega) | (intros; simp_all; done)
  clear hK3
  apply awp_seq; intro K4 hK4
  apply awp_seq; intro K5 hK5
  apply awp_region 2 [0, 3, 4, 29]
  rw [evK_succ]; simp +decide only [go_sem, hlz, huz]
  (repeat' apply And.intro) <;> first | refine callK_intro _ (known_at w0 B Rw L hT) ?_ | (intros; omega) | (intros; simp_all; done)
  rw [evK_succ]; simp +decide only [go_sem, hlz, huz]
  (repeat' apply And.intro) <;> first | refine hK5 _ _ ?_ | (intros; omega) | (intros; simp_all; done)
  clear hK5
  refine awp_cond _ (by simp +decide only [go_sem]) (by simp +decide only [go_sem]; rfl) (fun hb => ?_) (fun hb => ?_)
  · exfalso
    simp at hb
  try simp at hb
  apply awp_skip; simp only [go_sem]
  (repeat' apply And.intro) <;> first | refine hK4 _ _ ?_ | (intros; omega) | (intros; simp_all; done)
  clear hK4
  apply awp_seq; intro K7 hK7
  apply awp_seq; intro K8 hK8
  apply awp_region 1 [0, 3, 4, 5]
  rw [evK_succ]; simp +decide only [go_sem, hlz, huz]
  (repeat' apply And.intro) <;> first | refine hK8 _ _ ?_ | (intros; omega) | (intros; simp_all; done)
  clear hK8
  apply awp_block
  refine awp_loop (fun m e st => ∃ k : Nat, k ≤ c.size ∧ m = c.size - k ∧ e = [(0, true, .val (.string c)), (3, true, .val (.string lo)), (4, true, .val (.string up)), (5, true, .val (.int .i64 k))] ∧ st = ⟨B, Rw, L⟩) c.size ⟨0, by omega, rfl, rfl, rfl⟩ ?_
  rintro m e st ⟨k, hk, rfl, rfl, rfl⟩ KR hKR
  obtain ⟨x, h1⟩ : ∃ x, (c.get! k).toNat = x := ⟨_, rfl⟩
  obtain ⟨y, h2⟩ : ∃ x, (lo.get! k).toNat = x := ⟨_, rfl⟩
  obtain ⟨z, h3⟩ : ∃ x, (up.get! k).toNat = x := ⟨_, rfl⟩
  apply awp_seq; intro K9 hK9
  apply awp_seq; intro K10 hK10
  apply awp_region 1 [0, 3, 4, 5, 33]
  rw [evK_succ]; simp +decide only [go_sem, h1, h2, h3, hlz, huz]
  (repeat' apply And.intro) <;> first | refine hK10 _ _ ?_ | (intros; omega) | (intros; simp_all; done)
  clear hK10
  refine awp_cond _ (by simp +decide only [go_sem]) (by simp +decide only [go_sem]; rfl) (fun hb => ?_) (fun hb => ?_)
  rotate_left
  · try simp at hb
    apply awp_exit; simp +decide only [go_sem, h1, h2, h3, hlz, huz]
    (repeat' apply And.intro) <;> first | refine hK7 _ _ ?_ | (intros; omega) | (intros; simp_all; done)
    clear hK7
    apply awp_seq; intro K11 hK11
    apply awp_region 5 [2]
    rw [evK_succ]; simp +decide only [go_sem, h1, h2, h3, hlz, huz]
    (repeat' apply And.intro) <;> first | refine callK_intro _ (First_at w0 B Rw L hT lo hlm) ?_ | (intros; omega) | (intros; simp_all; done)
    rw [hl1]
    rw [evK_succ]; simp +decide only [go_sem, h1, h2, h3, hlz, huz]
    (repeat' apply And.intro) <;> first | refine callK_intro _ (First_at w0 B Rw L hT c hcm) ?_ | (intros; omega) | (intros; simp_all; done)
    rw [hF]
    rw [evK_succ]; simp +decide only [go_sem, h1, h2, h3, hlz, huz]
    (repeat' apply And.intro) <;> first | refine callK_intro_if _ (fun _ => First_at w0 B Rw L hT up hum) ?_ | (intros; omega) | (intros; simp_all; done)
    rw [hu1]
    rw [evK_succ]; simp +decide only [go_sem, h1, h2, h3, hlz, huz]
    (repeat' apply And.intro) <;> first | refine callK_intro_if _ (fun _ => First_at w0 B Rw L hT c hcm) ?_ | (intros; omega) | (intros; simp_all; done)
    rw [hF]
    rw [evK_succ]; simp +decide only [go_sem, h1, h2, h3, hlz, huz]
    (repeat' apply And.intro) <;> first | refine hK11 _ _ ?_ | (intros; omega) | (intros; simp_all; done)
    clear hK11
    apply awp_ret; simp +decide only [go_sem]
    refine fin_same hcalm (by simp only [go_sem]) ⟨?_, rfl⟩
    simp
  try simp at hb
  have hx := lower_byte (c.get! k)
  have hy := upper_byte (c.get! k)
  rw [← map_get c (shiftB 65 32) k (by omega), hlo, h1, h2] at hx
  rw [← map_get c (shiftB 97 (-32)) k (by omega), hup, h1, h3] at hy
  have hx256 := (c.get! k).toNat_lt
  rw [h1] at hx256
  apply awp_skip; simp only [go_sem]
  (repeat' apply And.intro) <;> first | refine hK9 _ _ ?_ | (intros; omega) | (intros; simp_all; done)
  clear hK9
  apply awp_seq; intro K12 hK12
  apply awp_block
  apply awp_seq; intro K13 hK13
  apply awp_draw mix 8 1 1 [0, 3, 4, 5, 6, 7] (by kernel_rfl)
  rw [evK_succ]; simp +decide only [go_sem, h1, h2, h3, hlz, huz]
  (repeat' with_reducible apply And.intro) <;> first | (rw [evK_succ]; simp +decide only [go_sem, h1, h2, h3, hlz, huz]) | (intros; omega) | (intros; simp_all; done)
  (repeat' apply And.intro) <;> first | refine hK13 _ _ ?_ | (intros; omega) | (intros; simp_all; done)
  clear hK13
  apply awp_seq; intro K14 hK14
  apply awp_seq; intro K15 hK15
  apply awp_region 1 [0, 3, 4, 5, 6, 7, 51]
  rw [evK_succ]; simp +decide only [go_sem, h1, h2, h3, hlz, huz]
  (repeat' apply And.intro) <;> first | refine hK15 _ _ ?_ | (intros; omega) | (intros; simp_all; done)
  clear hK15
  refine awp_cond _ (by simp +decide only [go_sem]) (by simp +decide only [go_sem]; rfl) (fun hb => ?_) (fun hb => ?_)
  -- JOIN
  · try simp at hb
    apply awp_region 1 [0, 3, 4, 5, 6, 7]
    rw [evK_succ]; simp +decide only [go_sem, h1, h2, h3, hlz, huz]
    (repeat' apply And.intro) <;> first | refine hK14 _ _ ?_ | (intros; omega) | (intros; simp_all; done)
    clear hK14
    apply awp_seq; intro K16 hK16
    apply awp_seq; intro K17 hK17
    apply awp_region 1 [0, 3, 4, 5, 6, 7, 65]
    rw [evK_succ]; simp +decide only [go_sem, h1, h2, h3, hlz, huz]
    (repeat' apply And.intro) <;> first | refine hK17 _ _ ?_ | (intros; omega) | (intros; simp_all; done)
    clear hK17
    refine awp_cond _ (by simp +decide only [go_sem]) (by simp +decide only [go_sem]; rfl) (fun hb => ?_) (fun hb => ?_)
    -- JOIN
    · try simp at hb
      apply awp_region 1 [0, 3, 4, 5, 6, 7]
      rw [evK_succ]; simp +decide only [go_sem, h1, h2, h3, hlz, huz]
      (repeat' apply And.intro) <;> first | refine hK16 _ _ ?_ | (intros; omega) | (intros; simp_all; done)
      clear hK16
      apply awp_seq; intro K18 hK18
      apply awp_region 1 [0, 3, 4, 5, 81]
      rw [evK_succ]; simp +decide only [go_sem, h1, h2, h3, hlz, huz]
      (repeat' apply And.intro) <;> first | refine hK18 _ _ ?_ | (intros; omega) | (intros; simp_all; done)
      clear hK18
      refine awp_cond _ (by simp +decide only [go_sem]) (by simp +decide only [go_sem]; rfl) (fun hb => ?_) (fun hb => ?_)
      · exfalso
        simp at hb
        omega
      clear hb
      apply awp_skip; simp only [go_sem]
      (repeat' apply And.intro) <;> first | refine hK12 _ _ ?_ | (intros; omega) | (intros; simp_all; done)
      clear hK12
      apply awp_region 1 [0, 3, 4, 5]
      rw [evK_succ]; simp +decide only [go_sem, h1, h2, h3, hlz, huz]
      (repeat' apply And.intro) <;> first | refine hKR (c.size - (k + 1)) _ _ ?_ ⟨k + 1, ?_, rfl, ?_, rfl⟩ | (intros; omega) | (intros; simp_all; done)
      · omega
      · omega
      · simp
    try simp at hb
    apply awp_skip; simp only [go_sem]
    (repeat' apply And.intro) <;> first | refine hK16 _ _ ?_ | (intros; omega) | (intros; simp_all; done)
    clear hK16
    apply awp_seq; intro K20 hK20
    apply awp_region 1 [0, 3, 4, 5, 81]
    rw [evK_succ]; simp +decide only [go_sem, h1, h2, h3, hlz, huz]
    (repeat' apply And.intro) <;> first | refine hK20 _ _ ?_ | (intros; omega) | (intros; simp_all; done)
    clear hK20
    refine awp_cond _ (by simp +decide only [go_sem]) (by simp +decide only [go_sem]; rfl) (fun hb => ?_) (fun hb => ?_)
    · exfalso
      simp at hb
      omega
    clear hb
    apply awp_skip; simp only [go_sem]
    (repeat' apply And.intro) <;> first | refine hK12 _ _ ?_ | (intros; omega) | (intros; simp_all; done)
    clear hK12
    apply awp_region 1 [0, 3, 4, 5]
    rw [evK_succ]; simp +decide only [go_sem, h1, h2, h3, hlz, huz]
    (repeat' apply And.intro) <;> first | refine hKR (c.size - (k + 1)) _ _ ?_ ⟨k + 1, ?_, rfl, ?_, rfl⟩ | (intros; omega) | (intros; simp_all; done)
    · omega
    · omega
    · simp
  try simp at hb
  apply awp_skip; simp only [go_sem]
  (repeat' apply And.intro) <;> first | refine hK14 _ _ ?_ | (intros; omega) | (intros; simp_all; done)
  clear hK14
  apply awp_seq; intro K22 hK22
  apply awp_seq; intro K23 hK23
  apply awp_region 1 [0, 3, 4, 5, 6, 7, 65]
  rw [evK_succ]; simp +decide only [go_sem, h1, h2, h3, hlz, huz]
  (repeat' apply And.intro) <;> first | refine hK23 _ _ ?_ | (intros; omega) | (intros; simp_all; done)
  clear hK23
  refine awp_cond _ (by simp +decide only [go_sem]) (by simp +decide only [go_sem]; rfl) (fun hb => ?_) (fun hb => ?_)
  -- JOIN
  · try simp at hb
    apply awp_region 1 [0, 3, 4, 5, 6, 7]
    rw [evK_succ]; simp +decide only [go_sem, h1, h2, h3, hlz, huz]
    (repeat' apply And.intro) <;> first | refine hK22 _ _ ?_ | (intros; omega) | (intros; simp_all; done)
    clear hK22
    apply awp_seq; intro K24 hK24
    apply awp_region 1 [0, 3, 4, 5, 81]
    rw [evK_succ]; simp +decide only [go_sem, h1, h2, h3, hlz, huz]
    (repeat' apply And.intro) <;> first | refine hK24 _ _ ?_ | (intros; omega) | (intros; simp_all; done)
    clear hK24
    refine awp_cond _ (by simp +decide only [go_sem]) (by simp +decide only [go_sem]; rfl) (fun hb => ?_) (fun hb => ?_)
    · exfalso
      simp at hb
      omega
    clear hb
    apply awp_skip; simp only [go_sem]
    (repeat' apply And.intro) <;> first | refine hK12 _ _ ?_ | (intros; omega) | (intros; simp_all; done)
    clear hK12
    apply awp_region 1 [0, 3, 4, 5]
    rw [evK_succ]; simp +decide only [go_sem, h1, h2, h3, hlz, huz]
    (repeat' apply And.intro) <;> first | refine hKR (c.size - (k + 1)) _ _ ?_ ⟨k + 1, ?_, rfl, ?_, rfl⟩ | (intros; omega) | (intros; simp_all; done)
    · omega
    · omega
    · simp
  try simp at hb
  apply awp_skip; simp only [go_sem]
  (repeat' apply And.intro) <;> first | refine hK22 _ _ ?_ | (intros; omega) | (intros; simp_all; done)
  clear hK22
  apply awp_seq; intro K26 hK26
  apply awp_region 1 [0, 3, 4, 5, 81]
  rw [evK_succ]; simp +decide only [go_sem, h1, h2, h3, hlz, huz]
  (repeat' apply And.intro) <;> first | refine hK26 _ _ ?_ | (intros; omega) | (intros; simp_all; done)
  clear hK26
  refine awp_cond _ (by simp +decide only [go_sem]) (by simp +decide only [go_sem]; rfl) (fun hb => ?_) (fun hb => ?_)
  · exfalso
    simp at hb
    omega
  clear hb
  apply awp_skip; simp only [go_sem]
  (repeat' apply And.intro) <;> first | refine hK12 _ _ ?_ | (intros; omega) | (intros; simp_all; done)
  clear hK12
  apply awp_region 1 [0, 3, 4, 5]
  rw [evK_succ]; simp +decide only [go_sem, h1, h2, h3, hlz, huz]
  (repeat' apply And.intro) <;> first | refine hKR (c.size - (k + 1)) _ _ ?_ ⟨k + 1, ?_, rfl, ?_, rfl⟩ | (intros; omega) | (intros; simp_all; done)
  · omega
  · omega
  · simp
end Go.Proofs.YthlhbbejcmbpoaaDoor
