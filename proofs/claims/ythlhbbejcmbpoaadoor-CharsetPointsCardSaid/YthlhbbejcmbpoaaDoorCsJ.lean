/-
  First and Count; the statement CharsetValid, walked over abstract states: it answers true.
-/
import Derived.Test.YthlhbbejcmbpoaaDoorCsI
namespace Go.Proofs.YthlhbbejcmbpoaaDoor
open Go Go.RowKit Go.Ev
theorem fin_box {B b : List (List AV)} {Rw : List (Nat × Nat)} {L l : List LoopA} {Post : AV → St → Prop} {v : AV} (hc : Ev.Calm B.length Rw.length L.length ⟨B, Rw, L⟩) (hu : Under B.length Rw.length L.length v) (hp : Post v ⟨B, Rw, L⟩) :
    finA ⟨B, Rw, L⟩ Post v ⟨B ++ b, Rw, L ++ l⟩ := by
  have := fin_own (b := b) (r := []) (l := l) hc hu hp
  rwa [List.append_nil] at this
theorem tot_take_succ (rs : List (Nat × Nat)) (i p n : Nat) (h : rs[i]? = some (p, n)) : tot (rs.take (i + 1)) = tot (rs.take i) + n := by
  rw [List.take_add_one, h, tot_append]; simp [tot]
theorem tot_take_le (rs : List (Nat × Nat)) (i : Nat) : tot (rs.take i) ≤ tot rs := by
  have : tot (rs.take i ++ rs.drop i) = tot rs := by rw [List.take_append_drop]
  rw [tot_append] at this; omega

set_option maxHeartbeats 4000000 in
theorem First_at (w0 : World) (B : List (List AV)) (Rw : List (Nat × Nat)) (L : List LoopA) (hT : Lib.Utf8Tabs 0 1 w0) (s : ByteArray) (hsm : s.size ≤ maxLen) :
    ACalls Tryd.prog w0 29 [.val (.string s)] ⟨B, Rw, L⟩ fun r st => r = .val (.int .i64 (firstOf s.data.toList)) ∧ st = ⟨B, Rw, L⟩ := by
  refine ACalls.fin (acalls_of (rs := [.tmp 2]) Tryd.func29 rfl rfl Tryd.ntmps29 (enters_some Tryd.func29 rfl (by decide)) (Nat.le_of_ble_eq_true rfl) ?_)
  intro M0 W0 hN hNR hNL hcalm hu
  have hsm' := hsm
  unfold maxLen at hsm'
  simp only [argsE]
  apply awp_seq; intro K1 hK1
  apply awp_region 1 [0]
  rw [evK_succ]; simp +decide only [go_sem]
  (repeat' apply And.intro) <;> first | refine hK1 _ _ ?_ | (intros; omega) | (intros; simp_all; done)
  clear hK1
  apply awp_seq; intro K2 hK2
  apply awp_seq; intro K3 hK3
  apply awp_region 2 [0, 7]
  rw [evK_succ]; simp +decide only [go_sem]
  (repeat' apply And.intro) <;> first | refine callK_intro _ (Valid_at w0 B Rw L hT s hsm) ?_ | (intros; omega) | (intros; simp_all; done)
  rw [evK_succ]; simp +decide only [go_sem]
  (repeat' apply And.intro) <;> first | refine hK3 _ _ ?_ | (intros; omega) | (intros; simp_all; done)
  clear hK3
  refine awp_cond _ (by simp +decide only [go_sem]) (by simp +decide only [go_sem]; rfl) (fun hb => ?_) (fun hb => ?_)
  · try simp at hb
    apply awp_seq; intro K4 hK4
    apply awp_region 1 [2]
    rw [evK_succ]; simp +decide only [go_sem]
    (repeat' apply And.intro) <;> first | refine hK4 _ _ ?_ | (intros; omega) | (intros; simp_all; done)
    clear hK4
    apply awp_ret; simp +decide only [go_sem]
    refine fin_same hcalm (by simp only [go_sem]) ⟨?_, rfl⟩
    rw [firstOf, if_pos hb]
  try simp at hb
  apply awp_skip; simp only [go_sem]
  (repeat' apply And.intro) <;> first | refine hK2 _ _ ?_ | (intros; omega) | (intros; simp_all; done)
  clear hK2
  apply awp_seq; intro K5 hK5
  apply awp_region 1 [0, 3]
  rw [evK_succ]; simp +decide only [go_sem]
  (repeat' apply And.intro) <;> first | refine hK5 _ _ ?_ | (intros; omega) | (intros; simp_all; done)
  clear hK5
  apply awp_seq; intro K6 hK6
  apply awp_seq; intro K7 hK7
  apply awp_region 2 [3, 9]
  rw [evK_succ]; simp +decide only [go_sem]
  (repeat' apply And.intro) <;> first | refine callK_post _ (runes_at w0 _ Rw L s) ?_ | (intros; omega) | (intros; simp_all; done)
  rintro v st ⟨rfl, rfl⟩
  rw [evK_succ]; simp +decide only [go_sem]
  (repeat' apply And.intro) <;> first | refine hK7 _ _ ?_ | (intros; omega) | (intros; simp_all; done)
  clear hK7
  apply awp_block
  obtain ⟨rs, hrs⟩ : ∃ rs, runesOf s.data.toList = rs := ⟨_, rfl⟩
  have hcount := runes_count s.data.toList
  have htl := tot_le s.data.toList
  rw [hrs] at hcount htl
  have hsz : s.data.toList.length = s.size := by simp
  rw [hsz] at hcount htl
  have hit := runes_iter w0 hT s hsm (B.length + 1)
  rw [hrs] at hit
  refine awp_range (items 0 rs) (fun st => st.boxes[B.length + 1]? = some [.val (.string s)])
    (fun i st => st = ⟨B ++ [[.val (.int .i64 (tot (rs.take i)))], [.val (.string s)]], Rw, L⟩) (fun _ _ => False)
    (by simp +decide only [go_sem]) (by simp +decide only [go_sem]) hit (fun x hx => items_two 0 rs x hx) (by decide) ?_ rfl (fun _ _ h => h.elim) ?_ ?_ (fun _ _ _ h => h.elim)
  · rintro i st la rfl _ _; simp [St.push]
  · rintro i s1 ⟨XB, XR, XL⟩ x M1 W1 l la la' hX hI hlike hloops hx K hK
    obtain ⟨p, n, k', hrsi, rfl, hk'⟩ := items_inv 0 rs i x hx
    have hi : i < rs.length := (List.getElem?_eq_some_iff.1 hrsi).1
    have hgd := runes_good s.data.toList (p, n) (by rw [hrs]; exact List.mem_of_getElem? hrsi)
    have hgood := hgd.1
    have hrl := hgd.2.1
    simp only [isPt, decide_eq_true_eq] at hgood
    (try simp only at hX hrl)
    subst hX
    have htk := tot_take_succ rs i p n hrsi
    have htk1 := tot_take_le rs (i + 1)
    (try simp only at hI)
    subst hI
    apply awp_seq; intro K8 hK8
    apply awp_region 1 [3, 4, 11]
    rw [evK_succ]; simp +decide only [go_sem]
    (repeat' apply And.intro) <;> first | refine hK8 _ _ ?_ | (intros; omega) | (intros; simp_all; done)
    clear hK8
    apply awp_region 1 [3, 4, 5]
    rw [evK_succ]; simp +decide only [go_sem]
    (repeat' apply And.intro) <;> first | refine hK _ _ (by simp [St.ext, St.push]) (fun KQ hKQ => ?_) | (intros; omega) | (intros; simp_all; done)
    clear hK
    apply awp_block
    apply awp_region 2 [3]
    rw [evK_succ]; simp +decide only [go_sem]
    (repeat' apply And.intro) <;> first | refine callK_intro _ (runeLen_at w0 _ _) ?_ | (intros; omega) | (intros; simp_all; done)
    rw [hrl]
    rw [evK_succ]; simp +decide only [go_sem]
    (repeat' apply And.intro) <;> first | refine hKQ _ _ _ ?_ | (intros; omega) | (intros; simp_all; done)
    refine ⟨⟨B ++ [[.val (.int .i64 (tot (rs.take (i + 1))))], [.val (.string s)]], Rw, L⟩, [], ?_, ⟨by simp, by simp, rfl⟩, rfl, rfl, .inl rfl⟩
    have e : (k' : Int) + (n : Int) = tot (rs.take (i + 1)) := by omega
    simp [e]
  · rintro st la rfl _ _
    rw [items_len, List.take_length]
    simp +decide only [go_sem]
    (repeat' apply And.intro) <;> first | refine hK6 _ _ ?_ | (intros; omega) | (intros; simp_all; done)
    clear hK6
    apply awp_seq; intro K9 hK9
    apply awp_region 1 [2]
    rw [evK_succ]; simp +decide only [go_sem]
    (repeat' apply And.intro) <;> first | refine hK9 _ _ ?_ | (intros; omega) | (intros; simp_all; done)
    clear hK9
    apply awp_ret; simp +decide only [go_sem]
    refine fin_box hcalm (by simp only [go_sem]) ⟨?_, rfl⟩
    rw [firstOf, if_neg (by simp [hb]), hrs]

set_option maxHeartbeats 4000000 in
theorem Count_at (w0 : World) (B : List (List AV)) (Rw : List (Nat × Nat)) (L : List LoopA) (hT : Lib.Utf8Tabs 0 1 w0) (s : ByteArray) (hsm' : s.size ≤ 1048576) :
    ACalls Tryd.prog w0 36 [.val (.string s)] ⟨B, Rw, L⟩ fun r st => r = .tup (if Lib.validD s.data.toList = true then [.val (.int .i64 (Lib.runeCount s)), .val (.int .i64 0)] else [.val (.int .i64 0), .val (.int .i64 16)]) ∧ st = ⟨B, Rw, L⟩ := by
  refine ACalls.fin (acalls_of (rs := [.tmp 2, .tmp 3]) Tryd.func36 rfl rfl Tryd.ntmps36 (enters_some Tryd.func36 rfl (by decide)) (Nat.le_of_ble_eq_true rfl) ?_)
  intro M0 W0 hN hNR hNL hcalm hu
  have hsm : s.size ≤ maxLen := by unfold maxLen; omega
  simp only [argsE]
  apply awp_seq; intro K1 hK1
  apply awp_region 1 [0]
  rw [evK_succ]; simp +decide only [go_sem]
  (repeat' apply And.intro) <;> first | refine hK1 _ _ ?_ | (intros; omega) | (intros; simp_all; done)
  clear hK1
  apply awp_seq; intro K2 hK2
  apply awp_seq; intro K3 hK3
  apply awp_region 2 [0, 6]
  rw [evK_succ]; simp +decide only [go_sem]
  (repeat' apply And.intro) <;> first | refine callK_intro _ (Valid_at w0 B Rw L hT s hsm) ?_ | (intros; omega) | (intros; simp_all; done)
  rw [evK_succ]; simp +decide only [go_sem]
  (repeat' apply And.intro) <;> first | refine hK3 _ _ ?_ | (intros; omega) | (intros; simp_all; done)
  clear hK3
  refine awp_cond _ (by simp +decide only [go_sem]) (by simp +decide only [go_sem]; rfl) (fun hb => ?_) (fun hb => ?_)
  · try simp at hb
    apply awp_seq; intro K4 hK4
    apply awp_region 1 [2, 3]
    rw [evK_succ]; simp +decide only [go_sem]
    (repeat' apply And.intro) <;> first | refine hK4 _ _ ?_ | (intros; omega) | (intros; simp_all; done)
    clear hK4
    apply awp_ret; simp +decide only [go_sem]
    refine fin_same hcalm (by simp only [go_sem]) ⟨?_, rfl⟩
    rw [if_neg (by simp [hb])]
  try simp at hb
  apply awp_skip; simp only [go_sem]
  (repeat' apply And.intro) <;> first | refine hK2 _ _ ?_ | (intros; omega) | (intros; simp_all; done)
  clear hK2
  apply awp_seq; intro K5 hK5
  apply awp_region 2 [2, 3]
  rw [evK_succ]; simp +decide only [go_sem]
  (repeat' apply And.intro) <;> first | refine callK_intro _ (count_at w0 _ s (by omega)) ?_ | (intros; omega) | (intros; simp_all; done)
  rw [evK_succ]; simp +decide only [go_sem]
  (repeat' apply And.intro) <;> first | refine hK5 _ _ ?_ | (intros; omega) | (intros; simp_all; done)
  clear hK5
  apply awp_ret; simp +decide only [go_sem]
  refine fin_same hcalm (by simp only [go_sem]) ⟨?_, rfl⟩
  rw [if_pos hb]

theorem first_neg (l : List UInt8) : decide (firstOf l < 0) = Lib.validD l := by
  unfold firstOf
  by_cases h : Lib.validD l = true
  · rw [if_pos h, h]; rfl
  · rw [if_neg h]
    have : Lib.validD l = false := by simpa using h
    rw [this]
    exact decide_eq_false (by omega)
theorem cut_small (s : ByteArray) : (s.extract 0 (min s.size 300)).size ≤ maxLen := by
  simp [ByteArray.size_extract, maxLen]; omega
theorem cut_size (s : ByteArray) : (s.extract 0 (min s.size 300)).size ≤ 300 := by
  simp [ByteArray.size_extract]; omega

set_option maxHeartbeats 4000000 in
theorem Valid_law (w0 : World) (B : List (List AV)) (Rw : List (Nat × Nat)) (L : List LoopA) (hT : Lib.Utf8Tabs 0 1 w0) (s : ByteArray) (hs : s.size ≤ maxLen) :
    ACalls Tryd.prog w0 8 [.val (.string s)] ⟨B, Rw, L⟩ fun r st => r = .val (.bool true) ∧ st = ⟨B, Rw, L⟩ := by
  refine ACalls.fin (acalls_of (rs := [.tmp 2]) Tryd.func8 rfl rfl Tryd.ntmps8 (enters_some Tryd.func8 rfl (by decide)) (Nat.le_of_ble_eq_true rfl) ?_)
  intro M0 W0 hN hNR hNL hcalm hu
  have hcs := cut_small s
  obtain ⟨c, hc⟩ : ∃ c, s.extract 0 (min s.size 300) = c := ⟨_, rfl⟩
  rw [hc] at hcs
  have hfn := first_neg c.data.toList
  obtain ⟨F, hF⟩ : ∃ F, firstOf c.data.toList = F := ⟨_, rfl⟩
  rw [hF] at hfn
  simp only [argsE]
  apply awp_seq; intro K1 hK1
  apply awp_region 1 [0]
  rw [evK_succ]; simp +decide only [go_sem]
  (repeat' apply And.intro) <;> first | refine hK1 _ _ ?_ | (intros; omega) | (intros; simp_all; done)
  clear hK1
  apply awp_seq; intro K2 hK2
  apply awp_region 2 [0]
  rw [evK_succ]; simp +decide only [go_sem]
  (repeat' apply And.intro) <;> first | refine callK_intro _ (cut_at w0 B Rw L s hs) ?_ | (intros; omega) | (intros; simp_all; done)
  rw [hc]
  rw [evK_succ]; simp +decide only [go_sem]
  (repeat' apply And.intro) <;> first | refine hK2 _ _ ?_ | (intros; omega) | (intros; simp_all; done)
  clear hK2
  apply awp_seq; intro K3 hK3
  apply awp_region 6 [2]
  rw [evK_succ]; simp +decide only [go_sem]
  (repeat' apply And.intro) <;> first | refine callK_intro _ (known_at w0 B Rw L hT) ?_ | (intros; omega) | (intros; simp_all; done)
  rw [evK_succ]; simp +decide only [go_sem]
  (repeat' apply And.intro) <;> first | refine callK_intro_if _ (fun _ => First_at w0 B Rw L hT c hcs) ?_ | (intros; omega) | (intros; simp_all; done)
  rw [hF]
  rw [evK_succ]; simp +decide only [go_sem]
  (repeat' apply And.intro) <;> first | refine callK_intro_if _ (fun _ => refFirst_at w0 B Rw L c hcs) ?_ | (intros; omega) | (intros; simp_all; done)
  rw [hF]
  rw [evK_succ]; simp +decide only [go_sem]
  (repeat' apply And.intro) <;> first | refine callK_intro_if _ (fun _ => Valid_at w0 B Rw L hT c hcs) ?_ | (intros; omega) | (intros; simp_all; done)
  rw [evK_succ]; simp +decide only [go_sem]
  (repeat' apply And.intro) <;> first | refine callK_intro_if _ (fun _ => refFirst_at w0 B Rw L c hcs) ?_ | (intros; omega) | (intros; simp_all; done)
  rw [hF]
  rw [evK_succ]; simp +decide only [go_sem]
  (repeat' apply And.intro) <;> first | refine hK3 _ _ ?_ | (intros; omega) | (intros; simp_all; done)
  clear hK3
  apply awp_ret; simp +decide only [go_sem]
  refine fin_same hcalm (by simp only [go_sem]) ⟨?_, rfl⟩
  simp [hfn]

end Go.Proofs.YthlhbbejcmbpoaaDoor
