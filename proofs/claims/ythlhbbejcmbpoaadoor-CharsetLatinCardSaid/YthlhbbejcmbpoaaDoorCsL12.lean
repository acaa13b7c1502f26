/-
  The statement CharsetLatin, walked over abstract states: it answers true.
-/
import Derived.Test.YthlhbbejcmbpoaaDoorCsM
namespace Go.Proofs.YthlhbbejcmbpoaaDoor
open Go Go.RowKit Go.Ev
theorem list_get (s : ByteArray) (l : List UInt8) (h : s.data.toList = l) (k : Nat) (hk : k < l.length) : s.get! k = l[k] := by
  subst h
  have hk' : k < s.size := by simpa using hk
  rw [Utf8W.get!_of_lt s k hk']; rfl
theorem bytes_get (xs : List AV) (k : Nat) (h : k < xs.length) : ((bytesOfA xs).get! k).toNat = (intOfA xs[k]).toNat % 256 := by
  rw [list_get (bytesOfA xs) (xs.map fun x => UInt8.ofNat (intOfA x).toNat) rfl k (by simpa using h), List.getElem_map]
  simp
theorem bytes_size (xs : List AV) : (bytesOfA xs).size = xs.length := by
  show ((xs.map fun x => UInt8.ofNat (intOfA x).toNat).toArray).size = _
  rw [List.size_toArray, List.length_map]
theorem ptsI_at {l : List UInt8} {k : Nat} (h : k < (ptsI l).length) : ∃ p n : Nat, (runesOf l)[k]? = some (p, n) ∧ (ptsI l)[k] = p := by
  have h' : k < (runesOf l).length := by simpa [ptsI, ptsN] using h
  exact ⟨(runesOf l)[k].1, (runesOf l)[k].2, List.getElem?_eq_getElem h', by simp [ptsI, ptsN]⟩
theorem lats_list (rs : List (Nat × Nat)) : (bytesOfA (lats rs rs.length)).data.toList = rs.map fun p => UInt8.ofNat p.1 := by
  show ((lats rs rs.length).map fun x => UInt8.ofNat (intOfA x).toNat) = _
  simp [lats, intOfA, Function.comp_def]
theorem latinA_form (s : ByteArray) : ∃ A e, latinA s = .tup [.val (.string A), .val (.int .i64 e)] ∧ ((Lib.validD s.data.toList = false ∧ A = ⟨#[]⟩ ∧ e = 16) ∨ (Lib.validD s.data.toList = true ∧ (¬ ∀ p ∈ runesOf s.data.toList, p.1 ≤ 255) ∧ A = ⟨#[]⟩ ∧ e = 6) ∨
    (Lib.validD s.data.toList = true ∧ (∀ p ∈ runesOf s.data.toList, p.1 ≤ 255) ∧ A.data.toList = (runesOf s.data.toList).map (fun p => UInt8.ofNat p.1) ∧ e = 0)) := by
  unfold latinA
  cases h : Lib.validD s.data.toList with
  | false => exact ⟨_, _, by rw [if_neg (by simp)], .inl ⟨rfl, rfl, rfl⟩⟩
  | true =>
    by_cases c : ∀ p ∈ runesOf s.data.toList, p.1 ≤ 255
    · exact ⟨_, _, by rw [if_pos rfl, if_pos c], .inr (.inr ⟨rfl, c, lats_list _, rfl⟩)⟩
    · exact ⟨_, _, by rw [if_pos rfl, if_neg c], .inr (.inl ⟨rfl, c, rfl, rfl⟩)⟩
theorem latin_runes (l : List UInt8) : runesOf (latinL l) = l.map fun b => (b.toNat, (Lib.encodeRune (b.toNat : Int)).length) := by
  rw [latin_enc, runes_enc _ (fun p hp => by obtain ⟨b, _, rfl⟩ := List.mem_map.1 hp; exact byte_pt b), List.map_map]
  rfl
theorem latin_valid (l : List UInt8) : Lib.validD (latinL l) = true := by
  rw [latin_enc]
  exact valid_enc _ fun p hp => by obtain ⟨b, _, rfl⟩ := List.mem_map.1 hp; exact byte_pt b
/-- What FromLatin writes, ToLatin reads. -/
theorem latin_back {s b : ByteArray} (h : b.data.toList = latinL s.data.toList) : ∃ A, latinA b = .tup [.val (.string A), .val (.int .i64 0)] ∧ A.data.toList = s.data.toList := by
  obtain ⟨A, e, h1, h2⟩ := latinA_form b
  rw [h] at h2
  have hv := latin_valid s.data.toList
  have hr := latin_runes s.data.toList
  have hall : ∀ p ∈ runesOf (latinL s.data.toList), p.1 ≤ 255 := by
    rw [hr]
    intro p hp
    obtain ⟨b, _, rfl⟩ := List.mem_map.1 hp
    have := b.toNat_lt
    simp only; omega
  obtain ⟨_, _, hA, rfl⟩ := (h2.resolve_left (fun q => by rw [q.1] at hv; cases hv)).resolve_left (fun q => q.2.1 hall)
  refine ⟨A, h1, ?_⟩
  rw [hA, hr, List.map_map]
  have : ∀ b ∈ s.data.toList, ((fun p : Nat × Nat => UInt8.ofNat p.1) ∘ fun b : UInt8 => (b.toNat, (Lib.encodeRune (b.toNat : Int)).length)) b = b := fun b _ => by simp
  exact (List.map_congr_left this).trans (List.map_id' _)
/-- What ToLatin writes, FromLatin reads. -/
theorem latin_forth {s A : ByteArray} (hv : Lib.validD s.data.toList = true) (hall : ∀ p ∈ runesOf s.data.toList, p.1 ≤ 255) (hA : A.data.toList = (runesOf s.data.toList).map (fun p => UInt8.ofNat p.1)) : latinL A.data.toList = s.data.toList := by
  have h1 := encL_pts s.data.toList hv
  rw [latin_enc, hA, List.map_map]
  have : (runesOf s.data.toList).map ((fun b : UInt8 => (b.toNat : Int)) ∘ fun p : Nat × Nat => UInt8.ofNat p.1) = (ptsN s.data.toList).map fun p : Nat => (p : Int) := by
    rw [ptsN, List.map_map]
    refine List.map_congr_left fun p hp => ?_
    have := hall p hp
    simp only [Function.comp_apply, UInt8.toNat_ofNat']
    omega
  rw [this, h1]

set_option maxRecDepth 100000 in
set_option maxHeartbeats 4000000 in
theorem Latin_law (w0 : World) (B : List (List AV)) (Rw : List (Nat × Nat)) (L : List LoopA) (hT : Lib.Utf8Tabs 0 1 w0) (s : ByteArray) (hs : s.size ≤ maxLen) :
    ACalls Tryd.prog w0 12 [.val (.string s)] ⟨B, Rw, L⟩ fun r st => r = .val (.bool true) ∧ st = ⟨B, Rw, L⟩ := by
  refine ACalls.fin (acalls_of (rs := [.tmp 2]) Tryd.func12 rfl rfl Tryd.ntmps12 (enters_some Tryd.func12 rfl (by decide)) (Nat.le_of_ble_eq_true rfl) ?_)
  intro M0 W0 hN hNR hNL hcalm hu
  have hcs := cut_size s
  obtain ⟨c, hc⟩ : ∃ c, s.extract 0 (min s.size 300) = c := ⟨_, rfl⟩
  rw [hc] at hcs
  have hcm : c.size ≤ maxLen := by unfold maxLen; omega
  have hcM : c.size ≤ 1048576 := by omega
  have hcz : c.data.toList.length = c.size := by simp
  have hfn := first_neg c.data.toList
  obtain ⟨Fc, hF⟩ : ∃ F, firstOf c.data.toList = F := ⟨_, rfl⟩
  rw [hF] at hfn
  obtain ⟨A, ea, hca, hcf⟩ := latinA_form c
  obtain ⟨b, hb0⟩ : ∃ b : ByteArray, (⟨(latinL c.data.toList).toArray⟩ : ByteArray) = b := ⟨_, rfl⟩
  have hbl : b.data.toList = latinL c.data.toList := by rw [← hb0]
  have hbz : b.size ≤ 1200 := by
    have h1 := latin_length c.data.toList
    have h2 : b.size = (latinL c.data.toList).length := by rw [← hbl]; simp
    omega
  obtain ⟨A2, hcb, hA2⟩ := latin_back hbl
  have hsA2 : sEq A2 c = true := by simp [sEq, hA2]
  have hll : (runesOf c.data.toList).length ≤ 300 := by have := runes_count c.data.toList; omega
  have ha : (intsA (ptsI c.data.toList)).length = (runesOf c.data.toList).length := by simp [intsA, ptsI, ptsN]
  have ha' : (ptsI c.data.toList).length = (runesOf c.data.toList).length := by simp [ptsI, ptsN]
  simp only [argsE]
  apply awp_seq; intro K1 hK1
  apply awp_region 1 [0]
  rw [evK_succ]; simp +decide only [go_sem, ha, hsA2]
  (repeat' apply And.intro) <;> first | refine hK1 _ _ ?_ | (intros; omega) | (intros; simp_all; done)
  clear hK1
  apply awp_seq; intro K2 hK2
  apply awp_region 2 [0]
  rw [evK_succ]; simp +decide only [go_sem, ha, hsA2]
  (repeat' apply And.intro) <;> first | refine callK_intro _ (cut_at w0 B Rw L s hs) ?_ | (intros; omega) | (intros; simp_all; done)
  rw [hc]
  rw [evK_succ]; simp +decide only [go_sem, ha, hsA2]
  (repeat' apply And.intro) <;> first | refine hK2 _ _ ?_ | (intros; omega) | (intros; simp_all; done)
  clear hK2
  apply awp_seq; intro K3 hK3
  apply awp_region 2 [0, 3, 4]
  rw [evK_succ]; simp +decide only [go_sem, ha, hsA2]
  (repeat' apply And.intro) <;> first | refine callK_intro _ (ToLatin_at w0 B Rw L hT c hcM) ?_ | (intros; omega) | (intros; simp_all; done)
  rw [hca]
  rw [evK_succ]; simp +decide only [go_sem, ha, hsA2]
  (repeat' apply And.intro) <;> first | refine hK3 _ _ ?_ | (intros; omega) | (intros; simp_all; done)
  clear hK3
  apply awp_seq; intro K4 hK4
  apply awp_region 2 [0, 3, 4, 5]
  rw [evK_succ]; simp +decide only [go_sem, ha, hsA2]
  (repeat' apply And.intro) <;> first | refine callK_intro _ (FromLatin_at w0 _ c (by omega)) ?_ | (intros; omega) | (intros; simp_all; done)
  rw [hb0]
  rw [evK_succ]; simp +decide only [go_sem, ha, hsA2]
  (repeat' apply And.intro) <;> first | refine hK4 _ _ ?_ | (intros; omega) | (intros; simp_all; done)
  clear hK4
  apply awp_seq; intro K5 hK5
  apply awp_region 2 [0, 3, 4, 5, 6, 7]
  rw [evK_succ]; simp +decide only [go_sem, ha, hsA2]
  (repeat' apply And.intro) <;> first | refine callK_intro _ (ToLatin_at w0 B Rw L hT b (by omega)) ?_ | (intros; omega) | (intros; simp_all; done)
  rw [hcb]
  rw [evK_succ]; simp +decide only [go_sem, ha, hsA2]
  (repeat' apply And.intro) <;> first | refine hK5 _ _ ?_ | (intros; omega) | (intros; simp_all; done)
  clear hK5
  apply awp_seq; intro K6 hK6
  apply awp_seq; intro K7 hK7
  apply awp_region 2 [0, 3, 4, 5, 37]
  rw [evK_succ]; simp +decide only [go_sem, ha, hsA2]
  (repeat' apply And.intro) <;> first | refine callK_intro _ (known_at w0 B Rw L hT) ?_ | (intros; omega) | (intros; simp_all; done)
  rw [evK_succ]; simp +decide only [go_sem, ha, hsA2]
  (repeat' apply And.intro) <;> first | refine hK7 _ _ ?_ | (intros; omega) | (intros; simp_all; done)
  clear hK7
  refine awp_cond _ (by simp +decide only [go_sem]) (by simp +decide only [go_sem]; rfl) (fun hb => ?_) (fun hb => ?_)
  · exfalso
    simp at hb
  clear hb
  apply awp_skip; simp only [go_sem]
  (repeat' apply And.intro) <;> first | refine hK6 _ _ ?_ | (intros; omega) | (intros; simp_all; done)
  clear hK6
  apply awp_seq; intro K9 hK9
  apply awp_region 1 [0, 3, 4, 5, 8]
  rw [evK_succ]; simp +decide only [go_sem, ha, hsA2]
  (repeat' apply And.intro) <;> first | refine hK9 _ _ ?_ | (intros; omega) | (intros; simp_all; done)
  clear hK9
  apply awp_seq; intro K10 hK10
  apply awp_seq; intro K11 hK11
  apply awp_region 1 [0, 3, 4, 5, 8, 9]
  rw [evK_succ]; simp +decide only [go_sem, ha, hsA2]
  (repeat' apply And.intro) <;> first | refine hK11 _ _ ?_ | (intros; omega) | (intros; simp_all; done)
  clear hK11
  apply awp_block
  refine awp_loop (fun m e st => ∃ (k : Nat) (wn : ByteArray), k ≤ c.size ∧ m = c.size - k ∧ wn.data.toList = latinL (c.data.toList.take k) ∧ e = [(0, true, .val (.string c)), (3, true, .val (.string A)), (4, true, .val (.int .i64 ea)), (5, true, .val (.string b)), (8, true, .val (.string wn)), (9, true, .val (.int .i64 k))] ∧ st = ⟨B, Rw, L⟩) c.size ⟨0, ⟨#[]⟩, by omega, rfl, rfl, rfl, rfl⟩ ?_
  rintro m e st ⟨k, wn, hk, rfl, hw, rfl, rfl⟩ KR hKR
  obtain ⟨x, hx⟩ : ∃ x, (c.get! k).toNat = x := ⟨_, rfl⟩
  apply awp_seq; intro K12 hK12
  apply awp_seq; intro K13 hK13
  apply awp_region 1 [0, 3, 4, 5, 8, 9, 41]
  rw [evK_succ]; simp +decide only [go_sem, ha, hx]
  (repeat' apply And.intro) <;> first | refine hK13 _ _ ?_ | (intros; omega) | (intros; simp_all; done)
  clear hK13
  refine awp_cond _ (by simp +decide only [go_sem]) (by simp +decide only [go_sem]; rfl) (fun hb => ?_) (fun hb => ?_)
  rotate_left
  · try simp at hb
    have hkk : k = c.size := by omega
    subst hkk
    rw [List.take_of_length_le (by omega)] at hw
    have hes : sEq b wn = true := by simp [sEq, hbl, hw]
    apply awp_exit; simp +decide only [go_sem, ha, hx]
    (repeat' apply And.intro) <;> first | refine hK10 _ _ ?_ | (intros; omega) | (intros; simp_all; done)
    clear hK10
    apply awp_seq; intro K14 hK14
    apply awp_seq; intro K15 hK15
    apply awp_region 1 [0, 3, 4, 53]
    rw [evK_succ]; simp +decide only [go_sem, ha, hx]
    (repeat' apply And.intro) <;> first | refine hK15 _ _ ?_ | (intros; omega) | (intros; simp_all; done)
    clear hK15
    refine awp_cond _ (by simp +decide only [go_sem]) (by simp +decide only [go_sem]; rfl) (fun hb => ?_) (fun hb => ?_)
    · exfalso
      simp [hes] at hb
    clear hb
    apply awp_skip; simp only [go_sem]
    (repeat' apply And.intro) <;> first | refine hK14 _ _ ?_ | (intros; omega) | (intros; simp_all; done)
    clear hK14
    apply awp_seq; intro K17 hK17
    apply awp_seq; intro K18 hK18
    apply awp_region 2 [0, 3, 4, 56]
    rw [evK_succ]; simp +decide only [go_sem, ha, hx]
    (repeat' apply And.intro) <;> first | refine callK_intro _ (refFirst_at w0 B Rw L c hcm) ?_ | (intros; omega) | (intros; simp_all; done)
    rw [hF]
    rw [evK_succ]; simp +decide only [go_sem, ha, hx]
    (repeat' apply And.intro) <;> first | refine hK18 _ _ ?_ | (intros; omega) | (intros; simp_all; done)
    clear hK18
    refine awp_cond _ (by simp +decide only [go_sem]) (by simp +decide only [go_sem]; rfl) (fun hb => ?_) (fun hb => ?_)
    · try simp at hb
      have hv : Lib.validD c.data.toList = false := by rw [← hfn]; exact decide_eq_false (by omega)
      apply awp_seq; intro K19 hK19
      apply awp_region 1 [2]
      rw [evK_succ]; simp +decide only [go_sem, ha, hx]
      (repeat' apply And.intro) <;> first | refine hK19 _ _ ?_ | (intros; omega) | (intros; simp_all; done)
      clear hK19
      apply awp_ret; simp +decide only [go_sem]
      refine fin_same hcalm (by simp only [go_sem]) ⟨?_, rfl⟩
      obtain ⟨_, rfl, rfl⟩ := hcf.resolve_right (fun h => by rcases h with h | h <;> (rw [h.1] at hv; cases hv))
      simp [sEq_refl]
    try simp at hb
    have hv : Lib.validD c.data.toList = true := by rw [← hfn]; exact decide_eq_true (by omega)
    apply awp_skip; simp only [go_sem]
    (repeat' apply And.intro) <;> first | refine hK17 _ _ ?_ | (intros; omega) | (intros; simp_all; done)
    clear hK17
    apply awp_seq; intro K20 hK20
    apply awp_region 2 [0, 3, 4, 10]
    rw [evK_succ]; simp +decide only [go_sem, ha, hx]
    (repeat' apply And.intro) <;> first | refine callK_intro _ (refPoints_at w0 B Rw L c hcM) ?_ | (intros; omega) | (intros; simp_all; done)
    rw [evK_succ]; simp +decide only [go_sem, ha, hx]
    (repeat' apply And.intro) <;> first | refine hK20 _ _ ?_ | (intros; omega) | (intros; simp_all; done)
    clear hK20
    apply awp_seq; intro K21 hK21
    apply awp_seq; intro K22 hK22
    apply awp_region 1 [0, 3, 4, 10, 11]
    rw [evK_succ]; simp +decide only [go_sem, ha, hx]
    (repeat' apply And.intro) <;> first | refine hK22 _ _ ?_ | (intros; omega) | (intros; simp_all; done)
    clear hK22
    apply awp_block
    refine awp_loop (fun m e st => ∃ k : Nat, k ≤ (runesOf c.data.toList).length ∧ m = (runesOf c.data.toList).length - k ∧ (∀ p ∈ (runesOf c.data.toList).take k, p.1 ≤ 255) ∧ e = [(0, true, .val (.string c)), (3, true, .val (.string A)), (4, true, .val (.int .i64 ea)), (10, true, .list (intsA (ptsI c.data.toList)) .none), (11, true, .val (.int .i64 k))] ∧ st = ⟨B, Rw, L⟩) (runesOf c.data.toList).length ⟨0, by omega, rfl, by simp, rfl, rfl⟩ ?_
    rintro m e st ⟨k, hk, rfl, hall, rfl, rfl⟩ KR2 hKR2
    obtain ⟨x, hga⟩ : ∃ x, (intsA (ptsI c.data.toList)).getD k .junk = x := ⟨_, rfl⟩
    apply awp_seq; intro K23 hK23
    apply awp_seq; intro K24 hK24
    apply awp_region 1 [0, 3, 4, 10, 11, 68]
    rw [evK_succ]; simp +decide only [go_sem, ha, hx, hga]
    (repeat' apply And.intro) <;> first | refine hK24 _ _ ?_ | (intros; omega) | (intros; simp_all; done)
    clear hK24
    refine awp_cond _ (by simp +decide only [go_sem]) (by simp +decide only [go_sem]; rfl) (fun hb => ?_) (fun hb => ?_)
    rotate_left
    · try simp at hb
      have hkk : k = (runesOf c.data.toList).length := by omega
      subst hkk
      rw [List.take_length] at hall
      obtain ⟨_, _, hA, hea⟩ := (hcf.resolve_left (fun q => by rw [q.1] at hv; cases hv)).resolve_left (fun q => q.2.1 hall)
      have hAz : A.size = (runesOf c.data.toList).length := by
        have := congrArg List.length hA
        simpa using this
      have hfA0 : latinL A.data.toList = c.data.toList := latin_forth hv hall hA
      obtain ⟨fA, hfA⟩ : ∃ x : ByteArray, (⟨(latinL A.data.toList).toArray⟩ : ByteArray) = x := ⟨_, rfl⟩
      have hsf : sEq fA c = true := by rw [← hfA]; simp [sEq, hfA0]
      apply awp_exit; simp +decide only [go_sem, ha, hx, hga]
      (repeat' apply And.intro) <;> first | refine hK21 _ _ ?_ | (intros; omega) | (intros; simp_all; done)
      clear hK21
      apply awp_seq; intro K25 hK25
      apply awp_seq; intro K26 hK26
      apply awp_region 1 [0, 3, 10, 90]
      rw [evK_succ]; simp +decide only [go_sem, ha, hx, hga]
      (repeat' apply And.intro) <;> first | refine hK26 _ _ ?_ | (intros; omega) | (intros; simp_all; done)
      clear hK26
      refine awp_cond _ (by simp +decide only [go_sem]) (by simp +decide only [go_sem]; rfl) (fun hb => ?_) (fun hb => ?_)
      · exfalso
        simp [hea, hAz] at hb
      clear hb
      apply awp_skip; simp only [go_sem]
      (repeat' apply And.intro) <;> first | refine hK25 _ _ ?_ | (intros; omega) | (intros; simp_all; done)
      clear hK25
      apply awp_seq; intro K28 hK28
      apply awp_seq; intro K29 hK29
      apply awp_region 1 [0, 3, 10, 12]
      rw [evK_succ]; simp +decide only [go_sem, ha, hx, hga]
      (repeat' apply And.intro) <;> first | refine hK29 _ _ ?_ | (intros; omega) | (intros; simp_all; done)
      clear hK29
      apply awp_block
      refine awp_loop (fun m e st => ∃ j : Nat, j ≤ (runesOf c.data.toList).length ∧ m = (runesOf c.data.toList).length - j ∧ e = [(0, true, .val (.string c)), (3, true, .val (.string A)), (10, true, .list (intsA (ptsI c.data.toList)) .none), (12, true, .val (.int .i64 j))] ∧ st = ⟨B, Rw, L⟩) (runesOf c.data.toList).length ⟨0, by omega, rfl, rfl, rfl⟩ ?_
      rintro m e st ⟨j, hj, rfl, rfl, rfl⟩ KR3 hKR3
      clear hga x
      obtain ⟨x, hga⟩ : ∃ x, (intsA (ptsI c.data.toList)).getD j .junk = x := ⟨_, rfl⟩
      obtain ⟨y, hy⟩ : ∃ y, (A.get! j).toNat = y := ⟨_, rfl⟩
      have hy256 : y < 256 := by rw [← hy]; exact UInt8.toNat_lt _
      apply awp_seq; intro K30 hK30
      apply awp_seq; intro K31 hK31
      apply awp_region 1 [0, 3, 10, 12, 94]
      rw [evK_succ]; simp +decide only [go_sem, ha, hx, hga, hga, hy]
      (repeat' apply And.intro) <;> first | refine hK31 _ _ ?_ | (intros; omega) | (intros; simp_all; done)
      clear hK31
      refine awp_cond _ (by simp +decide only [go_sem]) (by simp +decide only [go_sem]; rfl) (fun hb => ?_) (fun hb => ?_)
      rotate_left
      · try simp at hb
        apply awp_exit; simp +decide only [go_sem, ha, hx, hga, hga, hy]
        (repeat' apply And.intro) <;> first | refine hK28 _ _ ?_ | (intros; omega) | (intros; simp_all; done)
        clear hK28
        apply awp_seq; intro K32 hK32
        apply awp_region 2 [2]
        rw [evK_succ]; simp +decide only [go_sem, ha, hx, hga, hga, hy]
        (repeat' apply And.intro) <;> first | refine callK_intro _ (FromLatin_at w0 _ A (by omega)) ?_ | (intros; omega) | (intros; simp_all; done)
        rw [hfA]
        rw [evK_succ]; simp +decide only [go_sem, ha, hx, hga, hga, hy]
        (repeat' apply And.intro) <;> first | refine hK32 _ _ ?_ | (intros; omega) | (intros; simp_all; done)
        clear hK32
        apply awp_ret; simp +decide only [go_sem]
        refine fin_same hcalm (by simp only [go_sem]) ⟨?_, rfl⟩
        rw [hsf]
      try simp at hb
      have e1 := ints_get (a := ptsI c.data.toList) (k := j) (by omega)
      rw [hga] at e1
      subst e1
      obtain ⟨p, pn, hr1, hr2⟩ := ptsI_at (l := c.data.toList) (k := j) (by omega)
      rw [hr2] at hga
      have hpl := hall (p, pn) (List.mem_of_getElem? hr1)
      simp only at hpl
      have hy2 : A.get! j = UInt8.ofNat p := by
        rw [list_get A _ hA j (by simp; omega), List.getElem_map]
        have := (List.getElem?_eq_some_iff.1 hr1).2
        rw [this]
      have hy3 : y = p := by
        rw [← hy, hy2]; simp; omega
      apply awp_skip; simp only [go_sem]
      (repeat' apply And.intro) <;> first | refine hK30 _ _ ?_ | (intros; omega) | (intros; simp_all; done)
      clear hK30
      apply awp_seq; intro K33 hK33
      apply awp_block
      apply awp_seq; intro K34 hK34
      apply awp_draw mix 9 1 1 [0, 3, 10, 12, 105] (by kernel_rfl)
      rw [evK_succ]; simp +decide only [go_sem, ha, hx, hga, hga, hy]
      (repeat' with_reducible apply And.intro) <;> first | (rw [evK_succ]; simp +decide only [go_sem, ha, hx, hga, hga, hy]) | (intros; omega) | (intros; simp_all; done)
      (repeat' apply And.intro) <;> first | refine hK34 _ _ ?_ | (intros; omega) | (intros; simp_all; done)
      clear hK34
      refine awp_cond _ (by simp +decide only [go_sem]) (by simp +decide only [go_sem]; rfl) (fun hb => ?_) (fun hb => ?_)
      · exfalso
        simp at hb
        omega
      clear hb
      apply awp_skip; simp only [go_sem]
      (repeat' apply And.intro) <;> first | refine hK33 _ _ ?_ | (intros; omega) | (intros; simp_all; done)
      clear hK33
      apply awp_region 1 [0, 3, 10, 12]
      rw [evK_succ]; simp +decide only [go_sem, ha, hx, hga, hga, hy]
      (repeat' apply And.intro) <;> first | refine hKR3 ((runesOf c.data.toList).length - (j + 1)) _ _ ?_ ⟨j + 1, ?_, rfl, ?_, rfl⟩ | (intros; omega) | (intros; simp_all; done)
      · omega
      · omega
      · simp
    try simp at hb
    have e1 := ints_get (a := ptsI c.data.toList) (k := k) (by omega)
    rw [hga] at e1
    subst e1
    obtain ⟨p, pn, hr1, hr2⟩ := ptsI_at (l := c.data.toList) (k := k) (by omega)
    rw [hr2] at hga
    apply awp_skip; simp only [go_sem]
    (repeat' apply And.intro) <;> first | refine hK23 _ _ ?_ | (intros; omega) | (intros; simp_all; done)
    clear hK23
    apply awp_seq; intro K36 hK36
    apply awp_block
    apply awp_seq; intro K37 hK37
    apply awp_region 1 [0, 3, 4, 10, 11, 75]
    rw [evK_succ]; simp +decide only [go_sem, ha, hx, hga]
    (repeat' apply And.intro) <;> first | refine hK37 _ _ ?_ | (intros; omega) | (intros; simp_all; done)
    clear hK37
    refine awp_cond _ (by simp +decide only [go_sem]) (by simp +decide only [go_sem]; rfl) (fun hb => ?_) (fun hb => ?_)
    · try simp at hb
      apply awp_seq; intro K38 hK38
      apply awp_region 1 [2]
      rw [evK_succ]; simp +decide only [go_sem, ha, hx, hga]
      (repeat' apply And.intro) <;> first | refine hK38 _ _ ?_ | (intros; omega) | (intros; simp_all; done)
      clear hK38
      apply awp_ret; simp +decide only [go_sem]
      refine fin_same hcalm (by simp only [go_sem]) ⟨?_, rfl⟩
      obtain ⟨_, _, rfl, rfl⟩ := (hcf.resolve_left (fun q => by rw [q.1] at hv; cases hv)).resolve_right (fun q => by have := q.2.1 (p, pn) (List.mem_of_getElem? hr1); simp only at this; omega)
      simp [sEq_refl]
    try simp at hb
    apply awp_skip; simp only [go_sem]
    (repeat' apply And.intro) <;> first | refine hK36 _ _ ?_ | (intros; omega) | (intros; simp_all; done)
    clear hK36
    apply awp_region 1 [0, 3, 4, 10, 11]
    rw [evK_succ]; simp +decide only [go_sem, ha, hx, hga]
    (repeat' apply And.intro) <;> first | refine hKR2 ((runesOf c.data.toList).length - (k + 1)) _ _ ?_ ⟨k + 1, ?_, rfl, ?_, ?_, rfl⟩ | (intros; omega) | (intros; simp_all; done)
    · omega
    · omega
    · intro q hq
      rw [List.take_add_one, hr1, List.mem_append] at hq
      rcases hq with h | h
      · exact hall q h
      · simp at h; subst h; simp only; omega
    · simp
  try simp at hb
  have hxp : isPt (x : Int) = true := by rw [← hx]; exact byte_pt _
  have hx256 := (c.get! k).toNat_lt
  rw [hx] at hx256
  have hwz : wn.size ≤ 1200 := by
    have h1 := latin_length (c.data.toList.take k)
    have h2 : wn.size = (latinL (c.data.toList.take k)).length := by rw [← hw]; simp
    have h3 : (c.data.toList.take k).length ≤ k := List.length_take_le _ _
    omega
  have hez : (encS (x : Int)).size ≤ 4 := by
    have h2 : (encS (x : Int)).size = (Lib.encodeRune (x : Int)).length := rfl
    rw [h2, enc_length _ hxp]
    split <;> (try split) <;> (try split) <;> omega
  apply awp_skip; simp only [go_sem]
  (repeat' apply And.intro) <;> first | refine hK12 _ _ ?_ | (intros; omega) | (intros; simp_all; done)
  clear hK12
  apply awp_seq; intro K39 hK39
  apply awp_block
  apply awp_region 2 [0, 3, 4, 5, 8, 9]
  rw [evK_succ]; simp +decide only [go_sem, ha, hx]
  (repeat' apply And.intro) <;> first | refine callK_intro _ (refEncode_at w0 B Rw L x hxp) ?_ | (intros; omega) | (intros; simp_all; done)
  rw [evK_succ]; simp +decide only [go_sem, ha, hx]
  (repeat' apply And.intro) <;> first | refine hK39 _ _ ?_ | (intros; omega) | (intros; simp_all; done)
  clear hK39
  apply awp_region 1 [0, 3, 4, 5, 8, 9]
  rw [evK_succ]; simp +decide only [go_sem, ha, hx]
  (repeat' apply And.intro) <;> first | refine hKR (c.size - (k + 1)) _ _ ?_ ⟨k + 1, wn ++ encS (x : Int), ?_, rfl, ?_, ?_, rfl⟩ | (intros; omega) | (intros; simp_all; done)
  · omega
  · omega
  · have hls := latin_snoc c k hb
    have e : c[k] = c.get! k := by rw [Utf8W.get!_of_lt c k hb]
    rw [hls, e, hx, ← hw, encS]; simp
  · simp
end Go.Proofs.YthlhbbejcmbpoaaDoor
