/-
  The statement CharsetASCII, walked over abstract states: it answers true.
-/
import Derived.Test.YthlhbbejcmbpoaaDoorCsM
namespace Go.Proofs.YthlhbbejcmbpoaaDoor
open Go Go.RowKit Go.Ev
theorem list_get (s : ByteArray) (l : List UInt8) (h : s.data.toList = l) (k : Nat) (hk : k < l.length) : s.get! k = l[k] := by
  subst h
  have hk' : k < s.size := by simpa using hk
  rw [Utf8W.get!_of_lt s k hk']; rfl
theorem bytes_get (xs : List AV) (k : Nat) (h : k < xs.length) : ((bytesOfA xs).get! k).toNat = (intOfA xs[k]).toNat % 256 := by
  rw [list_get (bytesOfA xs) (xs.map fun x => UInt8.ofNat (intOfA x).toNat) rfl k (by simpa using h), List.getElem_map]
  simp
theorem bytes_size (xs : List AV) : (bytesOfA xs).size = xs.length := by
  show ((xs.map fun x => UInt8.ofNat (intOfA x).toNat).toArray).size = _
  rw [List.size_toArray, List.length_map]
theorem asciiA_form (s : ByteArray) : ∃ A n e, asciiA s = .tup [.val (.string A), .val (.int .i64 n), .val (.int .i64 e)] ∧ ((Lib.validD s.data.toList = true ∧ A = bytesOfA (ascs (runesOf s.data.toList) (runesOf s.data.toList).length) ∧ n = cnt (runesOf s.data.toList) (runesOf s.data.toList).length ∧ e = 0) ∨ (Lib.validD s.data.toList = false ∧ A = ⟨#[]⟩ ∧ n = 0 ∧ e = 16)) := by
  unfold asciiA
  cases h : Lib.validD s.data.toList with
  | true => exact ⟨_, _, _, by rw [if_pos rfl], .inl ⟨rfl, rfl, rfl, rfl⟩⟩
  | false => exact ⟨_, _, _, by rw [if_neg (by simp)], .inr ⟨rfl, rfl, rfl, rfl⟩⟩
theorem ascs_get {rs : List (Nat × Nat)} {k p n : Nat} (h : rs[k]? = some (p, n)) : ((bytesOfA (ascs rs rs.length)).get! k).toNat = asc p := by
  have hk : k < rs.length := (List.getElem?_eq_some_iff.1 h).1
  have e : rs[k] = (p, n) := (List.getElem?_eq_some_iff.1 h).2
  have hl := ascs_len rs rs.length (Nat.le_refl _)
  rw [bytes_get _ k (by omega)]
  have : (ascs rs rs.length)[k]'(by omega) = .val (.int .u8 (asc p)) := by simp [ascs, e]
  rw [this]
  show ((asc p : Nat) : Int).toNat % 256 = _
  have : asc p < 256 := by unfold asc; split <;> omega
  rw [Int.toNat_natCast]; omega
theorem ptsI_at {l : List UInt8} {k : Nat} (h : k < (ptsI l).length) : ∃ p n : Nat, (runesOf l)[k]? = some (p, n) ∧ (ptsI l)[k] = p := by
  have h' : k < (runesOf l).length := by simpa [ptsI, ptsN] using h
  exact ⟨(runesOf l)[k].1, (runesOf l)[k].2, List.getElem?_eq_getElem h', by simp [ptsI, ptsN]⟩

set_option maxRecDepth 100000 in
set_option maxHeartbeats 4000000 in
theorem ASCII_law (w0 : World) (B : List (List AV)) (Rw : List (Nat × Nat)) (L : List LoopA) (hT : Lib.Utf8Tabs 0 1 w0) (s : ByteArray) (hs : s.size ≤ maxLen) :
    ACalls Tryd.prog w0 5 [.val (.string s)] ⟨B, Rw, L⟩ fun r st => r = .val (.bool true) ∧ st = ⟨B, Rw, L⟩ := by
  refine ACalls.fin (acalls_of (rs := [.tmp 2]) Tryd.func5 rfl rfl Tryd.ntmps5 (enters_some Tryd.func5 rfl (by decide)) (Nat.le_of_ble_eq_true rfl) ?_)
  intro M0 W0 hN hNR hNL hcalm hu
  have hcs := cut_size s
  obtain ⟨c, hc⟩ : ∃ c, s.extract 0 (min s.size 300) = c := ⟨_, rfl⟩
  rw [hc] at hcs
  have hcm : c.size ≤ maxLen := by unfold maxLen; omega
  have hcM : c.size ≤ 1048576 := by omega
  have hcz : c.data.toList.length = c.size := by simp
  have hfn := first_neg c.data.toList
  obtain ⟨Fc, hF⟩ : ∃ F, firstOf c.data.toList = F := ⟨_, rfl⟩
  rw [hF] at hfn
  obtain ⟨A, n, ea, hca, hcf⟩ := asciiA_form c
  have hll : (runesOf c.data.toList).length ≤ 300 := by have := runes_count c.data.toList; omega
  have ha : (intsA (ptsI c.data.toList)).length = (runesOf c.data.toList).length := by simp [intsA, ptsI, ptsN]
  have ha' : (ptsI c.data.toList).length = (runesOf c.data.toList).length := by simp [ptsI, ptsN]
  simp only [argsE]
  apply awp_seq; intro K1 hK1
  apply awp_region 1 [0]
  rw [evK_succ]; simp +decide only [go_sem, ha]
  (repeat' apply And.intro) <;> first | refine hK1 _ _ ?_ | (intros; omega) | (intros; simp_all; done)
  clear hK1
  apply awp_seq; intro K2 hK2
  apply awp_region 2 [0]
  rw [evK_succ]; simp +decide only [go_sem, ha]
  (repeat' apply And.intro) <;> first | refine callK_intro _ (cut_at w0 B Rw L s hs) ?_ | (intros; omega) | (intros; simp_all; done)
  rw [hc]
  rw [evK_succ]; simp +decide only [go_sem, ha]
  (repeat' apply And.intro) <;> first | refine hK2 _ _ ?_ | (intros; omega) | (intros; simp_all; done)
  clear hK2
  apply awp_seq; intro K3 hK3
  apply awp_region 2 [0, 3, 4, 5]
  rw [evK_succ]; simp +decide only [go_sem, ha]
  (repeat' apply And.intro) <;> first | refine callK_intro _ (ToASCII_at w0 B Rw L hT c hcM) ?_ | (intros; omega) | (intros; simp_all; done)
  rw [hca]
  rw [evK_succ]; simp +decide only [go_sem, ha]
  (repeat' apply And.intro) <;> first | refine hK3 _ _ ?_ | (intros; omega) | (intros; simp_all; done)
  clear hK3
  apply awp_seq; intro K4 hK4
  apply awp_seq; intro K5 hK5
  apply awp_region 2 [0, 3, 4, 5, 19]
  rw [evK_succ]; simp +decide only [go_sem, ha]
  (repeat' apply And.intro) <;> first | refine callK_intro _ (known_at w0 B Rw L hT) ?_ | (intros; omega) | (intros; simp_all; done)
  rw [evK_succ]; simp +decide only [go_sem, ha]
  (repeat' apply And.intro) <;> first | refine hK5 _ _ ?_ | (intros; omega) | (intros; simp_all; done)
  clear hK5
  refine awp_cond _ (by simp +decide only [go_sem]) (by simp +decide only [go_sem]; rfl) (fun hb => ?_) (fun hb => ?_)
  · cases hb
  clear hb
  apply awp_skip; simp only [go_sem]
  (repeat' apply And.intro) <;> first | refine hK4 _ _ ?_ | (intros; omega) | (intros; simp_all; done)
  clear hK4
  apply awp_seq; intro K7 hK7
  apply awp_seq; intro K8 hK8
  apply awp_region 2 [0, 3, 4, 5, 22]
  rw [evK_succ]; simp +decide only [go_sem, ha]
  (repeat' apply And.intro) <;> first | refine callK_intro _ (refFirst_at w0 B Rw L c hcm) ?_ | (intros; omega) | (intros; simp_all; done)
  rw [hF]
  rw [evK_succ]; simp +decide only [go_sem, ha]
  (repeat' apply And.intro) <;> first | refine hK8 _ _ ?_ | (intros; omega) | (intros; simp_all; done)
  clear hK8
  refine awp_cond _ (by simp +decide only [go_sem]) (by simp +decide only [go_sem]; rfl) (fun hb => ?_) (fun hb => ?_)
  · try simp at hb
    have hv : Lib.validD c.data.toList = false := by rw [← hfn]; exact decide_eq_false (by omega)
    apply awp_seq; intro K9 hK9
    apply awp_region 1 [2]
    rw [evK_succ]; simp +decide only [go_sem, ha]
    (repeat' apply And.intro) <;> first | refine hK9 _ _ ?_ | (intros; omega) | (intros; simp_all; done)
    clear hK9
    apply awp_ret; simp +decide only [go_sem]
    refine fin_same hcalm (by simp only [go_sem]) ⟨?_, rfl⟩
    obtain ⟨_, rfl, rfl, rfl⟩ := hcf.resolve_left (fun h => by rw [h.1] at hv; cases hv)
    simp [sEq_refl]
  try simp at hb
  have hv : Lib.validD c.data.toList = true := by rw [← hfn]; exact decide_eq_true (by omega)
  obtain ⟨_, hA, hn, hea⟩ := hcf.resolve_right (fun h => by rw [h.1] at hv; cases hv)
  have hAz : A.size = (runesOf c.data.toList).length := by rw [hA, bytes_size, ascs_len _ _ (Nat.le_refl _)]
  apply awp_skip; simp only [go_sem]
  (repeat' apply And.intro) <;> first | refine hK7 _ _ ?_ | (intros; omega) | (intros; simp_all; done)
  clear hK7
  apply awp_seq; intro K10 hK10
  apply awp_region 2 [3, 4, 5, 6]
  rw [evK_succ]; simp +decide only [go_sem, ha]
  (repeat' apply And.intro) <;> first | refine callK_intro _ (refPoints_at w0 B Rw L c hcM) ?_ | (intros; omega) | (intros; simp_all; done)
  rw [evK_succ]; simp +decide only [go_sem, ha]
  (repeat' apply And.intro) <;> first | refine hK10 _ _ ?_ | (intros; omega) | (intros; simp_all; done)
  clear hK10
  apply awp_seq; intro K11 hK11
  apply awp_region 1 [3, 4, 5, 6, 7]
  rw [evK_succ]; simp +decide only [go_sem, ha]
  (repeat' apply And.intro) <;> first | refine hK11 _ _ ?_ | (intros; omega) | (intros; simp_all; done)
  clear hK11
  apply awp_seq; intro K12 hK12
  apply awp_seq; intro K13 hK13
  apply awp_region 1 [3, 4, 6, 7, 43]
  rw [evK_succ]; simp +decide only [go_sem, ha]
  (repeat' apply And.intro) <;> first | refine hK13 _ _ ?_ | (intros; omega) | (intros; simp_all; done)
  clear hK13
  refine awp_cond _ (by simp +decide only [go_sem]) (by simp +decide only [go_sem]; rfl) (fun hb => ?_) (fun hb => ?_)
  · exfalso
    simp [hea, hAz] at hb
  clear hb
  apply awp_skip; simp only [go_sem]
  (repeat' apply And.intro) <;> first | refine hK12 _ _ ?_ | (intros; omega) | (intros; simp_all; done)
  clear hK12
  apply awp_seq; intro K15 hK15
  apply awp_seq; intro K16 hK16
  apply awp_region 1 [3, 4, 6, 7, 8]
  rw [evK_succ]; simp +decide only [go_sem, ha]
  (repeat' apply And.intro) <;> first | refine hK16 _ _ ?_ | (intros; omega) | (intros; simp_all; done)
  clear hK16
  apply awp_block
  refine awp_loop (fun m e st => ∃ k : Nat, k ≤ (runesOf c.data.toList).length ∧ m = (runesOf c.data.toList).length - k ∧ e = [(3, true, .val (.string A)), (4, true, .val (.int .i64 n)), (6, true, .list (intsA (ptsI c.data.toList)) .none), (7, true, .val (.int .i64 (cnt (runesOf c.data.toList) k))), (8, true, .val (.int .i64 k))] ∧ st = ⟨B, Rw, L⟩) (runesOf c.data.toList).length ⟨0, by omega, rfl, rfl, rfl⟩ ?_
  rintro m e st ⟨k, hk, rfl, rfl, rfl⟩ KR hKR
  obtain ⟨x, hga⟩ : ∃ x, (intsA (ptsI c.data.toList)).getD k .junk = x := ⟨_, rfl⟩
  obtain ⟨y, hy⟩ : ∃ y, (A.get! k).toNat = y := ⟨_, rfl⟩
  have hy256 : y < 256 := by rw [← hy]; exact UInt8.toNat_lt _
  apply awp_seq; intro K17 hK17
  apply awp_seq; intro K18 hK18
  apply awp_region 1 [3, 4, 6, 7, 8, 47]
  rw [evK_succ]; simp +decide only [go_sem, ha, hga, hy]
  (repeat' apply And.intro) <;> first | refine hK18 _ _ ?_ | (intros; omega) | (intros; simp_all; done)
  clear hK18
  refine awp_cond _ (by simp +decide only [go_sem]) (by simp +decide only [go_sem]; rfl) (fun hb => ?_) (fun hb => ?_)
  rotate_left
  · try simp at hb
    apply awp_exit; simp +decide only [go_sem, ha, hga, hy]
    (repeat' apply And.intro) <;> first | refine hK15 _ _ ?_ | (intros; omega) | (intros; simp_all; done)
    clear hK15
    apply awp_seq; intro K19 hK19
    apply awp_region 1 [2]
    rw [evK_succ]; simp +decide only [go_sem, ha, hga, hy]
    (repeat' apply And.intro) <;> first | refine hK19 _ _ ?_ | (intros; omega) | (intros; simp_all; done)
    clear hK19
    apply awp_ret; simp +decide only [go_sem]
    refine fin_same hcalm (by simp only [go_sem]) ⟨?_, rfl⟩
    have e : k = (runesOf c.data.toList).length := by omega
    subst e
    simp [hn]
  try simp at hb
  have e1 := ints_get (a := ptsI c.data.toList) (k := k) (by omega)
  rw [hga] at e1
  subst e1
  obtain ⟨p, pn, hr1, hr2⟩ := ptsI_at (l := c.data.toList) (k := k) (by omega)
  rw [hr2] at hga
  have hy2 := ascs_get hr1
  rw [← hA, hy] at hy2
  have hcnt := cnt_succ _ k p pn hr1
  have hgp := (runes_good c.data.toList (p, pn) (List.mem_of_getElem? hr1)).1
  simp only [isPt, decide_eq_true_eq] at hgp
  have hcl := cnt_le (runesOf c.data.toList) k
  apply awp_skip; simp only [go_sem]
  (repeat' apply And.intro) <;> first | refine hK17 _ _ ?_ | (intros; omega) | (intros; simp_all; done)
  clear hK17
  apply awp_seq; intro K20 hK20
  apply awp_block
  apply awp_seq; intro K21 hK21
  apply awp_region 1 [3, 4, 6, 7, 8, 9]
  rw [evK_succ]; simp +decide only [go_sem, ha, hga, hy]
  (repeat' apply And.intro) <;> first | refine hK21 _ _ ?_ | (intros; omega) | (intros; simp_all; done)
  clear hK21
  apply awp_seq; intro K22 hK22
  apply awp_seq; intro K23 hK23
  apply awp_region 1 [3, 4, 6, 7, 8, 9, 55]
  rw [evK_succ]; simp +decide only [go_sem, ha, hga, hy]
  (repeat' apply And.intro) <;> first | refine hK23 _ _ ?_ | (intros; omega) | (intros; simp_all; done)
  clear hK23
  refine awp_cond _ (by simp +decide only [go_sem]) (by simp +decide only [go_sem]; rfl) (fun hb => ?_) (fun hb => ?_)
  -- JOIN
  · try simp at hb
    have hb5 := hb
    apply awp_seq; intro K24 hK24
    apply awp_region 1 [3, 4, 6, 7, 8, 9]
    rw [evK_succ]; simp +decide only [go_sem, ha, hga, hy]
    (repeat' apply And.intro) <;> first | refine hK24 _ _ ?_ | (intros; omega) | (intros; simp_all; done)
    clear hK24
    apply awp_region 1 [3, 4, 6, 7, 8, 9]
    rw [evK_succ]; simp +decide only [go_sem, ha, hga, hy]
    (repeat' apply And.intro) <;> first | refine hK22 _ _ ?_ | (intros; omega) | (intros; simp_all; done)
    clear hK22
    apply awp_seq; intro K25 hK25
    apply awp_region 1 [3, 4, 6, 7, 8, 63]
    rw [evK_succ]; simp +decide only [go_sem, ha, hga, hy]
    (repeat' apply And.intro) <;> first | refine hK25 _ _ ?_ | (intros; omega) | (intros; simp_all; done)
    clear hK25
    refine awp_cond _ (by simp +decide only [go_sem]) (by simp +decide only [go_sem]; rfl) (fun hb => ?_) (fun hb => ?_)
    · exfalso
      rw [asc, if_pos (by omega)] at hy2
      simp at hb
      omega
    clear hb
    apply awp_skip; simp only [go_sem]
    (repeat' apply And.intro) <;> first | refine hK20 _ _ ?_ | (intros; omega) | (intros; simp_all; done)
    clear hK20
    apply awp_region 1 [3, 4, 6, 7, 8]
    rw [evK_succ]; simp +decide only [go_sem, ha, hga, hy]
    (repeat' apply And.intro) <;> first | refine hKR ((runesOf c.data.toList).length - (k + 1)) _ _ ?_ ⟨k + 1, ?_, rfl, ?_, rfl⟩ | (intros; omega) | (intros; simp_all; done)
    · omega
    · omega
    · have e : ((cnt (runesOf c.data.toList) (k + 1) : Nat) : Int) = cnt (runesOf c.data.toList) k + 1 := by rw [hcnt, if_pos (by omega)]; omega
      simp [e]
  try simp at hb
  have hb5 := hb
  apply awp_skip; simp only [go_sem]
  (repeat' apply And.intro) <;> first | refine hK22 _ _ ?_ | (intros; omega) | (intros; simp_all; done)
  clear hK22
  apply awp_seq; intro K27 hK27
  apply awp_region 1 [3, 4, 6, 7, 8, 63]
  rw [evK_succ]; simp +decide only [go_sem, ha, hga, hy]
  (repeat' apply And.intro) <;> first | refine hK27 _ _ ?_ | (intros; omega) | (intros; simp_all; done)
  clear hK27
  refine awp_cond _ (by simp +decide only [go_sem]) (by simp +decide only [go_sem]; rfl) (fun hb => ?_) (fun hb => ?_)
  · exfalso
    rw [asc, if_neg (by omega)] at hy2
    simp at hb
    omega
  clear hb
  apply awp_skip; simp only [go_sem]
  (repeat' apply And.intro) <;> first | refine hK20 _ _ ?_ | (intros; omega) | (intros; simp_all; done)
  clear hK20
  apply awp_region 1 [3, 4, 6, 7, 8]
  rw [evK_succ]; simp +decide only [go_sem, ha, hga, hy]
  (repeat' apply And.intro) <;> first | refine hKR ((runesOf c.data.toList).length - (k + 1)) _ _ ?_ ⟨k + 1, ?_, rfl, ?_, rfl⟩ | (intros; omega) | (intros; simp_all; done)
  · omega
  · omega
  · have e : cnt (runesOf c.data.toList) (k + 1) = cnt (runesOf c.data.toList) k := by rw [hcnt, if_neg (by omega)]; rfl
    simp [e]
end Go.Proofs.YthlhbbejcmbpoaaDoor
