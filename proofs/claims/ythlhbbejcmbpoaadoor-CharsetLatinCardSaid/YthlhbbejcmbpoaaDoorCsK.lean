/-
  The reference's Points and IsName, the package's IsName, and the law's comparison of lists.
-/
import Derived.Test.YthlhbbejcmbpoaaDoorCsX
namespace Go.Proofs.YthlhbbejcmbpoaaDoor
open Go Go.RowKit Go.Ev
theorem sEq_refl (s : ByteArray) : sEq s s = true := by simp [sEq]
theorem fin_row {B : List (List AV)} {Rw r : List (Nat × Nat)} {L : List LoopA} {Post : AV → St → Prop} {v : AV} (hc : Ev.Calm B.length Rw.length L.length ⟨B, Rw, L⟩) (hu : Under B.length Rw.length L.length v) (hp : Post v ⟨B, Rw, L⟩) :
    finA ⟨B, Rw, L⟩ Post v ⟨B, Rw ++ r, L⟩ := by
  have := fin_own (b := []) (r := r) (l := []) hc hu hp
  rwa [List.append_nil, List.append_nil] at this
theorem pts_all (rs : List (Nat × Nat)) : pts rs rs.length = intsA ((rs.map (·.1)).map fun p : Nat => (p : Int)) := by
  simp [pts, intsA]
/-- The code points of the longest valid beginning, as integers. -/
def ptsI (l : List UInt8) : List Int := (ptsN l).map fun p : Nat => (p : Int)
theorem pts_ptsI (l : List UInt8) : pts (runesOf l) (runesOf l).length = intsA (ptsI l) := pts_all _
theorem drop_end {rs : List (Nat × Nat)} {i : Nat} (hi : i ≤ rs.length) (h : rs.drop i = []) : i = rs.length := by
  have := congrArg List.length h
  simp at this; omega
theorem drop_cons {rs : List (Nat × Nat)} {i : Nat} {p : Nat × Nat} {t : List (Nat × Nat)} (h : rs.drop i = p :: t) : rs[i]? = some p ∧ rs.drop (i + 1) = t ∧ i < rs.length := by
  have h1 : rs[i]? = some p := by
    have := congrArg (·[0]?) h
    simpa using this
  refine ⟨h1, ?_, (List.getElem?_eq_some_iff.1 h1).1⟩
  have : rs.drop (i + 1) = (rs.drop i).drop 1 := by rw [List.drop_drop]
  rw [this, h]; rfl
theorem under_pts (nb nr nl : Nat) (rs : List (Nat × Nat)) (i : Nat) : Under nb nr nl (.list (pts rs i) .none) := .list (fun x hx => by
  obtain ⟨p, _, rfl⟩ := List.mem_map.1 hx
  exact .val _) trivial

set_option maxRecDepth 100000 in
set_option maxHeartbeats 4000000 in
theorem refPoints_at (w0 : World) (B : List (List AV)) (Rw : List (Nat × Nat)) (L : List LoopA) (s : ByteArray) (hs : s.size ≤ 1048576) :
    ACalls Tryd.prog w0 21 [.val (.string s)] ⟨B, Rw, L⟩ fun r st => r = .list (intsA (ptsI s.data.toList)) .none ∧ st = ⟨B, Rw, L⟩ := by
  refine ACalls.fin (acalls_of (rs := [.tmp 2]) Tryd.func21 rfl rfl Tryd.ntmps21 (enters_some Tryd.func21 rfl (by decide)) (Nat.le_of_ble_eq_true rfl) ?_)
  intro M0 W0 hN hNR hNL hcalm hu
  have hsm : s.size ≤ maxLen := by unfold maxLen; omega
  have hsz : s.data.toList.length = s.size := by simp
  obtain ⟨rs, hrs⟩ : ∃ rs, runesOf s.data.toList = rs := ⟨_, rfl⟩
  have hres := pts_ptsI s.data.toList
  rw [hrs] at hres
  have hcount := runes_count s.data.toList
  rw [hrs, hsz] at hcount
  simp only [argsE]
  apply awp_seq; intro K1 hK1
  apply awp_region 1 [0]
  rw [evK_succ]; simp +decide only [go_sem]
  (repeat' apply And.intro) <;> first | refine hK1 _ _ ?_ | (intros; omega) | (intros; simp_all; done)
  clear hK1
  apply awp_seq; intro K2 hK2
  apply awp_region 1 [0, 3]
  rw [evK_succ]; simp +decide only [go_sem]
  (repeat' apply And.intro) <;> first | refine hK2 _ _ ?_ | (intros; omega) | (intros; simp_all; done)
  clear hK2
  apply awp_seq; intro K3 hK3
  apply awp_seq; intro K4 hK4
  apply awp_region 1 [0, 3, 4]
  rw [evK_succ]; simp +decide only [go_sem]
  (repeat' apply And.intro) <;> first | refine hK4 _ _ ?_ | (intros; omega) | (intros; simp_all; done)
  clear hK4
  apply awp_block
  refine awp_loop (fun m e st => ∃ (i k : Nat) (o : Ev.Own) (r : List (Nat × Nat)), i ≤ rs.length ∧ k ≤ s.size ∧ m = s.size - k ∧ runesOf (s.data.toList.drop k) = rs.drop i ∧ Grow Rw 1 (pts rs i) o r ∧
    e = [(0, true, .val (.string s)), (3, true, .list (pts rs i) o), (4, true, .val (.int .i64 k))] ∧ st = ⟨B, Rw ++ r, L⟩) s.size ⟨0, 0, .full, [], by omega, by omega, rfl, by simpa using hrs, .nil _ _, rfl, by simp⟩ ?_
  rintro m e st ⟨i, k, o, r, hi, hk, rfl, hdr, hgr, rfl, rfl⟩ KR hKR
  have hap := evAppend_grow (P := Tryd.prog) elT_23 (by rw [zeroT_3]; rfl) (by decide) hgr
  have hplen := pts_len rs i hi
  have hpc := pts_cells rs i
  apply awp_seq; intro K5 hK5
  apply awp_seq; intro K6 hK6
  apply awp_region 1 [0, 3, 4, 10]
  rw [evK_succ]; simp +decide only [go_sem, hap, hplen]
  (repeat' apply And.intro) <;> first | refine hK6 _ _ ?_ | (intros; omega) | (intros; simp_all; done)
  clear hK6
  refine awp_cond _ (by simp +decide only [go_sem]) (by simp +decide only [go_sem]; rfl) (fun hb => ?_) (fun hb => ?_)
  rotate_left
  · try simp at hb
    apply awp_exit; simp +decide only [go_sem, hap, hplen]
    (repeat' apply And.intro) <;> first | refine hK3 _ _ ?_ | (intros; omega) | (intros; simp_all; done)
    clear hK3
    apply awp_seq; intro K7 hK7
    apply awp_region 1 [2]
    rw [evK_succ]; simp +decide only [go_sem, hap, hplen]
    (repeat' apply And.intro) <;> first | refine hK7 _ _ ?_ | (intros; omega) | (intros; simp_all; done)
    clear hK7
    apply awp_ret; simp +decide only [go_sem]
    refine fin_at hcalm (by first | exact List.prefix_append _ _ | exact List.prefix_refl _) (by first | exact List.prefix_append _ _ | exact List.prefix_refl _) (by first | exact List.prefix_append _ _ | exact List.prefix_refl _) ?_ ⟨?_, rfl⟩
    · exact under_pts _ _ _ _ _
    · rw [← hres, drop_end hi (by rw [← hdr, List.drop_eq_nil_of_le (by omega), runesOf_nil])]
  try simp at hb
  have hne := drop_ne (l := s.data.toList) (k := k) (by omega)
  have hd2 := refDec_two hne
  have hle := Lib.decodeL_le _ hne
  have hdl : (s.data.toList.drop k).length = s.size - k := by rw [List.length_drop, hsz]
  rw [hdl] at hle
  apply awp_skip; simp only [go_sem]
  (repeat' apply And.intro) <;> first | refine hK5 _ _ ?_ | (intros; omega) | (intros; simp_all; done)
  clear hK5
  apply awp_block
  apply awp_seq; intro K8 hK8
  apply awp_region 2 [0, 3, 4, 5, 6]
  rw [evK_succ]; simp +decide only [go_sem, hap, hplen]
  (repeat' apply And.intro) <;> first | refine callK_intro _ (refDecode_at w0 B _ L _ (by simp [ByteArray.size_extract, maxLen]; omega)) ?_ | (intros; omega) | (intros; simp_all; done)
  simp only [refDecA, Lib.ext_list]
  obtain ⟨d, hd⟩ : ∃ d, refDec (s.data.toList.drop k) = d := ⟨_, rfl⟩
  rw [hd] at hd2 ⊢
  rw [evK_succ]; simp +decide only [go_sem, hap, hplen]
  (repeat' apply And.intro) <;> first | refine hK8 _ _ ?_ | (intros; omega) | (intros; simp_all; done)
  clear hK8
  apply awp_seq; intro K9 hK9
  apply awp_seq; intro K10 hK10
  apply awp_region 1 [0, 3, 4, 5, 6, 19]
  rw [evK_succ]; simp +decide only [go_sem, hap, hplen]
  (repeat' apply And.intro) <;> first | refine hK10 _ _ ?_ | (intros; omega) | (intros; simp_all; done)
  clear hK10
  refine awp_cond _ (by simp +decide only [go_sem]) (by simp +decide only [go_sem]; rfl) (fun hb => ?_) (fun hb => ?_)
  · try simp at hb
    apply awp_seq; intro K11 hK11
    apply awp_region 1 [2]
    rw [evK_succ]; simp +decide only [go_sem, hap, hplen]
    (repeat' apply And.intro) <;> first | refine hK11 _ _ ?_ | (intros; omega) | (intros; simp_all; done)
    clear hK11
    apply awp_ret; simp +decide only [go_sem]
    refine fin_at hcalm (by first | exact List.prefix_append _ _ | exact List.prefix_refl _) (by first | exact List.prefix_append _ _ | exact List.prefix_refl _) (by first | exact List.prefix_append _ _ | exact List.prefix_refl _) ?_ ⟨?_, rfl⟩
    · exact under_pts _ _ _ _ _
    · obtain ⟨_, hbad⟩ := hd2.resolve_right (fun h => by omega)
      rw [← hres, drop_end hi (by rw [← hdr, runesOf_bad hbad])]
  try simp at hb
  obtain ⟨hbad, hdec, h1, htt⟩ := hd2.resolve_left (fun h => hb h.1)
  have hst := runesOf_step hne hbad
  rw [← hdec] at hst hle
  rw [List.drop_drop, hdr] at hst
  obtain ⟨hri, hdr', hilt⟩ := drop_cons hst
  obtain ⟨p, n⟩ := d
  simp only at hb h1 hle
  have hsucc := pts_succ rs i p n hri
  have hpl1 := pts_len rs (i + 1) (by omega)
  apply awp_skip; simp only [go_sem]
  (repeat' apply And.intro) <;> first | refine hK9 _ _ ?_ | (intros; omega) | (intros; simp_all; done)
  clear hK9
  apply awp_seq; intro K12 hK12
  apply awp_region 1 [0, 3, 4, 6]
  rw [evK_succ]; simp +decide only [go_sem, hap, hplen]
  (repeat' apply And.intro) <;> first | refine hK12 _ _ ?_ | (intros; omega) | (intros; simp_all; done)
  clear hK12
  apply awp_region 1 [0, 3, 4]
  rw [evK_succ]; simp +decide only [go_sem, hap, hplen]
  (repeat' apply And.intro) <;> first | refine hKR (s.size - (k + n)) _ _ ?_ ⟨i + 1, k + n, .row Rw.length, [(i + 1, 1)], ?_, ?_, rfl, ?_, .more _ _ _ _ hpl1, ?_, ?_⟩ | (intros; omega) | (intros; simp_all; done)
  · omega
  · omega
  · omega
  · exact hdr'.symm
  · rw [hsucc]; simp
  · rfl

theorem ints_get {a : List Int} {k : Nat} (h : k < a.length) : (intsA a).getD k .junk = .val (.int .i64 a[k]) := by
  simp [intsA, List.getD, List.getElem?_eq_getElem h]
theorem take_more {a b : List Int} {k : Nat} (ha : k < a.length) (hb : k < b.length) (h : a.take k = b.take k) (e : a[k] = b[k]) : a.take (k + 1) = b.take (k + 1) := by
  rw [List.take_succ_eq_append_getElem ha, List.take_succ_eq_append_getElem hb, h, e]

set_option maxRecDepth 100000 in
set_option maxHeartbeats 4000000 in
theorem same_at (w0 : World) (B : List (List AV)) (Rw : List (Nat × Nat)) (L : List LoopA) (a b : List Int) (oa ob : Ev.Own) (hla : a.length ≤ 1048576) :
    ACalls Tryd.prog w0 33 [.list (intsA a) oa, .list (intsA b) ob] ⟨B, Rw, L⟩ fun r st => r = .val (.bool (decide (a = b))) ∧ st = ⟨B, Rw, L⟩ := by
  refine ACalls.fin (acalls_of (rs := [.tmp 4]) Tryd.func33 rfl rfl Tryd.ntmps33 (enters_some Tryd.func33 rfl (by decide)) (Nat.le_of_ble_eq_true rfl) ?_)
  intro M0 W0 hN hNR hNL hcalm hu
  have ha : (intsA a).length = a.length := by simp [intsA]
  have hbl : (intsA b).length = b.length := by simp [intsA]
  simp only [argsE]
  apply awp_seq; intro K1 hK1
  apply awp_region 1 [0, 1]
  rw [evK_succ]; simp +decide only [go_sem, ha, hbl]
  (repeat' apply And.intro) <;> first | refine hK1 _ _ ?_ | (intros; omega) | (intros; simp_all; done)
  clear hK1
  apply awp_seq; intro K2 hK2
  apply awp_seq; intro K3 hK3
  apply awp_region 1 [0, 1, 10]
  rw [evK_succ]; simp +decide only [go_sem, ha, hbl]
  (repeat' apply And.intro) <;> first | refine hK3 _ _ ?_ | (intros; omega) | (intros; simp_all; done)
  clear hK3
  refine awp_cond _ (by simp +decide only [go_sem]) (by simp +decide only [go_sem]; rfl) (fun hb => ?_) (fun hb => ?_)
  · try simp at hb
    apply awp_seq; intro K4 hK4
    apply awp_region 1 [4]
    rw [evK_succ]; simp +decide only [go_sem, ha, hbl]
    (repeat' apply And.intro) <;> first | refine hK4 _ _ ?_ | (intros; omega) | (intros; simp_all; done)
    clear hK4
    apply awp_ret; simp +decide only [go_sem]
    refine fin_same hcalm (by simp only [go_sem]) ⟨?_, rfl⟩
    rw [decide_eq_false (fun e => hb (by rw [e]))]
  try simp at hb
  have hlen : a.length = b.length := by omega
  apply awp_skip; simp only [go_sem]
  (repeat' apply And.intro) <;> first | refine hK2 _ _ ?_ | (intros; omega) | (intros; simp_all; done)
  clear hK2
  apply awp_seq; intro K5 hK5
  apply awp_seq; intro K6 hK6
  apply awp_region 1 [0, 1, 5]
  rw [evK_succ]; simp +decide only [go_sem, ha, hbl]
  (repeat' apply And.intro) <;> first | refine hK6 _ _ ?_ | (intros; omega) | (intros; simp_all; done)
  clear hK6
  apply awp_block
  refine awp_loop (fun m e st => ∃ k : Nat, k ≤ a.length ∧ m = a.length - k ∧ a.take k = b.take k ∧ e = [(0, true, .list (intsA a) oa), (1, true, .list (intsA b) ob), (5, true, .val (.int .i64 k))] ∧ st = ⟨B, Rw, L⟩) a.length ⟨0, by omega, rfl, rfl, rfl, rfl⟩ ?_
  rintro m e st ⟨k, hk, rfl, htk, rfl, rfl⟩ KR hKR
  obtain ⟨x, hga⟩ : ∃ x, (intsA a).getD k .junk = x := ⟨_, rfl⟩
  obtain ⟨y, hgb⟩ : ∃ y, (intsA b).getD k .junk = y := ⟨_, rfl⟩
  apply awp_seq; intro K7 hK7
  apply awp_seq; intro K8 hK8
  apply awp_region 1 [0, 1, 5, 14]
  rw [evK_succ]; simp +decide only [go_sem, ha, hbl, hga, hgb]
  (repeat' apply And.intro) <;> first | refine hK8 _ _ ?_ | (intros; omega) | (intros; simp_all; done)
  clear hK8
  refine awp_cond _ (by simp +decide only [go_sem]) (by simp +decide only [go_sem]; rfl) (fun hb => ?_) (fun hb => ?_)
  rotate_left
  · try simp at hb
    apply awp_exit; simp +decide only [go_sem, ha, hbl, hga, hgb]
    (repeat' apply And.intro) <;> first | refine hK5 _ _ ?_ | (intros; omega) | (intros; simp_all; done)
    clear hK5
    apply awp_seq; intro K9 hK9
    apply awp_region 1 [4]
    rw [evK_succ]; simp +decide only [go_sem, ha, hbl, hga, hgb]
    (repeat' apply And.intro) <;> first | refine hK9 _ _ ?_ | (intros; omega) | (intros; simp_all; done)
    clear hK9
    apply awp_ret; simp +decide only [go_sem]
    refine fin_same hcalm (by simp only [go_sem]) ⟨?_, rfl⟩
    rw [decide_eq_true]
    rw [List.take_of_length_le (by omega), List.take_of_length_le (by omega)] at htk
    exact htk
  try simp at hb
  have e1 := ints_get (a := a) (k := k) (by omega)
  rw [hga] at e1
  subst e1
  have e2 := ints_get (a := b) (k := k) (by omega)
  rw [hgb] at e2
  subst e2
  obtain ⟨p, hp⟩ : ∃ p, a[k]'(by omega) = p := ⟨_, rfl⟩
  obtain ⟨q, hq⟩ : ∃ q, b[k]'(by omega) = q := ⟨_, rfl⟩
  rw [hp] at hga
  rw [hq] at hgb
  apply awp_skip; simp only [go_sem]
  (repeat' apply And.intro) <;> first | refine hK7 _ _ ?_ | (intros; omega) | (intros; simp_all; done)
  clear hK7
  apply awp_seq; intro K10 hK10
  apply awp_block
  apply awp_seq; intro K11 hK11
  apply awp_draw mix 9 1 1 [0, 1, 5, 25] (by kernel_rfl)
  rw [evK_succ]; simp +decide only [go_sem, ha, hbl, hga, hgb]
  (repeat' with_reducible apply And.intro) <;> first | (rw [evK_succ]; simp +decide only [go_sem, ha, hbl, hga, hgb]) | (intros; omega) | (intros; simp_all; done)
  (repeat' apply And.intro) <;> first | refine hK11 _ _ ?_ | (intros; omega) | (intros; simp_all; done)
  clear hK11
  refine awp_cond _ (by simp +decide only [go_sem]) (by simp +decide only [go_sem]; rfl) (fun hb => ?_) (fun hb => ?_)
  · try simp at hb
    have hne := hb
    apply awp_seq; intro K12 hK12
    apply awp_region 1 [4]
    rw [evK_succ]; simp +decide only [go_sem, ha, hbl, hga, hgb]
    (repeat' apply And.intro) <;> first | refine hK12 _ _ ?_ | (intros; omega) | (intros; simp_all; done)
    clear hK12
    apply awp_ret; simp +decide only [go_sem]
    refine fin_same hcalm (by simp only [go_sem]) ⟨?_, rfl⟩
    rw [decide_eq_false]
    intro e
    subst e
    exact hne (hp.symm.trans hq)
  try simp at hb
  apply awp_skip; simp only [go_sem]
  (repeat' apply And.intro) <;> first | refine hK10 _ _ ?_ | (intros; omega) | (intros; simp_all; done)
  clear hK10
  apply awp_region 1 [0, 1, 5]
  rw [evK_succ]; simp +decide only [go_sem, ha, hbl, hga, hgb]
  (repeat' apply And.intro) <;> first | refine hKR (a.length - (k + 1)) _ _ ?_ ⟨k + 1, ?_, rfl, ?_, ?_, rfl⟩ | (intros; omega) | (intros; simp_all; done)
  · omega
  · omega
  · exact take_more (by omega) (by omega) htk (by rw [hp, hq]; simpa using hb)
  · simp

def letterB (c : Nat) : Bool := 97 ≤ c && c ≤ 122
/-- Is a byte one of a name, at place i. -/
def nameByte (i c : Nat) : Bool := letterB c || (i != 0 && (c == 95 || (48 ≤ c && c ≤ 57)))
def nameFrom (i : Nat) : List UInt8 → Bool
  | [] => true
  | c :: l => nameByte i c.toNat && nameFrom (i + 1) l
def nameB (l : List UInt8) : Bool := decide (1 ≤ l.length ∧ l.length ≤ 32) && nameFrom 0 l
theorem nameFrom_drop (s : ByteArray) (k : Nat) (h : k < s.size) : nameFrom k (s.data.toList.drop k) = (nameByte k (s.get! k).toNat && nameFrom (k + 1) (s.data.toList.drop (k + 1))) := by
  have h' : k < s.data.size := h
  have e : s.get! k = s.data.toList[k]'(by simpa using h) := by
    rw [Utf8W.get!_of_lt s k h]; rfl
  rw [List.drop_eq_getElem_cons (by simpa using h), e]; rfl
theorem nameByte_val (k c : Nat) : nameByte k c = decide ((97 ≤ (c : Int) ∧ (c : Int) ≤ 122) ∨ ((k : Int) ≠ 0 ∧ ((c : Int) = 95 ∨ (48 ≤ (c : Int) ∧ (c : Int) ≤ 57)))) := by
  rw [Bool.eq_iff_iff]
  simp [nameByte, letterB]
  omega

set_option maxRecDepth 100000 in
set_option maxHeartbeats 4000000 in
theorem IsName_at (w0 : World) (B : List (List AV)) (Rw : List (Nat × Nat)) (L : List LoopA) (s : ByteArray) (hs : s.size ≤ maxLen) :
    ACalls Tryd.prog w0 25 [.val (.string s)] ⟨B, Rw, L⟩ fun r st => r = .val (.bool (nameB s.data.toList)) ∧ st = ⟨B, Rw, L⟩ := by
  refine ACalls.fin (acalls_of (rs := [.tmp 2]) Tryd.func25 rfl rfl Tryd.ntmps25 (enters_some Tryd.func25 rfl (by decide)) (Nat.le_of_ble_eq_true rfl) ?_)
  intro M0 W0 hN hNR hNL hcalm hu
  unfold maxLen at hs
  have hsz : s.data.toList.length = s.size := by simp
  have hemp := sEq_nil s
  simp only [argsE]
  apply awp_seq; intro K1 hK1
  apply awp_region 1 [0]
  rw [evK_succ]; simp +decide only [go_sem]
  (repeat' apply And.intro) <;> first | refine hK1 _ _ ?_ | (intros; omega) | (intros; simp_all; done)
  clear hK1
  apply awp_seq; intro K2 hK2
  apply awp_seq; intro K3 hK3
  apply awp_region 1 [0, 13]
  rw [evK_succ]; simp +decide only [go_sem]
  (repeat' apply And.intro) <;> first | refine hK3 _ _ ?_ | (intros; omega) | (intros; simp_all; done)
  clear hK3
  refine awp_cond _ (by simp +decide only [go_sem]) (by simp +decide only [go_sem]; rfl) (fun hb => ?_) (fun hb => ?_)
  · try simp at hb
    apply awp_seq; intro K4 hK4
    apply awp_region 1 [2]
    rw [evK_succ]; simp +decide only [go_sem]
    (repeat' apply And.intro) <;> first | refine hK4 _ _ ?_ | (intros; omega) | (intros; simp_all; done)
    clear hK4
    apply awp_ret; simp +decide only [go_sem]
    refine fin_same hcalm (by simp only [go_sem]) ⟨?_, rfl⟩
    rw [nameB, decide_eq_false (by omega)]; rfl
  try simp at hb
  apply awp_skip; simp only [go_sem]
  (repeat' apply And.intro) <;> first | refine hK2 _ _ ?_ | (intros; omega) | (intros; simp_all; done)
  clear hK2
  apply awp_seq; intro K5 hK5
  apply awp_seq; intro K6 hK6
  apply awp_region 1 [0, 15, 16]
  rw [evK_succ]; simp +decide only [go_sem]
  (repeat' apply And.intro) <;> first | refine hK6 _ _ ?_ | (intros; omega) | (intros; simp_all; done)
  clear hK6
  apply awp_block
  refine awp_loop (fun m e st => ∃ k : Nat, k ≤ s.size ∧ m = s.size - k ∧ nameFrom 0 s.data.toList = nameFrom k (s.data.toList.drop k) ∧ e = [(0, true, .val (.string s)), (15, true, .val (.int .i64 s.size)), (16, true, .val (.int .i64 k))] ∧ st = ⟨B, Rw, L⟩) s.size ⟨0, by omega, rfl, rfl, rfl, rfl⟩ ?_
  rintro m e st ⟨k, hk, rfl, hnf, rfl, rfl⟩ KR hKR
  obtain ⟨c, hc⟩ : ∃ c, (s.get! k).toNat = c := ⟨_, rfl⟩
  apply awp_seq; intro K7 hK7
  apply awp_region 1 [0, 15, 16, 17]
  rw [evK_succ]; simp +decide only [go_sem, hc]
  (repeat' apply And.intro) <;> first | refine hK7 _ _ ?_ | (intros; omega) | (intros; simp_all; done)
  clear hK7
  apply awp_seq; intro K8 hK8
  refine awp_cond _ (by simp +decide only [go_sem]) (by simp +decide only [go_sem]; rfl) (fun hb => ?_) (fun hb => ?_)
  rotate_left
  · try simp at hb
    apply awp_exit; simp +decide only [go_sem, hc]
    (repeat' apply And.intro) <;> first | refine hK5 _ _ ?_ | (intros; omega) | (intros; simp_all; done)
    clear hK5
    apply awp_seq; intro K9 hK9
    apply awp_region 1 [2]
    rw [evK_succ]; simp +decide only [go_sem, hc]
    (repeat' apply And.intro) <;> first | refine hK9 _ _ ?_ | (intros; omega) | (intros; simp_all; done)
    clear hK9
    apply awp_ret; simp +decide only [go_sem]
    refine fin_same hcalm (by simp only [go_sem]) ⟨?_, rfl⟩
    have : k = s.size := by omega
    subst this
    rw [nameB, decide_eq_true (by omega), hnf, List.drop_eq_nil_of_le (by omega)]; rfl
  try simp at hb
  have hsp := nameFrom_drop s k (by omega)
  rw [nameByte_val] at hsp
  rw [hc] at hsp
  apply awp_skip; simp only [go_sem]
  (repeat' apply And.intro) <;> first | refine hK8 _ _ ?_ | (intros; omega) | (intros; simp_all; done)
  clear hK8
  apply awp_seq; intro K10 hK10
  apply awp_block
  apply awp_seq; intro K11 hK11
  apply awp_region 1 [0, 3, 15, 16]
  rw [evK_succ]; simp +decide only [go_sem, hc]
  (repeat' apply And.intro) <;> first | refine hK11 _ _ ?_ | (intros; omega) | (intros; simp_all; done)
  clear hK11
  apply awp_seq; intro K12 hK12
  apply awp_region 1 [0, 3, 4, 15, 16]
  rw [evK_succ]; simp +decide only [go_sem, hc]
  (repeat' apply And.intro) <;> first | refine hK12 _ _ ?_ | (intros; omega) | (intros; simp_all; done)
  clear hK12
  apply awp_seq; intro K13 hK13
  apply awp_region 1 [0, 3, 4, 5, 15, 16]
  rw [evK_succ]; simp +decide only [go_sem, hc]
  (repeat' apply And.intro) <;> first | refine hK13 _ _ ?_ | (intros; omega) | (intros; simp_all; done)
  clear hK13
  apply awp_seq; intro K14 hK14
  apply awp_region 1 [0, 15, 16, 45]
  rw [evK_succ]; simp +decide only [go_sem, hc]
  (repeat' apply And.intro) <;> first | refine hK14 _ _ ?_ | (intros; omega) | (intros; simp_all; done)
  clear hK14
  refine awp_cond _ (by simp +decide only [go_sem]) (by simp +decide only [go_sem]; rfl) (fun hb => ?_) (fun hb => ?_)
  · try simp at hb
    apply awp_seq; intro K15 hK15
    apply awp_region 1 [2]
    rw [evK_succ]; simp +decide only [go_sem, hc]
    (repeat' apply And.intro) <;> first | refine hK15 _ _ ?_ | (intros; omega) | (intros; simp_all; done)
    clear hK15
    apply awp_ret; simp +decide only [go_sem]
    refine fin_same hcalm (by simp only [go_sem]) ⟨?_, rfl⟩
    have hz : nameFrom k (List.drop k s.data.toList) = false := by rw [hsp, decide_eq_false (by omega)]; rfl
    rw [nameB, hnf, hz]; simp
  try simp at hb
  apply awp_skip; simp only [go_sem]
  (repeat' apply And.intro) <;> first | refine hK10 _ _ ?_ | (intros; omega) | (intros; simp_all; done)
  clear hK10
  apply awp_region 1 [0, 15, 16]
  rw [evK_succ]; simp +decide only [go_sem, hc]
  (repeat' apply And.intro) <;> first | refine hKR (s.size - (k + 1)) _ _ ?_ ⟨k + 1, ?_, rfl, ?_, ?_, rfl⟩ | (intros; omega) | (intros; simp_all; done)
  · omega
  · omega
  · rw [hnf, hsp, decide_eq_true (by omega)]; rfl
  · simp

set_option maxRecDepth 100000 in
set_option maxHeartbeats 4000000 in
theorem refIsName_at (w0 : World) (B : List (List AV)) (Rw : List (Nat × Nat)) (L : List LoopA) (s : ByteArray) (hs : s.size ≤ maxLen) :
    ACalls Tryd.prog w0 26 [.val (.string s)] ⟨B, Rw, L⟩ fun r st => r = .val (.bool (nameB s.data.toList)) ∧ st = ⟨B, Rw, L⟩ := by
  refine ACalls.fin (acalls_of (rs := [.tmp 2]) Tryd.func26 rfl rfl Tryd.ntmps26 (enters_some Tryd.func26 rfl (by decide)) (Nat.le_of_ble_eq_true rfl) ?_)
  intro M0 W0 hN hNR hNL hcalm hu
  unfold maxLen at hs
  have hsz : s.data.toList.length = s.size := by simp
  have hemp := sEq_nil s
  simp only [argsE]
  apply awp_seq; intro K1 hK1
  apply awp_region 1 [0]
  rw [evK_succ]; simp +decide only [go_sem]
  (repeat' apply And.intro) <;> first | refine hK1 _ _ ?_ | (intros; omega) | (intros; simp_all; done)
  clear hK1
  apply awp_seq; intro K2 hK2
  apply awp_seq; intro K3 hK3
  apply awp_region 1 [0, 11]
  rw [evK_succ]; simp +decide only [go_sem]
  (repeat' apply And.intro) <;> first | refine hK3 _ _ ?_ | (intros; omega) | (intros; simp_all; done)
  clear hK3
  refine awp_cond _ (by simp +decide only [go_sem]) (by simp +decide only [go_sem]; rfl) (fun hb => ?_) (fun hb => ?_)
  · try simp at hb
    apply awp_seq; intro K4 hK4
    apply awp_region 1 [2]
    rw [evK_succ]; simp +decide only [go_sem]
    (repeat' apply And.intro) <;> first | refine hK4 _ _ ?_ | (intros; omega) | (intros; simp_all; done)
    clear hK4
    apply awp_ret; simp +decide only [go_sem]
    refine fin_same hcalm (by simp only [go_sem]) ⟨?_, rfl⟩
    have hz : ¬ (1 ≤ s.data.toList.length ∧ s.data.toList.length ≤ 32) := by
      rcases hb with hb | hb
      · rw [hemp] at hb; simp at hb; rw [hb]; simp
      · omega
    rw [nameB, decide_eq_false hz]; rfl
  try simp at hb
  obtain ⟨hb1, hb2⟩ := hb
  rw [hemp] at hb1
  have hpos : 1 ≤ s.data.toList.length := List.length_pos_iff.2 (of_decide_eq_false hb1)
  apply awp_skip; simp only [go_sem]
  (repeat' apply And.intro) <;> first | refine hK2 _ _ ?_ | (intros; omega) | (intros; simp_all; done)
  clear hK2
  apply awp_seq; intro K5 hK5
  apply awp_seq; intro K6 hK6
  apply awp_region 1 [0, 3]
  rw [evK_succ]; simp +decide only [go_sem]
  (repeat' apply And.intro) <;> first | refine hK6 _ _ ?_ | (intros; omega) | (intros; simp_all; done)
  clear hK6
  apply awp_block
  refine awp_loop (fun m e st => ∃ k : Nat, k ≤ s.size ∧ m = s.size - k ∧ nameFrom 0 s.data.toList = nameFrom k (s.data.toList.drop k) ∧ e = [(0, true, .val (.string s)), (3, true, .val (.int .i64 k))] ∧ st = ⟨B, Rw, L⟩) s.size ⟨0, by omega, rfl, rfl, rfl, rfl⟩ ?_
  rintro m e st ⟨k, hk, rfl, hnf, rfl, rfl⟩ KR hKR
  obtain ⟨c, hc⟩ : ∃ c, (s.get! k).toNat = c := ⟨_, rfl⟩
  apply awp_seq; intro K7 hK7
  apply awp_seq; intro K8 hK8
  apply awp_region 1 [0, 3, 15]
  rw [evK_succ]; simp +decide only [go_sem, hc]
  (repeat' apply And.intro) <;> first | refine hK8 _ _ ?_ | (intros; omega) | (intros; simp_all; done)
  clear hK8
  refine awp_cond _ (by simp +decide only [go_sem]) (by simp +decide only [go_sem]; rfl) (fun hb => ?_) (fun hb => ?_)
  rotate_left
  · try simp at hb
    apply awp_exit; simp +decide only [go_sem, hc]
    (repeat' apply And.intro) <;> first | refine hK5 _ _ ?_ | (intros; omega) | (intros; simp_all; done)
    clear hK5
    apply awp_seq; intro K9 hK9
    apply awp_region 1 [2]
    rw [evK_succ]; simp +decide only [go_sem, hc]
    (repeat' apply And.intro) <;> first | refine hK9 _ _ ?_ | (intros; omega) | (intros; simp_all; done)
    clear hK9
    apply awp_ret; simp +decide only [go_sem]
    refine fin_same hcalm (by simp only [go_sem]) ⟨?_, rfl⟩
    have : k = s.size := by omega
    subst this
    rw [nameB, decide_eq_true (by omega), hnf, List.drop_eq_nil_of_le (by omega)]; rfl
  try simp at hb
  have hsp := nameFrom_drop s k (by omega)
  rw [nameByte_val] at hsp
  rw [hc] at hsp
  apply awp_skip; simp only [go_sem]
  (repeat' apply And.intro) <;> first | refine hK7 _ _ ?_ | (intros; omega) | (intros; simp_all; done)
  clear hK7
  apply awp_seq; intro K10 hK10
  apply awp_block
  apply awp_seq; intro K11 hK11
  apply awp_region 1 [0, 3, 4]
  rw [evK_succ]; simp +decide only [go_sem, hc]
  (repeat' apply And.intro) <;> first | refine hK11 _ _ ?_ | (intros; omega) | (intros; simp_all; done)
  clear hK11
  apply awp_seq; intro K12 hK12
  apply awp_region 1 [0, 3, 51]
  rw [evK_succ]; simp +decide only [go_sem, hc]
  (repeat' apply And.intro) <;> first | refine hK12 _ _ ?_ | (intros; omega) | (intros; simp_all; done)
  clear hK12
  refine awp_cond _ (by simp +decide only [go_sem]) (by simp +decide only [go_sem]; rfl) (fun hb => ?_) (fun hb => ?_)
  · try simp at hb
    apply awp_seq; intro K13 hK13
    apply awp_region 1 [2]
    rw [evK_succ]; simp +decide only [go_sem, hc]
    (repeat' apply And.intro) <;> first | refine hK13 _ _ ?_ | (intros; omega) | (intros; simp_all; done)
    clear hK13
    apply awp_ret; simp +decide only [go_sem]
    refine fin_same hcalm (by simp only [go_sem]) ⟨?_, rfl⟩
    have hz : nameFrom k (List.drop k s.data.toList) = false := by rw [hsp, decide_eq_false (by omega)]; rfl
    rw [nameB, hnf, hz]; simp
  try simp at hb
  apply awp_skip; simp only [go_sem]
  (repeat' apply And.intro) <;> first | refine hK10 _ _ ?_ | (intros; omega) | (intros; simp_all; done)
  clear hK10
  apply awp_region 1 [0, 3]
  rw [evK_succ]; simp +decide only [go_sem, hc]
  (repeat' apply And.intro) <;> first | refine hKR (s.size - (k + 1)) _ _ ?_ ⟨k + 1, ?_, rfl, ?_, ?_, rfl⟩ | (intros; omega) | (intros; simp_all; done)
  · omega
  · omega
  · rw [hnf, hsp, decide_eq_true (by omega)]; rfl
  · simp

end Go.Proofs.YthlhbbejcmbpoaaDoor
