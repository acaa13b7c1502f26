/-
  ToASCII, ToLatin, Cut.
-/
import Derived.Test.YthlhbbejcmbpoaaDoorCsK
namespace Go.Proofs.YthlhbbejcmbpoaaDoor
open Go Go.RowKit Go.Ev
theorem _root_.Go.Ev.Grow.len {Rw r : List (Nat × Nat)} {sz : Nat} {xs : List AV} {o : Ev.Own} (h : Grow Rw sz xs o r) : r.length ≤ 1 := by
  rcases h with ⟨_, _, rfl⟩ | ⟨_, rfl⟩ <;> simp
theorem zeroT_5_some : (zeroT Tryd.prog 5).isSome = true := by rw [zeroT_5]; rfl
/-- The byte that stands for a code point in ASCII. -/
def asc (p : Nat) : Nat := if 128 ≤ p then 63 else p
def ascs (rs : List (Nat × Nat)) (i : Nat) : List AV := (rs.take i).map fun p => .val (.int .u8 (asc p.1))
def cnt (rs : List (Nat × Nat)) (i : Nat) : Nat := ((rs.take i).filter fun p => decide (128 ≤ p.1)).length
theorem ascs_len (rs : List (Nat × Nat)) (i : Nat) (h : i ≤ rs.length) : (ascs rs i).length = i := by simp [ascs]; omega
theorem ascs_cells (rs : List (Nat × Nat)) (i : Nat) : ∀ y ∈ ascs rs i, y.cells.length = 1 := by
  intro y hy
  obtain ⟨p, _, rfl⟩ := List.mem_map.1 hy
  rfl
theorem ascs_byte (rs : List (Nat × Nat)) (i : Nat) : ∀ y ∈ ascs rs i, byteOk y := by
  intro y hy
  obtain ⟨p, _, rfl⟩ := List.mem_map.1 hy
  show 0 ≤ ((asc p.1 : Nat) : Int) ∧ ((asc p.1 : Nat) : Int) ≤ 255
  unfold asc; split <;> omega
theorem ascs_succ (rs : List (Nat × Nat)) (i p n : Nat) (h : rs[i]? = some (p, n)) : ascs rs (i + 1) = ascs rs i ++ [.val (.int .u8 (asc p))] := by
  simp [ascs, List.take_add_one, h]
theorem cnt_succ (rs : List (Nat × Nat)) (i p n : Nat) (h : rs[i]? = some (p, n)) : cnt rs (i + 1) = cnt rs i + if 128 ≤ p then 1 else 0 := by
  unfold cnt
  rw [List.take_add_one, h, List.filter_append, List.length_append]
  by_cases c : 128 ≤ p <;> simp [c]
theorem cnt_le (rs : List (Nat × Nat)) (i : Nat) : cnt rs i ≤ i := by
  unfold cnt
  have h1 := List.length_filter_le (fun p : Nat × Nat => decide (128 ≤ p.1)) (rs.take i)
  have h2 := List.length_take_le i rs
  omega
/-- What ToASCII answers. -/
def asciiA (s : ByteArray) : AV := if Lib.validD s.data.toList = true then .tup [.val (.string (bytesOfA (ascs (runesOf s.data.toList) (runesOf s.data.toList).length))), .val (.int .i64 (cnt (runesOf s.data.toList) (runesOf s.data.toList).length)), .val (.int .i64 0)]
  else .tup [.val (.string ⟨#[]⟩), .val (.int .i64 0), .val (.int .i64 16)]

set_option maxHeartbeats 4000000 in
theorem ToASCII_at (w0 : World) (B : List (List AV)) (Rw : List (Nat × Nat)) (L : List LoopA) (hT : Lib.Utf8Tabs 0 1 w0) (s : ByteArray) (hs : s.size ≤ 1048576) :
    ACalls Tryd.prog w0 19 [.val (.string s)] ⟨B, Rw, L⟩ fun r st => r = asciiA s ∧ st = ⟨B, Rw, L⟩ := by
  refine ACalls.fin (acalls_of (rs := [.tmp 2, .cell 3 3, .tmp 4]) Tryd.func19 rfl rfl Tryd.ntmps19 (enters_some Tryd.func19 rfl (by decide)) (Nat.le_of_ble_eq_true rfl) ?_)
  intro M0 W0 hN hNR hNL hcalm hu
  have hsm : s.size ≤ maxLen := by unfold maxLen; omega
  simp only [argsE]
  apply awp_seq; intro K1 hK1
  apply awp_region 1 [0, 3]
  rw [evK_succ]; simp +decide only [go_sem]
  (repeat' apply And.intro) <;> first | refine hK1 _ _ ?_ | (intros; omega) | (intros; simp_all; done)
  clear hK1
  apply awp_seq; intro K2 hK2
  apply awp_seq; intro K3 hK3
  apply awp_region 2 [0, 3, 10]
  rw [evK_succ]; simp +decide only [go_sem]
  (repeat' apply And.intro) <;> first | refine callK_intro _ (Valid_at w0 _ Rw L hT s hsm) ?_ | (intros; omega) | (intros; simp_all; done)
  rw [evK_succ]; simp +decide only [go_sem]
  (repeat' apply And.intro) <;> first | refine hK3 _ _ ?_ | (intros; omega) | (intros; simp_all; done)
  clear hK3
  refine awp_cond _ (by simp +decide only [go_sem]) (by simp +decide only [go_sem]; rfl) (fun hb => ?_) (fun hb => ?_)
  · try simp at hb
    apply awp_seq; intro K4 hK4
    apply awp_region 1 [2, 3, 4]
    rw [evK_succ]; simp +decide only [go_sem]
    (repeat' apply And.intro) <;> first | refine hK4 _ _ ?_ | (intros; omega) | (intros; simp_all; done)
    clear hK4
    apply awp_ret; simp +decide only [go_sem]
    refine fin_at hcalm (by first | exact List.prefix_append _ _ | exact List.prefix_refl _) (by first | exact List.prefix_append _ _ | exact List.prefix_refl _) (by first | exact List.prefix_append _ _ | exact List.prefix_refl _) (by simp only [go_sem]) ⟨?_, rfl⟩
    rw [asciiA, if_neg (by simp [hb])]
  try simp at hb
  apply awp_skip; simp only [go_sem]
  (repeat' apply And.intro) <;> first | refine hK2 _ _ ?_ | (intros; omega) | (intros; simp_all; done)
  clear hK2
  apply awp_seq; intro K5 hK5
  apply awp_region 1 [0, 3, 5]
  rw [evK_succ]; simp +decide only [go_sem]
  (repeat' apply And.intro) <;> first | refine hK5 _ _ ?_ | (intros; omega) | (intros; simp_all; done)
  clear hK5
  apply awp_seq; intro K6 hK6
  apply awp_seq; intro K7 hK7
  apply awp_region 2 [3, 5, 12]
  rw [evK_succ]; simp +decide only [go_sem]
  (repeat' apply And.intro) <;> first | refine callK_post _ (runes_at w0 _ Rw L s) ?_ | (intros; omega) | (intros; simp_all; done)
  rintro v st ⟨rfl, rfl⟩
  rw [evK_succ]; simp +decide only [go_sem]
  (repeat' apply And.intro) <;> first | refine hK7 _ _ ?_ | (intros; omega) | (intros; simp_all; done)
  clear hK7
  apply awp_block
  obtain ⟨rs, hrs⟩ : ∃ rs, runesOf s.data.toList = rs := ⟨_, rfl⟩
  have hcount := runes_count s.data.toList
  have htl := tot_le s.data.toList
  rw [hrs] at hcount htl
  have hsz : s.data.toList.length = s.size := by simp
  rw [hsz] at hcount htl
  have hit := runes_iter w0 hT s hsm (B.length + 2)
  rw [hrs] at hit
  refine awp_range (items 0 rs) (fun st => st.boxes[B.length + 2]? = some [.val (.string s)])
    (fun i st => ∃ (o : Ev.Own) (r : List (Nat × Nat)), Grow Rw 1 (ascs rs i) o r ∧ st = ⟨B ++ [[.val (.int .i64 (cnt rs i))], [.list (ascs rs i) o], [.val (.string s)]], Rw ++ r, L⟩) (fun _ _ => False)
    (by simp +decide only [go_sem]) (by simp +decide only [go_sem]) hit (fun x hx => items_two 0 rs x hx) (by decide) ?_ ⟨.full, [], .nil _ _, by simp [cnt, ascs]⟩ (fun _ _ h => h.elim) ?_ ?_ (fun _ _ _ h => h.elim)
  · rintro i st la ⟨o, r, _, rfl⟩ _ _; simp [St.push]
  · rintro i s1 ⟨XB, XR, XL⟩ x M1 W1 l la la' hX hI hlike hloops hx K hK
    obtain ⟨p, n, k', hrsi, rfl, hk'⟩ := items_inv 0 rs i x hx
    have hi : i < rs.length := (List.getElem?_eq_some_iff.1 hrsi).1
    have hgd := runes_good s.data.toList (p, n) (by rw [hrs]; exact List.mem_of_getElem? hrsi)
    have hgood := hgd.1
    have hrl := hgd.2.1
    simp only [isPt, decide_eq_true_eq] at hgood
    (try simp only at hX hrl)
    subst hX
    have htk := tot_take_succ rs i p n hrsi
    have htk1 := tot_take_le rs (i + 1)
    obtain ⟨o, r, hgr, rfl⟩ := hI
    have hap := evAppend_grow (P := Tryd.prog) elT_55 zeroT_5_some (by decide) hgr
    have hplen := ascs_len rs i (by omega)
    have hpc := ascs_cells rs i
    have hsucc := ascs_succ rs i p n hrsi
    have hpl1 := ascs_len rs (i + 1) (by omega)
    have hcnt := cnt_succ rs i p n hrsi
    have hcl := cnt_le rs i
    apply awp_region 1 [3, 5, 7]
    rw [evK_succ]; simp +decide only [go_sem, hap, hplen]
    (repeat' apply And.intro) <;> first | refine hK _ _ (by simp [St.ext, St.push]) (fun KQ hKQ => ?_) | (intros; omega) | (intros; simp_all; done)
    clear hK
    apply awp_block
    apply awp_seq; intro K8 hK8
    apply awp_seq; intro K9 hK9
    apply awp_region 1 [3, 5, 7, 16]
    rw [evK_succ]; simp +decide only [go_sem, hap, hplen]
    (repeat' apply And.intro) <;> first | refine hK9 _ _ ?_ | (intros; omega) | (intros; simp_all; done)
    clear hK9
    refine awp_cond _ (by simp +decide only [go_sem]) (by simp +decide only [go_sem]; rfl) (fun hb => ?_) (fun hb => ?_)
    -- JOIN
    · try simp at hb
      apply awp_seq; intro K10 hK10
      apply awp_region 1 [3, 5, 7]
      rw [evK_succ]; simp +decide only [go_sem, hap, hplen]
      (repeat' apply And.intro) <;> first | refine hK10 _ _ ?_ | (intros; omega) | (intros; simp_all; done)
      clear hK10
      apply awp_region 1 [3, 5, 7]
      rw [evK_succ]; simp +decide only [go_sem, hap, hplen]
      (repeat' apply And.intro) <;> first | refine hK8 _ _ ?_ | (intros; omega) | (intros; simp_all; done)
      clear hK8
      apply awp_region 1 [3, 5]
      rw [evK_succ]; simp +decide only [go_sem, hap, hplen]
      (repeat' apply And.intro) <;> first | refine hKQ _ _ _ ?_ | (intros; omega) | (intros; simp_all; done)
      refine ⟨⟨B ++ [[.val (.int .i64 (cnt rs (i + 1)))], [.list (ascs rs (i + 1)) (.row Rw.length)], [.val (.string s)]], Rw ++ [(i + 1, 1)], L⟩, [], ?_, ⟨by simp, by simpa using hgr.len, rfl⟩, rfl, ⟨_, _, .more _ _ _ _ hpl1, rfl⟩, .inl rfl⟩
      have hb' : 128 ≤ p := by omega
      rw [hcnt, hsucc, if_pos hb']
      simp [asc, hb']
    try simp at hb
    apply awp_skip; simp only [go_sem]
    (repeat' apply And.intro) <;> first | refine hK8 _ _ ?_ | (intros; omega) | (intros; simp_all; done)
    clear hK8
    apply awp_region 1 [3, 5]
    rw [evK_succ]; simp +decide only [go_sem, hap, hplen]
    (repeat' apply And.intro) <;> first | refine hKQ _ _ _ ?_ | (intros; omega) | (intros; simp_all; done)
    refine ⟨⟨B ++ [[.val (.int .i64 (cnt rs (i + 1)))], [.list (ascs rs (i + 1)) (.row Rw.length)], [.val (.string s)]], Rw ++ [(i + 1, 1)], L⟩, [], ?_, ⟨by simp, by simpa using hgr.len, rfl⟩, rfl, ⟨_, _, .more _ _ _ _ hpl1, rfl⟩, .inl rfl⟩
    have hb' : ¬ 128 ≤ p := by omega
    rw [hcnt, hsucc, if_neg hb']
    simp [asc, hb']
  · rintro st la ⟨o, r, _, rfl⟩ _ _
    rw [items_len]
    have hbo := ascs_byte rs rs.length
    have hal := ascs_len rs rs.length (Nat.le_refl _)
    simp +decide only [go_sem]
    (repeat' apply And.intro) <;> first | refine hK6 _ _ ?_ | (intros; omega) | (intros; simp_all; done)
    clear hK6
    apply awp_seq; intro K11 hK11
    apply awp_draw mix 4 1 1 [2, 3, 4] (by kernel_rfl)
    rw [evK_succ]; simp +decide only [go_sem]
    (repeat' with_reducible apply And.intro) <;> first | (rw [evK_succ]; simp +decide only [go_sem]) | (intros; omega) | (intros; simp_all; done)
    (repeat' apply And.intro) <;> first | refine hK11 _ _ ?_ | (intros; omega) | (intros; simp_all; done)
    clear hK11
    apply awp_ret; simp +decide only [go_sem]
    refine fin_at hcalm (by first | exact List.prefix_append _ _ | exact List.prefix_refl _) (by first | exact List.prefix_append _ _ | exact List.prefix_refl _) (by first | exact List.prefix_append _ _ | exact List.prefix_refl _) (by simp only [go_sem]) ⟨?_, rfl⟩
    rw [asciiA, if_pos hb, hrs]

def lats (rs : List (Nat × Nat)) (i : Nat) : List AV := (rs.take i).map fun p => .val (.int .u8 p.1)
theorem lats_len (rs : List (Nat × Nat)) (i : Nat) (h : i ≤ rs.length) : (lats rs i).length = i := by simp [lats]; omega
theorem lats_cells (rs : List (Nat × Nat)) (i : Nat) : ∀ y ∈ lats rs i, y.cells.length = 1 := by
  intro y hy
  obtain ⟨p, _, rfl⟩ := List.mem_map.1 hy
  rfl
theorem lats_succ (rs : List (Nat × Nat)) (i p n : Nat) (h : rs[i]? = some (p, n)) : lats rs (i + 1) = lats rs i ++ [.val (.int .u8 p)] := by
  simp [lats, List.take_add_one, h]
def isLat (rs : List (Nat × Nat)) (i : Nat) : Prop := ∀ p ∈ rs.take i, p.1 ≤ 255
theorem isLat_succ (rs : List (Nat × Nat)) (i p n : Nat) (h : rs[i]? = some (p, n)) (h0 : isLat rs i) (hp : p ≤ 255) : isLat rs (i + 1) := by
  intro q hq
  rw [List.take_add_one, h, List.mem_append] at hq
  rcases hq with hq | hq
  · exact h0 q hq
  · simp at hq; subst hq; exact hp
theorem lats_byte (rs : List (Nat × Nat)) (i : Nat) (h : isLat rs i) : ∀ y ∈ lats rs i, byteOk y := by
  intro y hy
  obtain ⟨p, hp, rfl⟩ := List.mem_map.1 hy
  have := h p hp
  show 0 ≤ ((p.1 : Nat) : Int) ∧ ((p.1 : Nat) : Int) ≤ 255
  omega
open Classical in
/-- What ToLatin answers. -/
noncomputable def latinA (s : ByteArray) : AV := if Lib.validD s.data.toList = true then (if ∀ p ∈ runesOf s.data.toList, p.1 ≤ 255 then .tup [.val (.string (bytesOfA (lats (runesOf s.data.toList) (runesOf s.data.toList).length))), .val (.int .i64 0)] else .tup [.val (.string ⟨#[]⟩), .val (.int .i64 6)])
  else .tup [.val (.string ⟨#[]⟩), .val (.int .i64 16)]

set_option maxHeartbeats 4000000 in
theorem ToLatin_at (w0 : World) (B : List (List AV)) (Rw : List (Nat × Nat)) (L : List LoopA) (hT : Lib.Utf8Tabs 0 1 w0) (s : ByteArray) (hs : s.size ≤ 1048576) :
    ACalls Tryd.prog w0 34 [.val (.string s)] ⟨B, Rw, L⟩ fun r st => r = latinA s ∧ st = ⟨B, Rw, L⟩ := by
  refine ACalls.fin (acalls_of (rs := [.cell 2 9, .cell 3 24]) Tryd.func34 rfl rfl Tryd.ntmps34 (enters_some Tryd.func34 rfl (by decide)) (Nat.le_of_ble_eq_true rfl) ?_)
  intro M0 W0 hN hNR hNL hcalm hu
  have hsm : s.size ≤ maxLen := by unfold maxLen; omega
  simp only [argsE]
  apply awp_seq; intro K1 hK1
  apply awp_region 1 [0, 2, 3]
  rw [evK_succ]; simp +decide only [go_sem]
  (repeat' apply And.intro) <;> first | refine hK1 _ _ ?_ | (intros; omega) | (intros; simp_all; done)
  clear hK1
  apply awp_seq; intro K2 hK2
  apply awp_seq; intro K3 hK3
  apply awp_region 2 [0, 2, 3, 9]
  rw [evK_succ]; simp +decide only [go_sem]
  (repeat' apply And.intro) <;> first | refine callK_intro _ (Valid_at w0 _ Rw L hT s hsm) ?_ | (intros; omega) | (intros; simp_all; done)
  rw [evK_succ]; simp +decide only [go_sem]
  (repeat' apply And.intro) <;> first | refine hK3 _ _ ?_ | (intros; omega) | (intros; simp_all; done)
  clear hK3
  refine awp_cond _ (by simp +decide only [go_sem]) (by simp +decide only [go_sem]; rfl) (fun hb => ?_) (fun hb => ?_)
  · try simp at hb
    apply awp_seq; intro K4 hK4
    apply awp_region 1 [2, 3]
    rw [evK_succ]; simp +decide only [go_sem]
    (repeat' apply And.intro) <;> first | refine hK4 _ _ ?_ | (intros; omega) | (intros; simp_all; done)
    clear hK4
    apply awp_ret; simp +decide only [go_sem]
    refine fin_at hcalm (by first | exact List.prefix_append _ _ | exact List.prefix_refl _) (by first | exact List.prefix_append _ _ | exact List.prefix_refl _) (by first | exact List.prefix_append _ _ | exact List.prefix_refl _) (by simp only [go_sem]) ⟨?_, rfl⟩
    rw [latinA, if_neg (by simp [hb])]
  try simp at hb
  have hb0 := hb
  apply awp_skip; simp only [go_sem]
  (repeat' apply And.intro) <;> first | refine hK2 _ _ ?_ | (intros; omega) | (intros; simp_all; done)
  clear hK2
  apply awp_seq; intro K5 hK5
  apply awp_region 1 [0, 2, 3, 4]
  rw [evK_succ]; simp +decide only [go_sem]
  (repeat' apply And.intro) <;> first | refine hK5 _ _ ?_ | (intros; omega) | (intros; simp_all; done)
  clear hK5
  apply awp_seq; intro K6 hK6
  apply awp_seq; intro K7 hK7
  apply awp_region 2 [2, 3, 4, 11]
  rw [evK_succ]; simp +decide only [go_sem]
  (repeat' apply And.intro) <;> first | refine callK_post _ (runes_at w0 _ Rw L s) ?_ | (intros; omega) | (intros; simp_all; done)
  rintro v st ⟨rfl, rfl⟩
  rw [evK_succ]; simp +decide only [go_sem]
  (repeat' apply And.intro) <;> first | refine hK7 _ _ ?_ | (intros; omega) | (intros; simp_all; done)
  clear hK7
  apply awp_block
  obtain ⟨rs, hrs⟩ : ∃ rs, runesOf s.data.toList = rs := ⟨_, rfl⟩
  have hcount := runes_count s.data.toList
  have htl := tot_le s.data.toList
  rw [hrs] at hcount htl
  have hsz : s.data.toList.length = s.size := by simp
  rw [hsz] at hcount htl
  have hit := runes_iter w0 hT s hsm (B.length + 3)
  rw [hrs] at hit
  refine awp_range (items 0 rs) (fun st => st.boxes[B.length + 3]? = some [.val (.string s)])
    (fun i st => isLat rs i ∧ ∃ (o : Ev.Own) (r : List (Nat × Nat)), Grow Rw 1 (lats rs i) o r ∧ st = ⟨B ++ [[.val (.string ⟨#[]⟩)], [.val (.int .i64 0)], [.list (lats rs i) o], [.val (.string s)]], Rw ++ r, L⟩) (fun ex st => ex = .ret ∧ (¬ ∀ p ∈ rs, p.1 ≤ 255) ∧ ∃ bs r, st = ⟨B ++ [[.val (.string ⟨#[]⟩)], [.val (.int .i64 6)]] ++ bs, Rw ++ r, L⟩)
    (by simp +decide only [go_sem]) (by simp +decide only [go_sem]) hit (fun x hx => items_two 0 rs x hx) (by decide) ?_ ⟨by simp [isLat], .full, [], .nil _ _, by simp [lats]⟩ (fun _ _ h => .inl h.1) ?_ ?_ ?_
  · rintro i st la ⟨_, o, r, _, rfl⟩ _ _; simp [St.push]
  · rintro i s1 ⟨XB, XR, XL⟩ x M1 W1 l la la' hX hI hlike hloops hx K hK
    obtain ⟨p, n, k', hrsi, rfl, hk'⟩ := items_inv 0 rs i x hx
    have hi : i < rs.length := (List.getElem?_eq_some_iff.1 hrsi).1
    have hgd := runes_good s.data.toList (p, n) (by rw [hrs]; exact List.mem_of_getElem? hrsi)
    have hgood := hgd.1
    have hrl := hgd.2.1
    simp only [isPt, decide_eq_true_eq] at hgood
    (try simp only at hX hrl)
    subst hX
    have htk := tot_take_succ rs i p n hrsi
    have htk1 := tot_take_le rs (i + 1)
    obtain ⟨hlat, o, r, hgr, rfl⟩ := hI
    have hap := evAppend_grow (P := Tryd.prog) elT_55 zeroT_5_some (by decide) hgr
    have hplen := lats_len rs i (by omega)
    have hpc := lats_cells rs i
    have hsucc := lats_succ rs i p n hrsi
    have hpl1 := lats_len rs (i + 1) (by omega)
    apply awp_region 1 [2, 3, 4, 6]
    rw [evK_succ]; simp +decide only [go_sem, hap, hplen]
    (repeat' apply And.intro) <;> first | refine hK _ _ (by simp [St.ext, St.push]) (fun KQ hKQ => ?_) | (intros; omega) | (intros; simp_all; done)
    clear hK
    apply awp_block
    apply awp_seq; intro K8 hK8
    apply awp_seq; intro K9 hK9
    apply awp_region 1 [2, 3, 4, 6, 15]
    rw [evK_succ]; simp +decide only [go_sem, hap, hplen]
    (repeat' apply And.intro) <;> first | refine hK9 _ _ ?_ | (intros; omega) | (intros; simp_all; done)
    clear hK9
    refine awp_cond _ (by simp +decide only [go_sem]) (by simp +decide only [go_sem]; rfl) (fun hb => ?_) (fun hb => ?_)
    · try simp at hb
      apply awp_seq; intro K10 hK10
      apply awp_region 1 [2, 3]
      rw [evK_succ]; simp +decide only [go_sem, hap, hplen]
      (repeat' apply And.intro) <;> first | refine hK10 _ _ ?_ | (intros; omega) | (intros; simp_all; done)
      clear hK10
      apply awp_ret; simp +decide only [go_sem]
      (repeat' apply And.intro) <;> first | refine hKQ _ _ _ ?_ | (intros; omega) | (intros; simp_all; done)
      refine ⟨⟨B ++ [[.val (.string ⟨#[]⟩)], [.val (.int .i64 6)], [.list (lats rs i) o], [.val (.string s)]], Rw ++ r, L⟩, [], ?_, ⟨by simp, by simp, rfl⟩, rfl, ⟨rfl, fun h => ?_, [[.list (lats rs i) o], [.val (.string s)]], r, by simp⟩, .inl rfl⟩
      · simp
      · have := h (p, n) (List.mem_of_getElem? hrsi); simp only at this; omega
    try simp at hb
    have hlat1 := isLat_succ rs i p n hrsi hlat (by omega)
    apply awp_skip; simp only [go_sem]
    (repeat' apply And.intro) <;> first | refine hK8 _ _ ?_ | (intros; omega) | (intros; simp_all; done)
    clear hK8
    apply awp_region 1 [2, 3, 4]
    rw [evK_succ]; simp +decide only [go_sem, hap, hplen]
    (repeat' apply And.intro) <;> first | refine hKQ _ _ _ ?_ | (intros; omega) | (intros; simp_all; done)
    refine ⟨⟨B ++ [[.val (.string ⟨#[]⟩)], [.val (.int .i64 0)], [.list (lats rs (i + 1)) (.row Rw.length)], [.val (.string s)]], Rw ++ [(i + 1, 1)], L⟩, [], ?_, ⟨by simp, by simpa using hgr.len, rfl⟩, rfl, ⟨hlat1, _, _, .more _ _ _ _ hpl1, rfl⟩, .inl rfl⟩
    rw [hsucc]
    simp
  · rintro st la ⟨hlat, o, r, _, rfl⟩ _ _
    rw [items_len] at hlat ⊢
    have hbo := lats_byte rs rs.length hlat
    have hal := lats_len rs rs.length (Nat.le_refl _)
    have hall : ∀ p ∈ rs, p.1 ≤ 255 := by unfold isLat at hlat; rwa [List.take_length] at hlat
    simp +decide only [go_sem]
    (repeat' apply And.intro) <;> first | refine hK6 _ _ ?_ | (intros; omega) | (intros; simp_all; done)
    clear hK6
    apply awp_seq; intro K11 hK11
    apply awp_region 1 [2, 3]
    rw [evK_succ]; simp +decide only [go_sem]
    (repeat' apply And.intro) <;> first | refine hK11 _ _ ?_ | (intros; omega) | (intros; simp_all; done)
    clear hK11
    apply awp_ret; simp +decide only [go_sem]
    refine fin_at hcalm (by first | exact List.prefix_append _ _ | exact List.prefix_refl _) (by first | exact List.prefix_append _ _ | exact List.prefix_refl _) (by first | exact List.prefix_append _ _ | exact List.prefix_refl _) (by simp only [go_sem]) ⟨?_, rfl⟩
    rw [latinA, if_pos hb0, hrs, if_pos hall]
  · rintro ex st la ⟨rfl, hnl, bs, r, rfl⟩ _ _
    simp +decide only [go_sem]
    refine ⟨⟨by omega, by omega⟩, ?_⟩
    refine fin_at hcalm (by first | exact List.prefix_append _ _ | exact List.prefix_refl _) (by first | exact List.prefix_append _ _ | exact List.prefix_refl _) (by first | exact List.prefix_append _ _ | exact List.prefix_refl _) (by simp only [go_sem]) ⟨?_, rfl⟩
    rw [latinA, if_pos hb0, hrs, if_neg hnl]

end Go.Proofs.YthlhbbejcmbpoaaDoor
