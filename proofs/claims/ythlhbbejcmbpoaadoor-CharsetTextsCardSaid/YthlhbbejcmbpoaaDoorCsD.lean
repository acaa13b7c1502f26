/-
  The charset package, part four: Points; the first example of the document.
-/
import Derived.Test.YthlhbbejcmbpoaaDoorCsC
namespace Go.Proofs.YthlhbbejcmbpoaaDoor
open Go Go.RowKit Go.Ev

theorem Valid_at (w0 : World) (B : List (List AV)) (Rw : List (Nat × Nat)) (L : List LoopA) (hT : Lib.Utf8Tabs 0 1 w0) (s : ByteArray) (hs : s.size ≤ maxLen) :
    ACalls Tryd.prog w0 27 [.val (.string s)] ⟨B, Rw, L⟩ fun r st => r = .val (.bool (Lib.validD s.data.toList)) ∧ st = ⟨B, Rw, L⟩ := by
  refine ACalls.fin (acalls_of (rs := [.tmp 2]) Tryd.func27 rfl rfl Tryd.ntmps27 (enters_some Tryd.func27 rfl (by decide)) (Nat.le_of_ble_eq_true rfl) ?_)
  intro M0 W0 hN hNR hNL hcalm hu
  simp only [argsE]
  apply awp_seq; intro K1 hK1
  apply awp_region 1 [0]
  rw [evK_succ]; simp +decide only [go_sem]
  (repeat' apply And.intro) <;> first | refine hK1 _ _ ?_ | (intros; omega) | (intros; simp_all; done)
  clear hK1
  apply awp_seq; intro K2 hK2
  apply awp_region 2 [2]
  rw [evK_succ]; simp +decide only [go_sem]
  (repeat' apply And.intro) <;> first | refine callK_intro _ (valid_at w0 _ hT s hs) ?_ | (intros; omega) | (intros; simp_all; done)   -- unicode/utf8.ValidString
  rw [evK_succ]; simp +decide only [go_sem]
  (repeat' apply And.intro) <;> first | refine hK2 _ _ ?_ | (intros; omega) | (intros; simp_all; done)
  clear hK2
  apply awp_ret; simp +decide only [go_sem]
  exact fin_same hcalm (by simp only [go_sem]) ⟨rfl, rfl⟩

theorem runes_at (w0 : World) (B : List (List AV)) (Rw : List (Nat × Nat)) (L : List LoopA) (s : ByteArray) :
    ACalls Tryd.prog w0 37 [.val (.string s)] ⟨B, Rw, L⟩ fun r st => r = .clo 46 [.box B.length 0] ∧ st = ⟨B ++ [[.val (.string s)]], Rw, L⟩ := by
  refine acalls_of (rs := [.tmp 2]) Tryd.func37 rfl rfl Tryd.ntmps37 (enters_some Tryd.func37 rfl (by decide)) (Nat.le_of_ble_eq_true rfl) ?_
  intro M0 W0 hN hNR hNL hcalm hu
  simp only [argsE]
  apply awp_seq; intro K1 hK1
  apply awp_region 1 [1]
  rw [evK_succ]; simp +decide only [go_sem]
  (repeat' apply And.intro) <;> first | refine hK1 _ _ ?_ | (intros; omega) | (intros; simp_all; done)
  clear hK1
  apply awp_seq; intro K2 hK2
  apply awp_region 1 [2]
  rw [evK_succ]; simp +decide only [go_sem]
  (repeat' apply And.intro) <;> first | refine hK2 _ _ ?_ | (intros; omega) | (intros; simp_all; done)
  clear hK2
  apply awp_ret; simp +decide only [go_sem]

/-- The first i code points, as integers. -/
def pts (rs : List (Nat × Nat)) (i : Nat) : List AV := (rs.take i).map fun p => .val (.int .i64 p.1)
theorem pts_cells (rs : List (Nat × Nat)) (i : Nat) : ∀ y ∈ pts rs i, y.cells.length = 1 := by
  intro y hy
  obtain ⟨p, _, rfl⟩ := List.mem_map.1 hy
  rfl
theorem pts_len (rs : List (Nat × Nat)) (i : Nat) (h : i ≤ rs.length) : (pts rs i).length = i := by simp [pts]; omega
theorem pts_succ (rs : List (Nat × Nat)) (i p n : Nat) (h : rs[i]? = some (p, n)) : pts rs (i + 1) = pts rs i ++ [.val (.int .i64 p)] := by
  simp [pts, List.take_add_one, h]
theorem items_inv : ∀ (k : Nat) (rs : List (Nat × Nat)) (i : Nat) (x : List AV), (items k rs)[i]? = some x → ∃ p n k' : Nat, rs[i]? = some (p, n) ∧ x = [.val (.int .i64 k'), .val (.int .i32 p)] ∧ k' = k + tot (rs.take i)
  | _, [], _, _, h => by simp [items] at h
  | k, (p, n) :: r, 0, x, h => by
    simp only [items, List.getElem?_cons_zero, Option.some.injEq] at h
    exact ⟨p, n, k, rfl, h.symm, by simp [tot]⟩
  | k, (p, n) :: r, i + 1, x, h => by
    simp only [items, List.getElem?_cons_succ] at h
    obtain ⟨q, m, k', h1, h2, h3⟩ := items_inv (k + n) r i x h
    exact ⟨q, m, k', by simpa using h1, h2, by rw [h3, List.take_succ_cons, tot_cons, Nat.add_assoc]⟩
theorem items_two (k : Nat) (rs : List (Nat × Nat)) : ∀ x ∈ items k rs, x.length = 2 := by
  intro x hx
  obtain ⟨i, hi⟩ := List.mem_iff_getElem?.1 hx
  obtain ⟨_, _, _, _, rfl, _⟩ := items_inv k rs i x hi
  rfl

theorem runes_count (l : List UInt8) : (runesOf l).length ≤ l.length := by
  refine runes_ind (C := fun l => (runesOf l).length ≤ l.length) ?_ ?_ ?_ l
  · rw [runesOf_nil]; exact Nat.le_refl _
  · intro l _ hb; rw [runesOf_bad hb]; exact Nat.zero_le _
  · intro l hne hb ih
    rw [runesOf_step hne hb]
    have := Lib.decodeL_width l
    have : 0 < l.length := List.length_pos_iff.2 hne
    simp only [List.length_drop, List.length_cons] at ih ⊢
    omega

/-- What Points answers. -/
def pointsA (s : ByteArray) : AV := if Lib.validD s.data.toList then .tup [.list (pts (runesOf s.data.toList) (runesOf s.data.toList).length) .none, .val (.int .i64 0)] else .tup [.list [] .none, .val (.int .i64 16)]

set_option maxHeartbeats 1000000 in
theorem Points_at (w0 : World) (B : List (List AV)) (Rw : List (Nat × Nat)) (L : List LoopA) (hT : Lib.Utf8Tabs 0 1 w0) (s : ByteArray) (hs : s.size ≤ 1048576) :
    ACalls Tryd.prog w0 15 [.val (.string s)] ⟨B, Rw, L⟩ fun r st => r = pointsA s ∧ st = ⟨B, Rw, L⟩ := by
  refine ACalls.fin (acalls_of (rs := [.tmp 2, .tmp 3]) Tryd.func15 rfl rfl Tryd.ntmps15 (enters_some Tryd.func15 rfl (by decide)) (Nat.le_of_ble_eq_true rfl) ?_)
  intro M0 W0 hN hNR hNL hcalm hu
  have hsm : s.size ≤ maxLen := by unfold maxLen; omega
  simp only [argsE]
  apply awp_seq; intro K1 hK1
  apply awp_region 1 [0]
  rw [evK_succ]; simp +decide only [go_sem]
  (repeat' apply And.intro) <;> first | refine hK1 _ _ ?_ | (intros; omega) | (intros; simp_all; done)
  clear hK1
  apply awp_seq; intro K2 hK2
  apply awp_seq; intro K3 hK3
  apply awp_region 2 [0, 9]
  rw [evK_succ]; simp +decide only [go_sem]
  (repeat' apply And.intro) <;> first | refine callK_intro _ (Valid_at w0 B Rw L hT s hsm) ?_ | (intros; omega) | (intros; simp_all; done)   -- manifold/charset.Valid
  rw [evK_succ]; simp +decide only [go_sem]
  (repeat' apply And.intro) <;> first | refine hK3 _ _ ?_ | (intros; omega) | (intros; simp_all; done)
  clear hK3
  refine awp_cond _ (by simp +decide only [go_sem]) (by simp +decide only [go_sem]; rfl) (fun hb => ?_) (fun hb => ?_)
  · simp at hb
    apply awp_seq; intro K4 hK4
    apply awp_region 1 [2, 3]
    rw [evK_succ]; simp +decide only [go_sem]
    (repeat' apply And.intro) <;> first | refine hK4 _ _ ?_ | (intros; omega) | (intros; simp_all; done)
    clear hK4
    apply awp_ret; simp +decide only [go_sem]
    exact fin_same hcalm (by simp only [go_sem]) ⟨by rw [pointsA, hb]; rfl, rfl⟩
  simp at hb
  apply awp_skip; simp only [go_sem]
  (repeat' apply And.intro) <;> first | refine hK2 _ _ ?_ | (intros; omega) | (intros; simp_all; done)
  clear hK2
  apply awp_seq; intro K5 hK5
  apply awp_region 1 [0, 4]
  rw [evK_succ]; simp +decide only [go_sem]
  (repeat' apply And.intro) <;> first | refine hK5 _ _ ?_ | (intros; omega) | (intros; simp_all; done)
  clear hK5
  apply awp_seq; intro K6 hK6
  apply awp_seq; intro K7 hK7
  apply awp_region 2 [4, 11]
  rw [evK_succ]; simp +decide only [go_sem]
  (repeat' apply And.intro) <;> first | refine callK_post _ (runes_at w0 _ Rw L s) ?_ | (intros; omega) | (intros; simp_all; done)   -- manifold/charset.runes
  rintro v st ⟨rfl, rfl⟩
  rw [evK_succ]; simp +decide only [go_sem]
  (repeat' apply And.intro) <;> first | refine hK7 _ _ ?_ | (intros; omega) | (intros; simp_all; done)
  clear hK7
  apply awp_block
  obtain ⟨rs, hrs⟩ : ∃ rs, runesOf s.data.toList = rs := ⟨_, rfl⟩
  have hcount := runes_count s.data.toList
  rw [hrs] at hcount
  have hsz : s.data.toList.length = s.size := by simp
  rw [hsz] at hcount
  have hit := runes_iter w0 hT s hsm (B.length + 1)
  rw [hrs] at hit
  refine awp_range (items 0 rs) (fun st => st.boxes[B.length + 1]? = some [.val (.string s)])
    (fun i st => (i = 0 ∧ st = ⟨B ++ [[.list [] .full], [.val (.string s)]], Rw, L⟩) ∨ (0 < i ∧ st = ⟨B ++ [[.list (pts rs i) (.row Rw.length)], [.val (.string s)]], Rw ++ [(i, 1)], L⟩)) (fun _ _ => False)
    (by simp +decide only [go_sem]) (by simp +decide only [go_sem]) hit (fun x hx => items_two 0 rs x hx) (by decide) ?_ (.inl ⟨rfl, rfl⟩) (fun _ _ h => h.elim) ?_ ?_ (fun _ _ _ h => h.elim)
  · rintro i st la (⟨_, rfl⟩ | ⟨_, rfl⟩) _ _ <;> simp [St.push]
  · rintro i s1 ⟨XB, XR, XL⟩ x M1 W1 l la la' hX hI hlike hloops hx K hK
    obtain ⟨p, n, k', hrsi, rfl, _⟩ := items_inv 0 rs i x hx
    have hi : i < rs.length := (List.getElem?_eq_some_iff.1 hrsi).1
    have hgood := (runes_good s.data.toList (p, n) (by rw [hrs]; exact List.mem_of_getElem? hrsi)).1
    simp only [isPt, decide_eq_true_eq] at hgood
    simp only at hX
    subst hX
    have hsucc := pts_succ rs i p n hrsi
    have hplen := pts_len rs i (by omega)
    have hpc := pts_cells rs i
    rcases hI with ⟨rfl, rfl⟩ | ⟨h0, rfl⟩
    · apply awp_region 1 [4, 6]
      rw [evK_succ]; simp +decide only [go_sem]
      (repeat' apply And.intro) <;> first | refine hK _ _ (by simp [St.ext, St.push]) (fun KQ hKQ => ?_) | (intros; omega) | (intros; simp_all; done)
      clear hK
      apply awp_block
      apply awp_region 1 []
      rw [evK_succ]; simp +decide only [go_sem]
      (repeat' apply And.intro) <;> first | refine hKQ _ _ _ ?_ | (intros; omega) | (intros; simp_all; done)
      refine ⟨⟨B ++ [[.list (pts rs 1) (.row Rw.length)], [.val (.string s)]], Rw ++ [(1, 1)], L⟩, [], ?_, ⟨by simp, by simp, rfl⟩, rfl, .inr ⟨by omega, rfl⟩, .inl rfl⟩
      have h1 : pts rs 1 = [.val (.int .i64 p)] := hsucc
      rw [h1]
      simp
    · apply awp_region 1 [4, 6]
      rw [evK_succ]; simp +decide only [go_sem]
      (repeat' apply And.intro) <;> first | refine hK _ _ (by simp [St.ext, St.push]) (fun KQ hKQ => ?_) | (intros; omega) | (intros; simp_all; done)
      clear hK
      apply awp_block
      apply awp_region 1 []
      rw [evK_succ]; simp +decide only [go_sem]
      (repeat' apply And.intro) <;> first | refine hKQ _ _ _ ?_ | (intros; omega) | (intros; simp_all; done)
      refine ⟨⟨B ++ [[.list (pts rs (i + 1)) (.row Rw.length)], [.val (.string s)]], Rw ++ [(i + 1, 1)], L⟩, [], ?_, ⟨by simp, by simp, rfl⟩, rfl, .inr ⟨by omega, rfl⟩, .inl rfl⟩
      rw [hsucc, hplen]
      simp
  · rintro st la hI _ _
    rw [items_len] at hI
    have hlist : ∃ o r, st = ⟨B ++ [[.list (pts rs rs.length) o], [.val (.string s)]], Rw ++ r, L⟩ := by
      rcases hI with ⟨h0, rfl⟩ | ⟨_, rfl⟩
      · exact ⟨.full, [], by rw [h0]; simp [pts]⟩
      · exact ⟨_, _, rfl⟩
    obtain ⟨o, r, rfl⟩ := hlist
    simp +decide only [go_sem]
    refine hK6 _ _ ?_
    clear hK6
    apply awp_seq; intro K8 hK8
    apply awp_region 1 [2, 3]
    rw [evK_succ]; simp +decide only [go_sem]
    (repeat' apply And.intro) <;> first | refine hK8 _ _ ?_ | (intros; omega) | (intros; simp_all; done)
    clear hK8
    apply awp_ret; simp +decide only [go_sem]
    refine fin_own hcalm ?_ ⟨?_, rfl⟩
    · simp only [go_sem, pts]
      intro x hx
      obtain ⟨p, _, rfl⟩ := List.mem_map.1 hx
      exact .val _
    · rw [pointsA, hb, hrs]; rfl
end Go.Proofs.YthlhbbejcmbpoaaDoor
