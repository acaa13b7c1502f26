/-
  Part 5 of the proof: rules and walks that the claim's last text uses.
-/
import Derived.Test.YtggimoedcamonaaGreatDoorSe4
namespace Go.Proofs.YtggimoedcamonaaGreatDoor
open Go Go.RowKit Go.Ev
set_option linter.unusedSimpArgs false
set_option linter.unusedVariables false
def p_Part_valid_k5 (a0 : Part) (x5_k5 : Bool) : Option Bool :=
  if x5_k5 then
    if decide (a0.index = 0) then
      if a0.name.size ≤ maxLen then
        some (nameB a0.name)
      else none
    else
      some (false)
  else
    if decide (a0.kind = 2) then
      some (((sEq a0.name ((⟨#[]⟩ : ByteArray))) && (decide (0 ≤ a0.index))) && (decide (a0.index < 256)))
    else
      if decide (a0.kind = 3) then
        some ((sEq a0.name ((⟨#[]⟩ : ByteArray))) && (decide (a0.index = 0)))
      else
        some (false)
def p_Part_valid_F (a0 : Part) : Option Bool :=
  if decide (a0.kind = 1) then
    p_Part_valid_k5 a0 true
  else
    p_Part_valid_k5 a0 (decide (a0.kind = 4))
set_option maxRecDepth 100000 in
set_option maxHeartbeats 4000000 in
theorem p_Part_valid_at (w0 : World) (B : List (List AV)) (Rw : List RowA) (L : List LoopA) (a0 : Part) (r : Bool) (h : p_Part_valid_F a0 = some r) :
    ACalls Tryz.prog w0 114 [.agg (.val (.int .i64 a0.kind) :: (.val (.int .i64 a0.index) :: ([.val (.string a0.name)])))] ⟨B, Rw, L⟩ fun x st => x = .val (.bool r) ∧ st = ⟨B, Rw, L⟩ := by
  rw [p_Part_valid_F] at h
  refine ACalls.finP (acalls_of (rs := [.tmp 2]) Tryz.func114 rfl rfl Tryz.ntmps114 (enters_some Tryz.func114 rfl (by decide)) (Nat.le_of_ble_eq_true rfl) ?_)
  intro M0 W0 hN hNR hNL hcalm hu
  dsimp only at hN hNR hNL hcalm hu
  simp only [argsE]
  have hO := Owns.none Rw
  have hs := fact0
  refine rg [1] hs ?_
  apply awp_seq; intro K2 hK2
  refine rg [1, 4] hs ?_
  apply awp_block
  refine awp_mid (fun e st => ∃ (x5_k5 : Bool) (X_k5 : List (List AV)) (rows_k5 : List RowA), e = [(1, true, .box B.length 0), (4, true, .val (.int .i64 a0.kind)), (5, true, .val (.bool x5_k5))] ∧ st = ⟨B ++ ([.val (.int .i64 a0.kind) :: (.val (.int .i64 a0.index) :: ([.val (.string a0.name)]))] ++ X_k5), rows_k5, L⟩ ∧ Owns Rw rows_k5 [] ∧ p_Part_valid_k5 a0 x5_k5 = some r) ?_ ?_
  · intro K6 hK6
    refine rg [1, 4, 5] hs ?_
    refine cnd h hs (fun hs h => ?_) (fun hs h => ?_)
    · skip
      have hb8 := hs.1
      refine sk [1, 4, 5] hs hK6 ?_
      exact ⟨true, ([]), Rw, ef hs, ef hs, hO, h⟩
    have hb8 := hs.1
    apply awp_region 1 [1, 4, 5]
    rw [evK_succ]; simp +decide only [go_sem, Nat.reduceAdd, hb8]
    (repeat' apply And.intro) <;> first | refine hK6 _ _ ⟨(decide (a0.kind = 4)), ([]), Rw, ef hs, ef hs, hO, h⟩ | exact cl
  · clear h; rintro e st ⟨x5_k5, X_k5, rows_k5, rfl, rfl, hO, h⟩
    rw [p_Part_valid_k5] at h
    refine td hN hNR hNL hcalm hO ?_
    refine cnd h hs (fun hs h => ?_) (fun hs h => ?_)
    · skip
      have hb9 := hs.1
      apply awp_seq; intro K10 hK10
      rcases Bool.eq_false_or_eq_true (decide (a0.index = 0)) with hf11 | hf11
      · replace h := ite_tt h hf11
        obtain ⟨hg12, h⟩ := guard_some h
        apply awp_region 2 [2]
        rw [evK_succ]; simp +decide only [go_sem, Nat.reduceAdd, hb9, hf11]
        have hs := And.intro hf11 hs
        (repeat' apply And.intro) <;> first | refine callK_p _ (IsName_at w0 _ _ _ a0.name hg12) (hv hs) ?_ | exact cl
        rw [evK_succ]; simp +decide only [go_sem, Nat.reduceAdd, hb9, hf11]
        (repeat' apply And.intro) <;> first | refine hK10 _ _ ?_ | exact cl
        clear hK10
        exact rt h hs hcalm hO
      · replace h := ite_ff h hf11
        apply awp_region 2 [2]
        rw [evK_succ]; simp +decide only [go_sem, Nat.reduceAdd, hb9, hf11]
        (repeat' apply And.intro) <;> first | refine callK_skip ?_ | exact cl
        rw [evK_succ]; simp +decide only [go_sem, Nat.reduceAdd, hb9, hf11]
        (repeat' apply And.intro) <;> first | refine hK10 _ _ ?_ | exact cl
        clear hK10
        have hs := And.intro hf11 hs
        exact rt h hs hcalm hO
    have hb9 := hs.1
    refine rg [1, 4, 16] hs ?_
    refine cnd h hs (fun hs h => ?_) (fun hs h => ?_)
    · skip
      refine rg [2] hs ?_
      exact rt h hs hcalm hO
    refine rg [1, 31] hs ?_
    refine cnd h hs (fun hs h => ?_) (fun hs h => ?_)
    · skip
      refine rg [2] hs ?_
      exact rt h hs hcalm hO
    refine sk [] hs hK2 ?_
    clear hK2
    refine rg [2] hs ?_
    exact rt h hs hcalm hO
end Go.Proofs.YtggimoedcamonaaGreatDoor
namespace Go.Proofs.YtggimoedcamonaaGreatDoor
open Go Go.RowKit Go.Ev
set_option linter.unusedSimpArgs false
set_option linter.unusedVariables false
def p_Check_k12 (n : Nat)  (x3_k12 : Int) : Option Int :=
  if decide (200 < x3_k12) then
    some (3)
  else
    some (0)
def p_Check_l15 (n : Nat) (a0 : List Part) : Nat → Int → Int → Option Int
  | 0, _, _ => none
  | m + 1, x3_l15, x23_l15 =>
    if decide (x23_l15 < ((a0.length : Int))) then
      (idx a0 x23_l15).bind fun x21 =>
      (p_Part_valid_F x21).bind fun y24 =>
      if !y24 then
        some (3)
      else
        (p_Part_text_F x21).bind fun y27 =>
        if I64 (x3_l15 + ((y27.size : Int))) then
          if I64 (x23_l15 + 1) then
            (p_Check_l15 n a0 m) (x3_l15 + ((y27.size : Int))) (x23_l15 + 1)
          else none
        else none
    else
      p_Check_k12 n x3_l15
def p_Check_F (n : Nat) (a0 : List Part) : Option Int :=
  if (decide (((a0.length : Int)) < 1)) || (decide (16 < ((a0.length : Int)))) then
    some (3)
  else
    (idx a0 0).bind fun x7 =>
    if !(decide (x7.kind = 1)) then
      some (3)
    else
      p_Check_l15 n a0 n ((-1)) 0
set_option maxRecDepth 100000 in
set_option maxHeartbeats 4000000 in
theorem p_Check_at (w0 : World) (hP : Pow10 w0) (n : Nat) (B : List (List AV)) (Rw : List RowA) (L : List LoopA) (a0 : List Part) (r : Int) (h : p_Check_F n a0 = some r) :
    ACalls Tryz.prog w0 64 [.list (a0.map avPt) .none] ⟨B, Rw, L⟩ fun x st => x = .val (.int .i64 r) ∧ st = ⟨B, Rw, L⟩ := by
  rw [p_Check_F] at h
  refine ACalls.finP (acalls_of (rs := [.tmp 2]) Tryz.func64 rfl rfl Tryz.ntmps64 (enters_some Tryz.func64 rfl (by decide)) (Nat.le_of_ble_eq_true rfl) ?_)
  intro M0 W0 hN hNR hNL hcalm hu
  dsimp only at hN hNR hNL hcalm hu
  simp only [argsE]
  have hO := Owns.none Rw
  have hs := fact0
  refine rg [0] hs ?_
  apply awp_seq; intro K2 hK2
  apply awp_seq; intro K3 hK3
  rcases Bool.eq_false_or_eq_true ((decide (((a0.length : Int)) < 1)) || (decide (16 < ((a0.length : Int))))) with hf4 | hf4
  · replace h := ite_tt h hf4
    apply awp_region 1 [0, 20]
    rw [evK_succ]; simp +decide only [go_sem, Nat.reduceAdd, hf4]
    (repeat' apply And.intro) <;> first | refine hK3 _ _ ?_ | exact cl
    clear hK3
    have hs := And.intro hf4 hs
    refine awp_cond true ev (ef hs) (fun hb5 => ?_) (fun hb5 => by cases hb5)
    refine rg [2] hs ?_
    exact rt h hs hcalm hO
  · replace h := ite_ff h hf4
    obtain ⟨x7, hx7, h⟩ := bind_some h
    obtain ⟨hx7a, hx7b, hx7c⟩ := idx_some hx7
    have hx7d := getD_map (f := avPt) hx7c
    have hx7e : (a0.map avPt).getD 0 .junk = _ := hx7d
    apply awp_region 1 [0, 20]
    rw [evK_succ]; simp +decide only [go_sem, Nat.reduceAdd, hf4, hx7d, hx7e]
    (repeat' apply And.intro) <;> first | refine hK3 _ _ ?_ | exact cl
    clear hK3
    have hs := And.intro hf4 hs
    have hs := And.intro hx7d hs
    have hs := And.intro hx7e hs
    refine cnd h hs (fun hs h => ?_) (fun hs h => ?_)
    · skip
      have hb8 := hs.1
      refine rg [2] hs ?_
      exact rt h hs hcalm hO
    have hb8 := hs.1
    refine sk [0] hs hK2 ?_
    clear hK2
    refine rg [0, 3] hs ?_
    refine awp_mid (fun e st => ∃ (x3_k12 : Int) (X_k12 : List (List AV)) (rows_k12 : List RowA), e = [(3, true, .val (.int .i64 x3_k12))] ∧ st = ⟨B ++ ([] ++ X_k12), rows_k12, L⟩ ∧ Owns Rw rows_k12 [] ∧ p_Check_k12 n x3_k12 = some r) ?_ ?_
    · intro K13 hK13
      refine rg [3, 21, 22, 23] hs ?_
      apply awp_block
      refine awp_loop (fun m e st => ∃ (x3_l15 : Int) (x23_l15 : Int) (X_l15 : List (List AV)) (rows_l15 : List RowA), e = [(3, true, .val (.int .i64 x3_l15)), (21, true, .list (a0.map avPt) .none), (22, true, .val (.int .i64 ((a0.length : Int)))), (23, true, .val (.int .i64 x23_l15))] ∧ st = ⟨B ++ ([] ++ X_l15), rows_l15, L⟩ ∧ Owns Rw rows_l15 [] ∧ p_Check_l15 n a0 m x3_l15 x23_l15 = some r) n ⟨((-1)), 0, ([]), Rw, ef hs, ef hs, hO, h⟩ ?_
      rintro m_l15 e st ⟨x3_l15, x23_l15, X_l15, rows_l15, rfl, rfl, hO, h⟩ KR_l15 hKR_l15
      cases m_l15 with
      | zero => cases h
      | succ m_l15 =>
      rw [p_Check_l15] at h
      refine td hN hNR hNL hcalm hO ?_
      refine rg [3, 21, 22, 23, 24] hs ?_
      apply awp_seq; intro K17 hK17
      refine cnd h hs (fun hs h => ?_) (fun hs h => ?_)
      rotate_left
      · skip
        have hb18 := hs.1
        refine sx [3] hs hK13 ?_
        exact ⟨x3_l15, ([]), rows_l15, ef hs, ef hs, hO, h⟩
      have hb18 := hs.1
      refine sk [3, 21, 22, 23] hs hK17 ?_
      clear hK17
      apply awp_seq; intro K19 hK19
      apply awp_block
      obtain ⟨x21, hx21, h⟩ := bind_some h
      obtain ⟨hx21a, hx21b, hx21c⟩ := idx_some hx21
      have hx21d := getD_map (f := avPt) hx21c
      have hs := And.intro hx21d hs
      refine rg [3, 5, 21, 22, 23] hs ?_
      apply awp_seq; intro K22 hK22
      obtain ⟨y24, hy24, h⟩ := bind_some h
      refine rc 2 [3, 5, 21, 22, 23, 29] hs ?_; intro K23 hK23
      refine callK_p _ (p_Part_valid_at w0 _ _ _ x21 _ hy24) (hv hs) ?_
      refine ne hs hK23 ?_
      clear hK23
      refine cnd h hs (fun hs h => ?_) (fun hs h => ?_)
      · skip
        have hb25 := hs.1
        refine rg [2] hs ?_
        exact rt h hs hcalm hO
      have hb25 := hs.1
      refine sk [3, 5, 21, 22, 23] hs hK22 ?_
      clear hK22
      obtain ⟨y27, hy27, h⟩ := bind_some h
      obtain ⟨hg28, h⟩ := guard_some h
      apply awp_region 2 [3, 21, 22, 23]
      rw [evK_succ]; simp +decide only [go_sem, Nat.reduceAdd, hf4, hx7d, hx7e, hb8, hb18, hx21d, hb25]
      (repeat' apply And.intro) <;> first | refine callK_p _ (p_Part_text_at w0 hP _ _ _ x21 _ hy27) (hv hs) ?_ | exact cl
      rw [evK_succ]; simp +decide only [go_sem, Nat.reduceAdd, hf4, hx7d, hx7e, hb8, hb18, hx21d, hb25]
      (repeat' apply And.intro) <;> first | refine hK19 _ _ ?_ | exact cl
      clear hK19
      obtain ⟨hg29, h⟩ := guard_some h
      apply awp_region 1 [3, 21, 22, 23]
      rw [evK_succ]; simp +decide only [go_sem, Nat.reduceAdd, hf4, hx7d, hx7e, hb8, hb18, hx21d, hb25]
      (repeat' apply And.intro) <;> first | refine hKR_l15 m_l15 _ _ (Nat.lt_succ_self m_l15) ⟨(x3_l15 + ((y27.size : Int))), (x23_l15 + 1), ([.val (.int .i64 x21.kind) :: (.val (.int .i64 x21.index) :: ([.val (.string x21.name)]))]), rows_l15, ef hs, ef hs, hO, h⟩ | exact cl
    · clear h; rintro e st ⟨x3_k12, X_k12, rows_k12, rfl, rfl, hO, h⟩
      rw [p_Check_k12] at h
      refine td hN hNR hNL hcalm hO ?_
      apply awp_seq; intro K30 hK30
      refine rg [37] hs ?_
      refine cnd h hs (fun hs h => ?_) (fun hs h => ?_)
      · skip
        refine rg [2] hs ?_
        exact rt h hs hcalm hO
      refine sk [] hs hK30 ?_
      clear hK30
      refine rg [2] hs ?_
      exact rt h hs hcalm hO
end Go.Proofs.YtggimoedcamonaaGreatDoor
namespace Go.Proofs.YtggimoedcamonaaGreatDoor
open Go Go.RowKit Go.Ev
set_option linter.unusedSimpArgs false
set_option linter.unusedVariables false
def s_step_F (n : Nat) (a0 : Ty) (a1 : Part) : Option (Ty × Bool × Int) :=
  (idx ([0, 9, 8, 8, 10]) a1.kind).bind fun x3 =>
  if !(decide (a0.kind = x3)) then
    some ((Ty.mk 0 0 0 0 ([]) ([]) ([]), false, 11))
  else
    if decide (a1.kind = 3) then
      (idx a0.elem 0).bind fun x13 =>
      some ((x13, decide (a0.min = 0), 0))
    else
      if decide (a1.kind = 2) then
        if decide (a0.max ≤ a1.index) then
          some ((Ty.mk 0 0 0 0 ([]) ([]) ([]), false, 2))
        else
          (idx a0.elem 0).bind fun x21 =>
          some ((x21, decide (a0.min ≤ a1.index), 0))
      else
        (s_Field_F n a0 a1.name).bind fun y23 =>
        if !y23.2 then
          some ((Ty.mk 0 0 0 0 ([]) ([]) ([]), false, 21))
        else
          if decide (a1.kind = 4) then
            some ((y23.1.2.2.2.1, decide (1 < ((a0.fields.length : Int))), 0))
          else
            some ((y23.1.2.2.2.1, decide (y23.1.2.2.1 = 2), 0))
set_option maxRecDepth 100000 in
set_option maxHeartbeats 4000000 in
theorem s_step_at (w0 : World) (n : Nat) (B : List (List AV)) (Rw : List RowA) (L : List LoopA) (a0 : Ty) (a1 : Part) (r : Ty × Bool × Int) (h : s_step_F n a0 a1 = some r) :
    ACalls Tryz.prog w0 65 [.agg (a0.cs), .agg (.val (.int .i64 a1.kind) :: (.val (.int .i64 a1.index) :: ([.val (.string a1.name)])))] ⟨B, Rw, L⟩ fun x st => x = .tup [.agg (r.1.cs), .val (.bool r.2.1), .val (.int .i64 r.2.2)] ∧ st = ⟨B, Rw, L⟩ := by
  rw [s_step_F] at h
  refine ACalls.finP (acalls_of (rs := [.cell 4 26, .tmp 5, .tmp 6]) Tryz.func65 rfl rfl Tryz.ntmps65 (enters_some Tryz.func65 rfl (by decide)) (Nat.le_of_ble_eq_true rfl) ?_)
  intro M0 W0 hN hNR hNL hcalm hu
  dsimp only at hN hNR hNL hcalm hu
  simp only [argsE]
  have hO := Owns.none Rw
  have hs := fact0
  refine rg [2, 3, 4] hs ?_
  apply awp_seq; intro K2 hK2
  obtain ⟨x3, hx3, h⟩ := bind_some h
  obtain ⟨hx3a, hx3b, hx3c⟩ := idx_some hx3
  have hx3d := getD_map (f := avI) hx3c
  simp only [List.map_cons, List.map_nil, avI_eq] at hx3d
  have hx3n : ([0, 9, 8, 8, 10]).length = 5 := rfl
  first | rw [hx3n] at hx3b | simp only [List.length_cons, List.length_nil, Nat.reduceAdd, Nat.zero_add] at hx3b
  apply awp_region 1 [2, 3, 4, 7]
  rw [evK_succ]; simp +decide only [go_sem, Nat.reduceAdd, hx3d, fillA, fillOk, placeT, List.getElem?_cons_zero, List.getElem?_cons_succ, List.nil_append, List.cons_append, Nat.mul_one]
  (repeat' apply And.intro) <;> first | refine hK2 _ _ ?_ | exact cl
  clear hK2
  apply awp_seq; intro K4 hK4
  have hs := And.intro hx3d hs
  refine rg [2, 3, 4, 17] hs ?_
  refine cnd h hs (fun hs h => ?_) (fun hs h => ?_)
  · skip
    have hb6 := hs.1
    apply awp_seq; intro K7 hK7
    apply awp_region 1 [4, 5, 6]
    rw [evK_succ]; simp +decide only [go_sem, Nat.reduceAdd, hx3d, hb6, fillA, fillOk, placeT]
    (repeat' apply And.intro) <;> first | refine hK7 _ _ ?_ | exact cl
    clear hK7
    exact rt h hs hcalm hO
  have hb6 := hs.1
  refine sk [2, 3, 4] hs hK4 ?_
  clear hK4
  apply awp_seq; intro K8 hK8
  refine rg [2, 3, 4, 20] hs ?_
  apply awp_block
  refine rg [2, 3, 4, 20, 21] hs ?_
  refine cnd h hs (fun hs h => ?_) (fun hs h => ?_)
  · skip
    have hb11 := hs.1
    apply awp_seq; intro K12 hK12
    obtain ⟨x13, hx13, h⟩ := bind_some h
    obtain ⟨hx13a, hx13b, hx13c⟩ := idx_some hx13
    have hx13d := getD_map (f := avT) hx13c
    have hx13e : (a0.elem.map avT).getD 0 .junk = _ := hx13d
    apply awp_any mix [7] [4, 5, 6] (by kernel_rfl) (fun s => ∃ (X : List (List AV)) (rows : List RowA) (c2 : List AV), s = ⟨B ++ ([a0.cs, .val (.int .i64 a1.kind) :: (.val (.int .i64 a1.index) :: ([.val (.string a1.name)])), c2] ++ X), rows, L⟩) 2 (B.length + 3)
    · simp +decide only [go_sem, Nat.reduceAdd]
    · rintro s ⟨X, rows, c2, rfl⟩
      refine ⟨1, ?_⟩
      rw [evK_succ]; simp +decide only [go_sem, Nat.reduceAdd, skipE, hx3d, hb6, hb11, hx13d, hx13e]
      (repeat' apply And.intro) <;> first | rfl | exact cl
    · skip
      refine Good.mk [7] (by kernel_rfl) ⟨[], _, _, by first | rfl | simp only [List.append_nil, List.nil_append]⟩ ?_ ?_
      · intro h; exact absurd h (by decide)
      · intro i hi; simp only [List.mem_cons, List.not_mem_nil, or_false] at hi
        subst hi
        · apply good_step rfl rfl ev
          · simp +decide only [go_sem, Nat.reduceAdd, StepOk, hx3d, hb6, hb11, hx13d, hx13e]
            (repeat' apply And.intro) <;> first | rfl | exact cl
          · simp +decide only [go_sem, Nat.reduceAdd, hx3d, hb6, hb11, hx13d, hx13e]
            refine Good.mk [] (by kernel_rfl) ⟨[], _, _, by first | rfl | simp only [List.append_nil, List.nil_append]⟩ ?_ ?_
            · intro _; apply conv_keep [4, 5, 6]; first | (simp +decide only [go_sem, Nat.reduceAdd, hx3d, hb6, hb11, hx13d, hx13e]; done) | (simp +decide only [go_sem, Nat.reduceAdd, hx3d, hb6, hb11, hx13d, hx13e]; rfl)
            · intro i hi; cases hi
    simp +decide only [go_sem, Nat.reduceAdd, hx3d, hb6, hb11, hx13d, hx13e]
    (repeat' apply And.intro) <;> first | refine hK12 _ _ ?_ | exact cl
    clear hK12
    have hs := And.intro hx13d hs
    have hs := And.intro hx13e hs
    exact rt h hs hcalm hO
  have hb11 := hs.1
  refine rg [2, 3, 4, 30] hs ?_
  refine cnd h hs (fun hs h => ?_) (fun hs h => ?_)
  · skip
    have hb15 := hs.1
    apply awp_seq; intro K16 hK16
    refine rg [2, 3, 4, 36] hs ?_
    refine cnd h hs (fun hs h => ?_) (fun hs h => ?_)
    · skip
      have hb18 := hs.1
      apply awp_seq; intro K19 hK19
      apply awp_region 1 [4, 5, 6]
      rw [evK_succ]; simp +decide only [go_sem, Nat.reduceAdd, hx3d, hb6, hb11, hb15, hb18, fillA, fillOk, placeT]
      (repeat' apply And.intro) <;> first | refine hK19 _ _ ?_ | exact cl
      clear hK19
      exact rt h hs hcalm hO
    have hb18 := hs.1
    refine sk [2, 3, 4] hs hK16 ?_
    clear hK16
    apply awp_seq; intro K20 hK20
    obtain ⟨x21, hx21, h⟩ := bind_some h
    obtain ⟨hx21a, hx21b, hx21c⟩ := idx_some hx21
    have hx21d := getD_map (f := avT) hx21c
    have hx21e : (a0.elem.map avT).getD 0 .junk = _ := hx21d
    apply awp_any mix [9] [4, 5, 6] (by kernel_rfl) (fun s => ∃ (X : List (List AV)) (rows : List RowA) (c2 : List AV), s = ⟨B ++ ([a0.cs, .val (.int .i64 a1.kind) :: (.val (.int .i64 a1.index) :: ([.val (.string a1.name)])), c2] ++ X), rows, L⟩) 2 (B.length + 3)
    · simp +decide only [go_sem, Nat.reduceAdd]
    · rintro s ⟨X, rows, c2, rfl⟩
      refine ⟨1, ?_⟩
      rw [evK_succ]; simp +decide only [go_sem, Nat.reduceAdd, skipE, hx3d, hb6, hb11, hb15, hb18, hx21d, hx21e]
      (repeat' apply And.intro) <;> first | rfl | exact cl
    · skip
      refine Good.mk [9] (by kernel_rfl) ⟨[], _, _, by first | rfl | simp only [List.append_nil, List.nil_append]⟩ ?_ ?_
      · intro h; exact absurd h (by decide)
      · intro i hi; simp only [List.mem_cons, List.not_mem_nil, or_false] at hi
        subst hi
        · apply good_step rfl rfl ev
          · simp +decide only [go_sem, Nat.reduceAdd, StepOk, hx3d, hb6, hb11, hb15, hb18, hx21d, hx21e]
            (repeat' apply And.intro) <;> first | rfl | exact cl
          · simp +decide only [go_sem, Nat.reduceAdd, hx3d, hb6, hb11, hb15, hb18, hx21d, hx21e]
            refine Good.mk [] (by kernel_rfl) ⟨[], _, _, by first | rfl | simp only [List.append_nil, List.nil_append]⟩ ?_ ?_
            · intro _; apply conv_keep [4, 5, 6]; first | (simp +decide only [go_sem, Nat.reduceAdd, hx3d, hb6, hb11, hb15, hb18, hx21d, hx21e]; done) | (simp +decide only [go_sem, Nat.reduceAdd, hx3d, hb6, hb11, hb15, hb18, hx21d, hx21e]; rfl)
            · intro i hi; cases hi
    simp +decide only [go_sem, Nat.reduceAdd, hx3d, hb6, hb11, hb15, hb18, hx21d, hx21e]
    (repeat' apply And.intro) <;> first | refine hK20 _ _ ?_ | exact cl
    clear hK20
    have hs := And.intro hx21d hs
    have hs := And.intro hx21e hs
    exact rt h hs hcalm hO
  have hb15 := hs.1
  refine sk [2, 3, 4] hs hK8 ?_
  clear hK8
  obtain ⟨y23, hy23, h⟩ := bind_some h
  refine rc 2 [2, 3, 4, 8, 9] hs ?_; intro K22 hK22
  refine callK_p _ (s_Field_at w0 n _ _ _ a0 a1.name _ hy23) (hv hs) ?_
  refine ne hs hK22 ?_
  clear hK22
  apply awp_seq; intro K24 hK24
  refine rg [2, 3, 4, 8, 55] hs ?_
  refine cnd h hs (fun hs h => ?_) (fun hs h => ?_)
  · skip
    have hb26 := hs.1
    apply awp_seq; intro K27 hK27
    apply awp_region 1 [4, 5, 6]
    rw [evK_succ]; simp +decide only [go_sem, Nat.reduceAdd, hx3d, hb6, hb11, hb15, hb26, fillA, fillOk, placeT]
    (repeat' apply And.intro) <;> first | refine hK27 _ _ ?_ | exact cl
    clear hK27
    exact rt h hs hcalm hO
  have hb26 := hs.1
  refine sk [2, 3, 4, 8] hs hK24 ?_
  clear hK24
  apply awp_seq; intro K28 hK28
  refine rg [2, 4, 8, 59] hs ?_
  refine cnd h hs (fun hs h => ?_) (fun hs h => ?_)
  · skip
    have hb30 := hs.1
    apply awp_seq; intro K31 hK31
    apply awp_any mix [6] [4, 5, 6] (by kernel_rfl) (fun s => ∃ (X : List (List AV)) (rows : List RowA) (c2 : List AV), s = ⟨B ++ ([a0.cs, .val (.int .i64 a1.kind) :: (.val (.int .i64 a1.index) :: ([.val (.string a1.name)])), c2, .val (.int .i64 y23.1.1) :: (.val (.string y23.1.2.1) :: (.val (.int .i64 y23.1.2.2.1) :: ((y23.1.2.2.2.1.cs) ++ ([.list (y23.1.2.2.2.2.map avV) .none]))))] ++ X), rows, L⟩) 2 (B.length + 4)
    · simp +decide only [go_sem, Nat.reduceAdd]
    · rintro s ⟨X, rows, c2, rfl⟩
      refine ⟨1, ?_⟩
      rw [evK_succ]; simp +decide only [go_sem, Nat.reduceAdd, skipE, hx3d, hb6, hb11, hb15, hb26, hb30]
      (repeat' apply And.intro) <;> first | rfl | exact cl
    · skip
      refine Good.mk [6] (by kernel_rfl) ⟨[], _, _, by first | rfl | simp only [List.append_nil, List.nil_append]⟩ ?_ ?_
      · intro h; exact absurd h (by decide)
      · intro i hi; simp only [List.mem_cons, List.not_mem_nil, or_false] at hi
        subst hi
        · apply good_step rfl rfl ev
          · simp +decide only [go_sem, Nat.reduceAdd, StepOk, hx3d, hb6, hb11, hb15, hb26, hb30]
            (repeat' apply And.intro) <;> first | rfl | exact cl
          · simp +decide only [go_sem, Nat.reduceAdd, hx3d, hb6, hb11, hb15, hb26, hb30]
            refine Good.mk [] (by kernel_rfl) ⟨[], _, _, by first | rfl | simp only [List.append_nil, List.nil_append]⟩ ?_ ?_
            · intro _; apply conv_keep [4, 5, 6]; first | (simp +decide only [go_sem, Nat.reduceAdd, hx3d, hb6, hb11, hb15, hb26, hb30]; done) | (simp +decide only [go_sem, Nat.reduceAdd, hx3d, hb6, hb11, hb15, hb26, hb30]; rfl)
            · intro i hi; cases hi
    simp +decide only [go_sem, Nat.reduceAdd, hx3d, hb6, hb11, hb15, hb26, hb30]
    (repeat' apply And.intro) <;> first | refine hK31 _ _ ?_ | exact cl
    clear hK31
    exact rt h hs hcalm hO
  have hb30 := hs.1
  refine sk [4, 8] hs hK28 ?_
  clear hK28
  apply awp_seq; intro K32 hK32
  apply awp_any mix [5] [4, 5, 6] (by kernel_rfl) (fun s => ∃ (X : List (List AV)) (rows : List RowA) (c2 : List AV), s = ⟨B ++ ([a0.cs, .val (.int .i64 a1.kind) :: (.val (.int .i64 a1.index) :: ([.val (.string a1.name)])), c2, .val (.int .i64 y23.1.1) :: (.val (.string y23.1.2.1) :: (.val (.int .i64 y23.1.2.2.1) :: ((y23.1.2.2.2.1.cs) ++ ([.list (y23.1.2.2.2.2.map avV) .none]))))] ++ X), rows, L⟩) 2 (B.length + 4)
  · simp +decide only [go_sem, Nat.reduceAdd]
  · rintro s ⟨X, rows, c2, rfl⟩
    refine ⟨1, ?_⟩
    rw [evK_succ]; simp +decide only [go_sem, Nat.reduceAdd, skipE, hx3d, hb6, hb11, hb15, hb26, hb30]
    (repeat' apply And.intro) <;> first | rfl | exact cl
  · skip
    refine Good.mk [5] (by kernel_rfl) ⟨[], _, _, by first | rfl | simp only [List.append_nil, List.nil_append]⟩ ?_ ?_
    · intro h; exact absurd h (by decide)
    · intro i hi; simp only [List.mem_cons, List.not_mem_nil, or_false] at hi
      subst hi
      · apply good_step rfl rfl ev
        · simp +decide only [go_sem, Nat.reduceAdd, StepOk, hx3d, hb6, hb11, hb15, hb26, hb30]
          (repeat' apply And.intro) <;> first | rfl | exact cl
        · simp +decide only [go_sem, Nat.reduceAdd, hx3d, hb6, hb11, hb15, hb26, hb30]
          refine Good.mk [] (by kernel_rfl) ⟨[], _, _, by first | rfl | simp only [List.append_nil, List.nil_append]⟩ ?_ ?_
          · intro _; apply conv_keep [4, 5, 6]; first | (simp +decide only [go_sem, Nat.reduceAdd, hx3d, hb6, hb11, hb15, hb26, hb30]; done) | (simp +decide only [go_sem, Nat.reduceAdd, hx3d, hb6, hb11, hb15, hb26, hb30]; rfl)
          · intro i hi; cases hi
  simp +decide only [go_sem, Nat.reduceAdd, hx3d, hb6, hb11, hb15, hb26, hb30]
  (repeat' apply And.intro) <;> first | refine hK32 _ _ ?_ | exact cl
  clear hK32
  exact rt h hs hcalm hO
end Go.Proofs.YtggimoedcamonaaGreatDoor
namespace Go.Proofs.YtggimoedcamonaaGreatDoor
open Go Go.RowKit Go.Ev
set_option linter.unusedSimpArgs false
set_option linter.unusedVariables false
def s_At_k16 (n : Nat)  (x5_k16 : Bool) (b1_k16 : Ty) : Option (Ty × Bool × Int) :=
  (s_Clone_F n b1_k16).bind fun y34 =>
  some ((y34, x5_k16, 0))
def s_At_l19 (n : Nat) (a1 : List Part) : Nat → Bool → Int → Ty → Option (Ty × Bool × Int)
  | 0, _, _, _ => none
  | m + 1, x5_l19, x29_l19, b1_l19 =>
    if decide (x29_l19 < ((a1.length : Int))) then
      (idx a1 x29_l19).bind fun x25 =>
      (s_step_F n b1_l19 x25).bind fun y27 =>
      if !(decide (y27.2.2 = 0)) then
        some ((Ty.mk 0 0 0 0 ([]) ([]) ([]), false, y27.2.2))
      else
        if I64 (x29_l19 + 1) then
          (s_At_l19 n a1 m) (x5_l19 || y27.2.1) (x29_l19 + 1) y27.1
        else none
    else
      s_At_k16 n x5_l19 b1_l19
def s_At_F (n : Nat) (a0 : Ty) (a1 : List Part) : Option (Ty × Bool × Int) :=
  (s_Check_F n a0).bind fun y4 =>
  if !(decide (y4 = 0)) then
    some ((Ty.mk 0 0 0 0 ([]) ([]) ([]), false, y4))
  else
    (p_Check_F n a1).bind fun y10 =>
    if !(decide (y10 = 0)) then
      some ((Ty.mk 0 0 0 0 ([]) ([]) ([]), false, y10))
    else
      s_At_l19 n a1 n false 0 a0
set_option maxRecDepth 100000 in
set_option maxHeartbeats 4000000 in
theorem s_At_at (w0 : World) (hP : Pow10 w0) (hT : Lib.Utf8Tabs 0 1 w0) (n : Nat) (B : List (List AV)) (Rw : List RowA) (L : List LoopA) (a0 : Ty) (a1 : List Part) (r : Ty × Bool × Int) (h : s_At_F n a0 a1 = some r) :
    ACalls Tryz.prog w0 26 [.agg (a0.cs), .list (a1.map avPt) .none] ⟨B, Rw, L⟩ fun x st => x = .tup [.agg (r.1.cs), .val (.bool r.2.1), .val (.int .i64 r.2.2)] ∧ st = ⟨B, Rw, L⟩ := by
  rw [s_At_F] at h
  refine ACalls.finP (acalls_of (rs := [.cell 4 26, .tmp 5, .tmp 6]) Tryz.func26 rfl rfl Tryz.ntmps26 (enters_some Tryz.func26 rfl (by decide)) (Nat.le_of_ble_eq_true rfl) ?_)
  intro M0 W0 hN hNR hNL hcalm hu
  dsimp only at hN hNR hNL hcalm hu
  simp only [argsE]
  have hO := Owns.none Rw
  have hs := fact0
  refine rg [1, 2, 4, 5] hs ?_
  apply awp_seq; intro K2 hK2
  obtain ⟨y4, hy4, h⟩ := bind_some h
  refine rc 2 [1, 2, 4, 5, 7] hs ?_; intro K3 hK3
  refine callK_p _ (s_Check_at w0 hT n _ _ _ a0 _ hy4) (hv hs) ?_
  refine ne hs hK3 ?_
  clear hK3
  refine rg [1, 2, 4, 5, 7, 17] hs ?_
  refine cnd h hs (fun hs h => ?_) (fun hs h => ?_)
  · skip
    have hb6 := hs.1
    apply awp_seq; intro K7 hK7
    apply awp_region 1 [4, 5, 6]
    rw [evK_succ]; simp +decide only [go_sem, Nat.reduceAdd, hb6, fillA, fillOk, placeT]
    (repeat' apply And.intro) <;> first | refine hK7 _ _ ?_ | exact cl
    clear hK7
    exact rt h hs hcalm hO
  have hb6 := hs.1
  refine sk [1, 2, 4, 5] hs hK2 ?_
  clear hK2
  apply awp_seq; intro K8 hK8
  obtain ⟨y10, hy10, h⟩ := bind_some h
  refine rc 2 [1, 2, 4, 5, 8] hs ?_; intro K9 hK9
  refine callK_p _ (p_Check_at w0 hP n _ _ _ a1 _ hy10) (hv hs) ?_
  refine ne hs hK9 ?_
  clear hK9
  refine rg [1, 2, 4, 5, 8, 23] hs ?_
  refine cnd h hs (fun hs h => ?_) (fun hs h => ?_)
  · skip
    have hb12 := hs.1
    apply awp_seq; intro K13 hK13
    apply awp_region 1 [4, 5, 6]
    rw [evK_succ]; simp +decide only [go_sem, Nat.reduceAdd, hb6, hb12, fillA, fillOk, placeT]
    (repeat' apply And.intro) <;> first | refine hK13 _ _ ?_ | exact cl
    clear hK13
    exact rt h hs hcalm hO
  have hb12 := hs.1
  refine sk [1, 2, 4, 5] hs hK8 ?_
  clear hK8
  refine rg [1, 4, 5] hs ?_
  refine awp_mid (fun e st => ∃ (x5_k16 : Bool) (b1_k16 : Ty) (cb1_k16 : List AV) (X_k16 : List (List AV)) (rows_k16 : List RowA), e = [(4, true, .box (B.length + 1) 0), (5, true, .val (.bool x5_k16))] ∧ st = ⟨B ++ ([a0.cs, cb1_k16] ++ X_k16), rows_k16, L⟩ ∧ Owns Rw rows_k16 [] ∧ cb1_k16.map AV.pubCell = b1_k16.cs ∧ s_At_k16 n x5_k16 b1_k16 = some r) ?_ ?_
  · intro K17 hK17
    refine rg [4, 5, 27, 28, 29] hs ?_
    apply awp_block
    refine awp_loop (fun m e st => ∃ (x5_l19 : Bool) (x29_l19 : Int) (b1_l19 : Ty) (cb1_l19 : List AV) (X_l19 : List (List AV)) (rows_l19 : List RowA), e = [(4, true, .box (B.length + 1) 0), (5, true, .val (.bool x5_l19)), (27, true, .list (a1.map avPt) .none), (28, true, .val (.int .i64 ((a1.length : Int)))), (29, true, .val (.int .i64 x29_l19))] ∧ st = ⟨B ++ ([a0.cs, cb1_l19] ++ X_l19), rows_l19, L⟩ ∧ Owns Rw rows_l19 [] ∧ cb1_l19.map AV.pubCell = b1_l19.cs ∧ s_At_l19 n a1 m x5_l19 x29_l19 b1_l19 = some r) n ⟨false, 0, a0, _, ([]), Rw, ef hs, ef hs, hO, ef hs, h⟩ ?_
    rintro m_l19 e st ⟨x5_l19, x29_l19, b1_l19, cb1_l19, X_l19, rows_l19, rfl, rfl, hO, hr0, h⟩ KR_l19 hKR_l19
    cases m_l19 with
    | zero => cases h
    | succ m_l19 =>
    rw [s_At_l19] at h
    refine awp_pub_cells (B.length + 1) (by first | rfl | (simp only [box_own, box_own0, box_sown, box_sown0]; rfl)) hr0 ?_; simp +decide only [go_sem, Nat.reduceAdd]
    show awp _ _ _ _ _ _ _ _ [(4, true, .box (B.length + 1) 0), (5, true, .val (.bool x5_l19)), (27, true, .list (a1.map avPt) .none), (28, true, .val (.int .i64 ((a1.length : Int)))), (29, true, .val (.int .i64 x29_l19))] ⟨B ++ ([a0.cs, b1_l19.cs] ++ X_l19), rows_l19, L⟩
    refine td hN hNR hNL hcalm hO ?_
    refine rg [4, 5, 27, 28, 29, 30] hs ?_
    apply awp_seq; intro K21 hK21
    refine cnd h hs (fun hs h => ?_) (fun hs h => ?_)
    rotate_left
    · skip
      have hb22 := hs.1
      refine sx [4, 5] hs hK17 ?_
      exact ⟨x5_l19, b1_l19, _, ([]), rows_l19, ef hs, ef hs, hO, ef hs, h⟩
    have hb22 := hs.1
    refine sk [4, 5, 27, 28, 29] hs hK21 ?_
    clear hK21
    apply awp_seq; intro K23 hK23
    apply awp_block
    obtain ⟨x25, hx25, h⟩ := bind_some h
    obtain ⟨hx25a, hx25b, hx25c⟩ := idx_some hx25
    have hx25d := getD_map (f := avPt) hx25c
    have hs := And.intro hx25d hs
    refine rg [4, 5, 10, 27, 28, 29] hs ?_
    obtain ⟨y27, hy27, h⟩ := bind_some h
    refine rc 2 [4, 5, 11, 12, 13, 27, 28, 29] hs ?_; intro K26 hK26
    refine callK_p _ (s_step_at w0 n _ _ _ b1_l19 x25 _ hy27) (hv hs) ?_
    refine ne hs hK26 ?_
    clear hK26
    apply awp_seq; intro K28 hK28
    refine rg [4, 5, 11, 12, 13, 27, 28, 29, 41] hs ?_
    refine cnd h hs (fun hs h => ?_) (fun hs h => ?_)
    · skip
      have hb30 := hs.1
      apply awp_seq; intro K31 hK31
      apply awp_region 1 [4, 5, 6]
      rw [evK_succ]; simp +decide only [go_sem, Nat.reduceAdd, hb6, hb12, hb22, hx25d, hb30, fillA, fillOk, placeT]
      (repeat' apply And.intro) <;> first | refine hK31 _ _ ?_ | exact cl
      clear hK31
      exact rt h hs hcalm hO
    have hb30 := hs.1
    refine sk [4, 5, 11, 12, 27, 28, 29] hs hK28 ?_
    clear hK28
    apply awp_region 1 [4, 5, 27, 28, 29]
    rw [evK_succ]; simp +decide only [go_sem, Nat.reduceAdd, hb6, hb12, hb22, hx25d, hb30]
    (repeat' apply And.intro) <;> first | refine hK23 _ _ ?_ | exact cl
    clear hK23
    obtain ⟨hg32, h⟩ := guard_some h
    apply awp_region 1 [4, 5, 27, 28, 29]
    rw [evK_succ]; simp +decide only [go_sem, Nat.reduceAdd, hb6, hb12, hb22, hx25d, hb30]
    (repeat' apply And.intro) <;> first | refine hKR_l19 m_l19 _ _ (Nat.lt_succ_self m_l19) ⟨(x5_l19 || y27.2.1), (x29_l19 + 1), y27.1, _, ([.val (.int .i64 x25.kind) :: (.val (.int .i64 x25.index) :: ([.val (.string x25.name)])), y27.1.cs]), rows_l19, ef hs, ef hs, hO, ef hs, h⟩ | exact cl
  · clear h; rintro e st ⟨x5_k16, b1_k16, cb1_k16, X_k16, rows_k16, rfl, rfl, hO, hr0, h⟩
    rw [s_At_k16] at h
    refine awp_pub_cells (B.length + 1) (by first | rfl | (simp only [box_own, box_own0, box_sown, box_sown0]; rfl)) hr0 ?_; simp +decide only [go_sem, Nat.reduceAdd]
    show awp _ _ _ _ _ _ _ _ [(4, true, .box (B.length + 1) 0), (5, true, .val (.bool x5_k16))] ⟨B ++ ([a0.cs, b1_k16.cs] ++ X_k16), rows_k16, L⟩
    refine td hN hNR hNL hcalm hO ?_
    obtain ⟨y34, hy34, h⟩ := bind_some h
    refine rc 2 [4, 5, 6] hs ?_; intro K33 hK33
    refine callK_p _ (s_Clone_at w0 n _ _ _ b1_k16 _ hy34) (hv hs) ?_
    refine ne hs hK33 ?_
    clear hK33
    exact rt h hs hcalm hO
end Go.Proofs.YtggimoedcamonaaGreatDoor
namespace Go.Proofs.YtggimoedcamonaaGreatDoor
open Go Go.RowKit Go.Ev
set_option linter.unusedSimpArgs false
set_option linter.unusedVariables false
def v_Bytes_F (a0 : ByteArray) : Vl :=
  Vl.mk 5 0 0 a0 ([]) ([])
set_option maxRecDepth 100000 in
set_option maxHeartbeats 4000000 in
theorem v_Bytes_at (w0 : World) (B : List (List AV)) (Rw : List RowA) (L : List LoopA) (a0 : ByteArray) (r : Vl) (h : v_Bytes_F a0 = r) :
    ACalls Tryz.prog w0 107 [.val (.string a0)] ⟨B, Rw, L⟩ fun x st => x = .agg (r.cs) ∧ st = ⟨B, Rw, L⟩ := by
  rw [v_Bytes_F] at h
  refine ACalls.finP (acalls_of (rs := [.cell 2 34]) Tryz.func107 rfl rfl Tryz.ntmps107 (enters_some Tryz.func107 rfl (by decide)) (Nat.le_of_ble_eq_true rfl) ?_)
  intro M0 W0 hN hNR hNL hcalm hu
  dsimp only at hN hNR hNL hcalm hu
  simp only [argsE]
  have hO := Owns.none Rw
  have hs := fact0
  refine rg [0, 2] hs ?_
  apply awp_seq; intro K2 hK2
  apply awp_region 1 [2]
  rw [evK_succ]; simp +decide only [go_sem, Nat.reduceAdd, fillA, fillOk, placeT]
  (repeat' apply And.intro) <;> first | refine hK2 _ _ ?_ | exact cl
  clear hK2
  apply awp_ret; simp +decide only [go_sem, Nat.reduceAdd]
  subst h
  first | refine fin_q0 hcalm rfl hO.pre ev ⟨?_, rfl⟩ | refine fin_q hcalm rfl hO.pre ev ⟨?_, rfl⟩
  first | rfl | (simp +decide only [go_sem, Nat.reduceAdd]; done) | (simp +decide only [go_sem, Nat.reduceAdd, Vl.cs, Ty.cs]; done)
theorem v_Bytes_at' (w0 : World) (B : List (List AV)) (Rw : List RowA) (L : List LoopA) (a0 : ByteArray) :
    ACalls Tryz.prog w0 107 [.val (.string a0)] ⟨B, Rw, L⟩ fun x st => x = .agg ((v_Bytes_F a0).cs) ∧ st = ⟨B, Rw, L⟩ := v_Bytes_at w0 B Rw L a0 _ rfl
end Go.Proofs.YtggimoedcamonaaGreatDoor
namespace Go.Proofs.YtggimoedcamonaaGreatDoor
open Go Go.RowKit Go.Ev
set_option linter.unusedSimpArgs false
set_option linter.unusedVariables false
def v_List_F (n : Nat) (a0 : List Vl) : Option Vl :=
  (v_Clone_F n (Vl.mk 8 0 0 ((⟨#[]⟩ : ByteArray)) a0 ([]))).bind fun y3 =>
  some (y3)
set_option maxRecDepth 100000 in
set_option maxHeartbeats 4000000 in
theorem v_List_at (w0 : World) (n : Nat) (B : List (List AV)) (Rw : List RowA) (L : List LoopA) (a0 : List Vl) (r : Vl) (h : v_List_F n a0 = some r) :
    ACalls Tryz.prog w0 108 [.list (a0.map avV) .none] ⟨B, Rw, L⟩ fun x st => x = .agg (r.cs) ∧ st = ⟨B, Rw, L⟩ := by
  rw [v_List_F] at h
  refine ACalls.finP (acalls_of (rs := [.cell 2 34]) Tryz.func108 rfl rfl Tryz.ntmps108 (enters_some Tryz.func108 rfl (by decide)) (Nat.le_of_ble_eq_true rfl) ?_)
  intro M0 W0 hN hNR hNL hcalm hu
  dsimp only at hN hNR hNL hcalm hu
  simp only [argsE]
  have hO := Owns.none Rw
  have hs := fact0
  refine rg [0, 2] hs ?_
  apply awp_seq; intro K2 hK2
  obtain ⟨y3, hy3, h⟩ := bind_some h
  apply awp_region 2 [2]
  rw [evK_succ]; simp +decide only [go_sem, Nat.reduceAdd, fillA, fillOk, placeT]
  (repeat' apply And.intro) <;> first | refine callK_p _ (v_Clone_at w0 n _ _ _ (Vl.mk 8 0 0 ((⟨#[]⟩ : ByteArray)) a0 ([])) _ hy3) (by first | rfl | (simp +decide only [go_sem, Nat.reduceAdd, fillA, fillOk, placeT]; done) | (simp +decide only [go_sem, Nat.reduceAdd, Vl.cs, Ty.cs, fillA, fillOk, placeT]; done)) ?_ | exact cl
  rw [evK_succ]; simp +decide only [go_sem, Nat.reduceAdd, fillA, fillOk, placeT]
  (repeat' apply And.intro) <;> first | refine hK2 _ _ ?_ | exact cl
  clear hK2
  exact rt h hs hcalm hO
end Go.Proofs.YtggimoedcamonaaGreatDoor
namespace Go.Proofs.YtggimoedcamonaaGreatDoor
open Go Go.RowKit Go.Ev
set_option linter.unusedSimpArgs false
set_option linter.unusedVariables false
def sl_ContainsFunc_Field_F (n : Nat) (a0 : List (ByteArray × Vl)) (a1 : (ByteArray × Vl) → Option Bool) : Option Bool :=
  (sl_IndexFunc_Field_F n a0 a1).bind fun y3 =>
  some (decide (0 ≤ y3))
set_option maxRecDepth 100000 in
set_option maxHeartbeats 4000000 in
theorem sl_ContainsFunc_Field_at (w0 : World) (n : Nat) (B : List (List AV)) (Rw : List RowA) (L : List LoopA) (a0 : List (ByteArray × Vl)) (fa1 : FuncId) (ca1 : List AV) (a1 : (ByteArray × Vl) → Option Bool) (ha1 : ∀ (x0 : ByteArray × Vl) r, a1 x0 = some r → ∀ B' rows, B <+: B' → Rw <+: rows → ACalls Tryz.prog w0 fa1 ([.agg (.val (.string x0.1) :: (x0.2.cs))] ++ ca1) ⟨B', rows, L⟩ fun v s => v = .val (.bool r) ∧ s = ⟨B', rows, L⟩) (r : Bool) (h : sl_ContainsFunc_Field_F n a0 a1 = some r) :
    ACalls Tryz.prog w0 166 [.list (a0.map avF) .none, .clo fa1 ca1] ⟨B, Rw, L⟩ fun x st => x = .val (.bool r) ∧ st = ⟨B, Rw, L⟩ := by
  rw [sl_ContainsFunc_Field_F] at h
  refine ACalls.finP (acalls_of (rs := [.tmp 4]) Tryz.func166 rfl rfl Tryz.ntmps166 (enters_some Tryz.func166 rfl (by decide)) (Nat.le_of_ble_eq_true rfl) ?_)
  intro M0 W0 hN hNR hNL hcalm hu
  dsimp only at hN hNR hNL hcalm hu
  simp only [argsE]
  have hO := Owns.none Rw
  have hs := fact0
  have hU_a1 := under_caps (hu (.clo fa1 ca1) (by simp))
  refine rg [0, 1] hs ?_
  obtain ⟨y3, hy3, h⟩ := bind_some h
  refine rc 2 [4] hs ?_; intro K2 hK2
  refine callK_p _ (sl_IndexFunc_Field_at w0 n _ _ _ a0 fa1 ca1 a1 (fun x0 r hx B'' rows'' q1 q2 => ha1 x0 r hx B'' rows'' (List.IsPrefix.trans (by first | exact List.prefix_append _ _ | exact List.prefix_refl _) q1) (hO.pre.trans q2)) _ hy3) (hv hs) ?_
  refine ne hs hK2 ?_
  clear hK2
  exact rt h hs hcalm hO
end Go.Proofs.YtggimoedcamonaaGreatDoor
namespace Go.Proofs.YtggimoedcamonaaGreatDoor
open Go Go.RowKit Go.Ev
set_option linter.unusedSimpArgs false
set_option linter.unusedVariables false
def v_Record_1_F (a0 : ByteArray × Vl) (a1 : ByteArray × Vl) : Bool :=
  (sEq a0.1 a1.1) && (!(v_IsNull_F a0.2))
set_option maxRecDepth 100000 in
set_option maxHeartbeats 4000000 in
theorem v_Record_1_at (w0 : World) (B : List (List AV)) (Rw : List RowA) (L : List LoopA) (a0 : ByteArray × Vl) (la1 : Nat) (a1 : ByteArray × Vl) (hla1 : B[la1]? = some (.val (.string a1.1) :: (a1.2.cs))) (r : Bool) (h : v_Record_1_F a0 a1 = r) :
    ACalls Tryz.prog w0 167 [.agg (.val (.string a0.1) :: (a0.2.cs)), .box la1 0] ⟨B, Rw, L⟩ fun x st => x = .val (.bool r) ∧ st = ⟨B, Rw, L⟩ := by
  rw [v_Record_1_F] at h
  refine ACalls.finP (acalls_of (rs := [.tmp 3]) Tryz.func167 rfl rfl Tryz.ntmps167 (enters_some Tryz.func167 rfl (by decide)) (Nat.le_of_ble_eq_true rfl) ?_)
  intro M0 W0 hN hNR hNL hcalm hu
  dsimp only at hN hNR hNL hcalm hu
  simp only [argsE]
  have hO := Owns.none Rw
  have hs := fact0
  have hltla1 := (List.getElem?_eq_some_iff.1 hla1).1
  have hs := And.intro (ptr_of hla1) hs
  refine rg [1, 2] hs ?_
  refine rc 2 [3] hs ?_; intro K2 hK2
  refine callK_p_if _ (fun _ => v_IsNull_at' w0 _ _ _ a0.2) (hv hs) ?_
  refine ne hs hK2 ?_
  clear hK2
  apply awp_ret; simp +decide only [go_sem, Nat.reduceAdd, ptr_of hla1]
  subst h
  first | refine fin_q0 hcalm rfl hO.pre ev ⟨?_, rfl⟩ | refine fin_q hcalm rfl hO.pre ev ⟨?_, rfl⟩
  first | rfl | (simp +decide only [go_sem, Nat.reduceAdd, ptr_of hla1]; done) | (simp +decide only [go_sem, Nat.reduceAdd, Vl.cs, Ty.cs, ptr_of hla1]; done)
theorem v_Record_1_at' (w0 : World) (B : List (List AV)) (Rw : List RowA) (L : List LoopA) (a0 : ByteArray × Vl) (la1 : Nat) (a1 : ByteArray × Vl) (hla1 : B[la1]? = some (.val (.string a1.1) :: (a1.2.cs))) :
    ACalls Tryz.prog w0 167 [.agg (.val (.string a0.1) :: (a0.2.cs)), .box la1 0] ⟨B, Rw, L⟩ fun x st => x = .val (.bool (v_Record_1_F a0 a1)) ∧ st = ⟨B, Rw, L⟩ := v_Record_1_at w0 B Rw L a0 la1 a1 hla1 _ rfl
end Go.Proofs.YtggimoedcamonaaGreatDoor
namespace Go.Proofs.YtggimoedcamonaaGreatDoor
open Go Go.RowKit Go.Ev
set_option linter.unusedSimpArgs false
set_option linter.unusedVariables false
structure VPre (Rw rows : List RowA) : Prop where
  pre : Rw <+: rows
def dflF : ByteArray × Vl := (⟨#[]⟩, Vl.mk 0 0 0 ⟨#[]⟩ [] [])
def sortF (l : List (ByteArray × Vl)) : List (ByteArray × Vl) := sortL Prod.fst dflF l
theorem sortF_length (l : List (ByteArray × Vl)) : (sortF l).length = l.length := by simp only [sortF, sortL, List.length_map]; exact sortI_length _ _
theorem avF_cellsOne (x : ByteArray × Vl) : (avF x).cells.length = 7 ∧ notTup (avF x) = true := by simp +decide only [go_sem, and_self]
theorem avF_pubOne (x : ByteArray × Vl) : (avF x).pub = avF x := by simp +decide only [go_sem]
theorem avF_underOne (x : ByteArray × Vl) : ∀ c ∈ (avF x).cells, ∀ a b d, Under a b d c := by
  intro c hc a b d
  simp only [avF, AV.cells, List.mem_cons] at hc
  rcases hc with rfl | hc
  · exact .val _
  · exact x.2.under a b d c hc
theorem sortF_nil (w0 : World) (st : St) : ACalls Tryz.prog w0 168 [.list [] .none, .clo 169 []] st fun r s => r = .tup [] ∧ s = st := by
  refine ⟨enters_some Tryz.func168 rfl (by decide), fun M w vals hst hrow => ?_⟩
  obtain ⟨v0, v1, rfl⟩ : ∃ v0 v1, vals = #[v0, v1] := by
    have hs := hrow.1
    simp only [List.length_cons, List.length_nil] at hs
    match vals, hs with
    | ⟨[a, b]⟩, _ => exact ⟨a, b, rfl⟩
  have h0 : R w0 M w v0 (.list [] .none) := hrow.2 0 (by simp) (by simp)
  obtain ⟨p, cap, rfl⟩ : ∃ p cap, v0 = .slice p 0 cap := by
    generalize hx : AV.list [] Ev.Own.none = x at h0
    cases h0 with
    | nil ho => exact ⟨_, _, rfl⟩
    | emp ho => exact ⟨_, _, rfl⟩
    | list sz us hc hm hcell hu ho => cases hx; exact ⟨_, _, rfl⟩
    | _ => cases hx
  have h := AnyF.slices_SortFunc_none (P := Tryz.prog) (ρ := Tryz.laysSort_ren) Tryz.laysSort p cap v1 w
  refine h.mono ?_
  rintro en w' ⟨rfl, rfl⟩
  exact ⟨.tuple #[], M, .tup [], st, rfl, ⟨rfl, rfl⟩, .refl _ _ _, hst, .tup rfl (fun i h1 _ => absurd h1 (by simp))⟩
theorem sortF_vec (w0 : World) {st : St} {id ver : Nat} (l : List (ByteArray × Vl)) (hid : st.rows[id]? = some (.vec ver 7 (l.flatMap fun x => (avF x).cells))) (hn : 0 < l.length) (hz : l.length < 4611686018427387904) :
    ACalls Tryz.prog w0 168 [.vec id ver 0 l.length, .clo 169 []] st fun r s => r = .tup [] ∧ s = { st with rows := st.rows.set id (.vec ver 7 ((sortF l).flatMap fun x => (avF x).cells)) } :=
  sort_lift (ρ := Tryz.laysSort_ren) Tryz.laysSort (enters_some Tryz.func168 rfl (by decide)) 6 Tryz.isAgg83 Tryz.sizeOf83 169 (enters_some Tryz.func169 rfl (by decide))
    (fun s s' r r' W h1 h2 h3 h4 => cmpF_calls s s' r r' W h1 h2 h3 h4) avF Prod.fst dflF l (fun x => ⟨x.2.cs, rfl, Vl.cs_length _⟩) hid hn hz
def v_Record_k12 (n : Nat) (again_l7 : Int → (List (ByteArray × Vl)) → Option Vl) (x10_l7 : Int) (b1_k12_5 : List (ByteArray × Vl)) : Option Vl :=
  if I64 (x10_l7 + 1) then
    again_l7 (x10_l7 + 1) b1_k12_5
  else none
def v_Record_k4 (n : Nat)  (b1_k4_5 : List (ByteArray × Vl)) : Option Vl :=
  if b1_k4_5.length < 4611686018427387904 then
    (v_Clone_F n (Vl.mk 9 0 0 ((⟨#[]⟩ : ByteArray)) ([]) (sortF b1_k4_5))).bind fun y29 =>
    some (y29)
  else none
def v_Record_l7 (n : Nat) (a0 : List (ByteArray × Vl)) : Nat → Int → (List (ByteArray × Vl)) → Option Vl
  | 0, _, _ => none
  | m + 1, x10_l7, b1_l7_5 =>
    if decide (x10_l7 < ((a0.length : Int))) then
      (idx a0 x10_l7).bind fun x15 =>
      if I64 (x10_l7 + 1) then
        if 0 ≤ x10_l7 + 1 ∧ x10_l7 + 1 ≤ (a0.length : Int) ∧ (a0.length : Int) ≤ (a0.length : Int) then
          (sl_ContainsFunc_Field_F n (a0.drop (x10_l7 + 1).toNat) (fun (x0 : ByteArray × Vl) => some (v_Record_1_F x0 x15))).bind fun y19 =>
          if (!(v_IsNull_F x15.2)) && (!y19) then
            if (b1_l7_5.length + 1) * 104 ≤ 140737488355328 ∧ b1_l7_5.length + 1 ≤ 4611686018427387904 then
              v_Record_k12 n (v_Record_l7 n a0 m) x10_l7 (b1_l7_5 ++ ([x15]))
            else none
          else
            v_Record_k12 n (v_Record_l7 n a0 m) x10_l7 b1_l7_5
        else none
      else none
    else
      v_Record_k4 n b1_l7_5
def v_Record_F (n : Nat) (a0 : List (ByteArray × Vl)) : Option Vl :=
  v_Record_l7 n a0 n 0 ([])
set_option maxRecDepth 100000 in
set_option maxHeartbeats 4000000 in
theorem v_Record_at (w0 : World) (n : Nat) (B : List (List AV)) (Rw : List RowA) (L : List LoopA) (a0 : List (ByteArray × Vl)) (r : Vl) (h : v_Record_F n a0 = some r) :
    ACalls Tryz.prog w0 110 [.list (a0.map avF) .none] ⟨B, Rw, L⟩ fun x st => x = .agg (r.cs) ∧ st = ⟨B, Rw, L⟩ := by
  rw [v_Record_F] at h
  refine ACalls.finP (acalls_of (rs := [.cell 2 34]) Tryz.func110 rfl rfl Tryz.ntmps110 (enters_some Tryz.func110 rfl (by decide)) (Nat.le_of_ble_eq_true rfl) ?_)
  intro M0 W0 hN hNR hNL hcalm hu
  dsimp only at hN hNR hNL hcalm hu
  simp only [argsE]
  have hO := Owns.none Rw
  have hs := fact0
  refine rg [0, 2] hs ?_
  apply awp_seq; intro K2 hK2
  apply awp_region 1 [0, 2, 3]
  rw [evK_succ]; simp +decide only [go_sem, Nat.reduceAdd, fillA, fillOk, placeT]
  (repeat' apply And.intro) <;> first | refine hK2 _ _ ?_ | exact cl
  clear hK2
  refine awp_mid (fun e st => ∃ (b1_k4_5 : List (ByteArray × Vl)) (ob1_k4_5 : AV) (X_k4 : List (List AV)) (rows_k4 : List RowA), e = [(2, true, .box B.length 0), (3, true, .box (B.length + 1) 0)] ∧ st = ⟨B ++ ([[.val (.int .i64 0), .val (.int .i64 0), .val (.int .i64 0), .val (.string ((⟨#[]⟩ : ByteArray))), .list ([]) .full, .list ([]) .full], [.val (.int .i64 9), .val (.int .i64 0), .val (.int .i64 0), .val (.string ((⟨#[]⟩ : ByteArray))), .list ([]) .full, ob1_k4_5]] ++ X_k4), rows_k4, L⟩ ∧ VOne Rw rows_k4 7 (b1_k4_5.map avF) ob1_k4_5 ∧ v_Record_k4 n b1_k4_5 = some r) ?_ ?_
  · intro K5 hK5
    refine awp_seed_box (B.length + 1) 5 (by first | rfl | (simp only [box_own, box_own0]; rfl)) rfl ?_; simp +decide only [go_sem, Nat.reduceAdd, List.set_cons_succ, List.set_cons_zero]
    refine rg [0, 2, 3, 8, 9, 10] hs ?_
    apply awp_block
    refine awp_loop (fun m e st => ∃ (x10_l7 : Int) (b1_l7_5 : List (ByteArray × Vl)) (ob1_l7_5 : AV) (X_l7 : List (List AV)) (rows_l7 : List RowA), e = [(0, true, .list (a0.map avF) .none), (2, true, .box B.length 0), (3, true, .box (B.length + 1) 0), (8, true, .list (a0.map avF) .none), (9, true, .val (.int .i64 ((a0.length : Int)))), (10, true, .val (.int .i64 x10_l7))] ∧ st = ⟨B ++ ([[.val (.int .i64 0), .val (.int .i64 0), .val (.int .i64 0), .val (.string ((⟨#[]⟩ : ByteArray))), .list ([]) .full, .list ([]) .full], [.val (.int .i64 9), .val (.int .i64 0), .val (.int .i64 0), .val (.string ((⟨#[]⟩ : ByteArray))), .list ([]) .full, ob1_l7_5]] ++ X_l7), rows_l7, L⟩ ∧ VOne Rw rows_l7 7 (b1_l7_5.map avF) ob1_l7_5 ∧ v_Record_l7 n a0 m x10_l7 b1_l7_5 = some r) n ⟨0, [], .list [] .seed, [], Rw, ef hs, ef hs, VOne.none Rw 7, h⟩ ?_
    rintro m_l7 e st ⟨x10_l7, b1_l7_5, ob1_l7_5, X_l7, rows_l7, rfl, rfl, hO, h⟩ KR_l7 hKR_l7
    cases m_l7 with
    | zero => cases h
    | succ m_l7 =>
    rw [v_Record_l7] at h
    have hU := hO.under (B.length + 2) L.length
    refine tdV hN hNR hNL hcalm hO ?_
    refine rg [0, 2, 3, 8, 9, 10, 11] hs ?_
    apply awp_seq; intro K9 hK9
    refine cnd h hs (fun hs h => ?_) (fun hs h => ?_)
    rotate_left
    · skip
      have hb10 := hs.1
      refine sx [2, 3] hs hK5 ?_
      exact ⟨b1_l7_5, ob1_l7_5, ([]), rows_l7, ef hs, ef hs, VOne.of_eq hO (by simp only [List.map_append, List.map_cons, List.map_nil]), h⟩
    have hb10 := hs.1
    refine sk [0, 2, 3, 8, 9, 10] hs hK9 ?_
    clear hK9
    refine awp_mid (fun e st => ∃ (b1_k12_5 : List (ByteArray × Vl)) (ob1_k12_5 : AV) (X_k12 : List (List AV)) (rows_k12 : List RowA), e = [(0, true, .list (a0.map avF) .none), (2, true, .box B.length 0), (3, true, .box (B.length + 1) 0), (8, true, .list (a0.map avF) .none), (9, true, .val (.int .i64 ((a0.length : Int)))), (10, true, .val (.int .i64 x10_l7))] ∧ st = ⟨B ++ ([[.val (.int .i64 0), .val (.int .i64 0), .val (.int .i64 0), .val (.string ((⟨#[]⟩ : ByteArray))), .list ([]) .full, .list ([]) .full], [.val (.int .i64 9), .val (.int .i64 0), .val (.int .i64 0), .val (.string ((⟨#[]⟩ : ByteArray))), .list ([]) .full, ob1_k12_5]] ++ X_k12), rows_k12, L⟩ ∧ VOne Rw rows_k12 7 (b1_k12_5.map avF) ob1_k12_5 ∧ v_Record_k12 n (v_Record_l7 n a0 m_l7) x10_l7 b1_k12_5 = some r) ?_ ?_
    · intro K13 hK13
      apply awp_block
      obtain ⟨x15, hx15, h⟩ := bind_some h
      obtain ⟨hx15a, hx15b, hx15c⟩ := idx_some hx15
      have hx15d := getD_map (f := avF) hx15c
      have hs := And.intro hx15d hs
      refine rg [0, 2, 3, 4, 5, 8, 9, 10] hs ?_
      obtain ⟨hg17, h⟩ := guard_some h
      obtain ⟨hg18, h⟩ := guard_some h
      obtain ⟨y19, hy19, h⟩ := bind_some h
      refine rc 2 [0, 2, 3, 5, 6, 8, 9, 10] hs ?_; intro K16 hK16
      refine callK_p _ (sl_ContainsFunc_Field_at w0 n _ _ _ (a0.drop (x10_l7 + 1).toNat) 167 [.box (B.length + 2) 0] (fun (x0 : ByteArray × Vl) => some (v_Record_1_F x0 x15)) (fun x0 r hx B' rows' hB' hR' => by cases hx; exact v_Record_1_at' w0 _ _ _ x0 _ x15 (prefix_get hB' (ef hs))) _ hy19) (hv hs) ?_
      refine ne hs hK16 ?_
      clear hK16
      refine rc 2 [0, 2, 3, 5, 8, 9, 10, 28] hs ?_; intro K20 hK20
      refine callK_p _ (v_IsNull_at' w0 _ _ _ x15.2) (hv hs) ?_
      refine ne hs hK20 ?_
      clear hK20
      refine cnd h hs (fun hs h => ?_) (fun hs h => ?_)
      · skip
        have hb21 := hs.1
        obtain ⟨hg22, h⟩ := guard_some h
        obtain ⟨o23, rows24, hO, hap25⟩ := hO.append (P := Tryz.prog) (y := avF x15) elT_32 (by rw [zeroT_83]; rfl) (by decide) (by rw [List.length_map]; exact hg22.1) (by rw [List.length_map]; exact hg22.2) (avF_cellsOne x15) (avF_pubOne x15) (avF_underOne x15) (fun z hz => by obtain ⟨y, _, rfl⟩ := List.mem_map.1 hz; exact (avF_cellsOne y).1)
        simp only [avF_eq] at hap25
        replace hap25 := And.intro hap25 hO.cell
        apply awp_region 1 [0, 2, 3, 8, 9, 10]
        rw [evK_succ]; simp +decide only [go_sem, Nat.reduceAdd, hb10, hx15d, hb21, hap25]
        have hs := And.intro hap25 hs
        (repeat' apply And.intro) <;> first | refine hK13 _ _ ⟨(b1_l7_5 ++ ([x15])), o23, ([.val (.string x15.1) :: (x15.2.cs)]), rows24, ef hs, ef hs, VOne.of_eq hO (by simp only [List.map_append, List.map_cons, List.map_nil]), h⟩ | exact cl
      have hb21 := hs.1
      refine sk [0, 2, 3, 8, 9, 10] hs hK13 ?_
      exact ⟨b1_l7_5, ob1_l7_5, ([.val (.string x15.1) :: (x15.2.cs)]), rows_l7, ef hs, ef hs, VOne.of_eq hO (by simp only [List.map_append, List.map_cons, List.map_nil]), h⟩
    · clear h; rintro e st ⟨b1_k12_5, ob1_k12_5, X_k12, rows_k12, rfl, rfl, hO, h⟩
      rw [v_Record_k12] at h
      have hU := hO.under (B.length + 2) L.length
      refine tdV hN hNR hNL hcalm hO ?_
      obtain ⟨hg26, h⟩ := guard_some h
      apply awp_region 1 [0, 2, 3, 8, 9, 10]
      rw [evK_succ]; simp +decide only [go_sem, Nat.reduceAdd, hb10]
      (repeat' apply And.intro) <;> first | refine hKR_l7 m_l7 _ _ (Nat.lt_succ_self m_l7) ⟨(x10_l7 + 1), b1_k12_5, ob1_k12_5, ([]), rows_k12, ef hs, ef hs, VOne.of_eq hO (by simp only [List.map_append, List.map_cons, List.map_nil]), h⟩ | exact cl
  · clear h; rintro e st ⟨b1_k4_5, ob1_k4_5, X_k4, rows_k4, rfl, rfl, hO, h⟩
    rw [v_Record_k4] at h
    have hU := hO.under (B.length + 2) L.length
    refine tdV hN hNR hNL hcalm hO ?_
    obtain ⟨hgL, h⟩ := guard_some h
    rcases hO.at_ with ⟨hnil, rfl⟩ | ⟨id, ver, rfl, hpos, hid, hrow⟩
    · have hb0 : b1_k4_5 = [] := List.map_eq_nil_iff.1 hnil
      subst hb0
      refine rc 2 [2, 3] hs ?_; intro K27 hK27
      refine callK_p _ (sortF_nil w0 _) (hv hs) ?_
      refine ne hs hK27 ?_
      clear hK27
      obtain ⟨y29, hy29, h⟩ := bind_some h
      rw [show sortF [] = [] from List.eq_nil_of_length_eq_zero (sortF_length [])] at hy29
      refine rc 2 [2] hs ?_; intro K28 hK28
      refine callK_p _ (v_Clone_at w0 n _ _ _ (Vl.mk 9 0 0 ((⟨#[]⟩ : ByteArray)) ([]) []) _ hy29) (hv hs) ?_
      refine ne hs hK28 ?_
      clear hK28
      exact rt h hs hcalm hO
    · rw [List.length_map] at hpos
      rw [List.length_map]
      rw [show ((b1_k4_5.map avF).flatMap AV.cells) = b1_k4_5.flatMap fun x => (avF x).cells from List.flatMap_map ..] at hrow
      refine rc 2 [2, 3] hs ?_; intro K27 hK27
      refine callK_pp _ (sortF_vec w0 (st := ⟨_, _, _⟩) b1_k4_5 hrow hpos hgL) (hv hs) ?_; rintro _ _ ⟨rfl, rfl⟩
      refine ne hs hK27 ?_
      clear hK27
      have hlt := (List.getElem?_eq_some_iff.1 hrow).1
      have hvr : vecR (rows_k4.set id (.vec ver 7 ((sortF b1_k4_5).flatMap fun x => (avF x).cells))) id ver = some (7, (sortF b1_k4_5).flatMap fun x => (avF x).cells) := by simp [vecR, hlt]
      have hsl : (sortF b1_k4_5).length = b1_k4_5.length := sortF_length _
      refine awp_freeze_box (B.length + 1) 5 true (by first | rfl | (simp only [box_own, box_own0]; rfl)) rfl hvr (.inl rfl) (by rw [Nat.zero_add, fm_len2 (fun x _ => (avF_cellsOne x).1), hsl]; exact Nat.le_refl _) ?_
      have hfz : frzL 7 true ((sortF b1_k4_5).flatMap fun x => (avF x).cells) 0 b1_k4_5.length = (sortF b1_k4_5).map avF := by
        have := frzL_flat (ys := (sortF b1_k4_5).map avF) (sz := 7) (fun y hy => by obtain ⟨x, _, rfl⟩ := List.mem_map.1 hy; exact ⟨_, rfl, (avF_cellsOne x).1⟩)
        rw [List.length_map, hsl, List.flatMap_map] at this
        exact this
      rw [hfz]
      simp +decide only [go_sem, Nat.reduceAdd, List.set_cons_succ, List.set_cons_zero]
      obtain ⟨y29, hy29, h⟩ := bind_some h
      have hO : VPre Rw ((rows_k4.set id (.vec ver 7 ((sortF b1_k4_5).flatMap fun x => (avF x).cells))).set id (.dead (ver + 1))) := ⟨set_grow_pre (set_grow_pre hO.pre hid _) hid _⟩
      refine rc 2 [2] hs ?_; intro K28 hK28
      refine callK_p _ (v_Clone_at w0 n _ _ _ (Vl.mk 9 0 0 ((⟨#[]⟩ : ByteArray)) ([]) (sortF b1_k4_5)) _ hy29) (hv hs) ?_
      refine ne hs hK28 ?_
      clear hK28
      exact rt h hs hcalm hO
end Go.Proofs.YtggimoedcamonaaGreatDoor
namespace Go.Proofs.YtggimoedcamonaaGreatDoor
open Go Go.RowKit Go.Ev
set_option linter.unusedSimpArgs false
set_option linter.unusedVariables false
def v_Variant_F (n : Nat) (a0 : ByteArray) (a1 : Vl) : Option Vl :=
  (v_Clone_F n (Vl.mk 10 0 0 a0 ([a1]) ([]))).bind fun y3 =>
  some (y3)
set_option maxRecDepth 100000 in
set_option maxHeartbeats 4000000 in
theorem v_Variant_at (w0 : World) (n : Nat) (B : List (List AV)) (Rw : List RowA) (L : List LoopA) (a0 : ByteArray) (a1 : Vl) (r : Vl) (h : v_Variant_F n a0 a1 = some r) :
    ACalls Tryz.prog w0 109 [.val (.string a0), .agg (a1.cs)] ⟨B, Rw, L⟩ fun x st => x = .agg (r.cs) ∧ st = ⟨B, Rw, L⟩ := by
  rw [v_Variant_F] at h
  refine ACalls.finP (acalls_of (rs := [.cell 4 34]) Tryz.func109 rfl rfl Tryz.ntmps109 (enters_some Tryz.func109 rfl (by decide)) (Nat.le_of_ble_eq_true rfl) ?_)
  intro M0 W0 hN hNR hNL hcalm hu
  dsimp only at hN hNR hNL hcalm hu
  simp only [argsE]
  have hO := Owns.none Rw
  have hs := fact0
  refine rg [0, 3, 4] hs ?_
  apply awp_seq; intro K2 hK2
  obtain ⟨y3, hy3, h⟩ := bind_some h
  apply awp_region 2 [4]
  rw [evK_succ]; simp +decide only [go_sem, Nat.reduceAdd, fillA, fillOk, placeT]
  (repeat' apply And.intro) <;> first | refine callK_p _ (v_Clone_at w0 n _ _ _ (Vl.mk 10 0 0 a0 ([a1]) ([])) _ hy3) (by first | rfl | (simp +decide only [go_sem, Nat.reduceAdd, fillA, fillOk, placeT]; done) | (simp +decide only [go_sem, Nat.reduceAdd, Vl.cs, Ty.cs, fillA, fillOk, placeT]; done)) ?_ | exact cl
  rw [evK_succ]; simp +decide only [go_sem, Nat.reduceAdd, fillA, fillOk, placeT]
  (repeat' apply And.intro) <;> first | refine hK2 _ _ ?_ | exact cl
  clear hK2
  exact rt h hs hcalm hO
end Go.Proofs.YtggimoedcamonaaGreatDoor
namespace Go.Proofs.YtggimoedcamonaaGreatDoor
open Go Go.RowKit Go.Ev
set_option linter.unusedSimpArgs false
set_option linter.unusedVariables false
def s_least_k34 (rec : Ty → Option Vl) (n : Nat)  (x3_k34 : List Vl) : Option Vl :=
  (v_List_F n x3_k34).bind fun y50 =>
  some (y50)
def s_least_k69 (rec : Ty → Option Vl) (n : Nat) (again_l64 : (List (ByteArray × Vl)) → Int → Option Vl) (x82_l64 : Int) (x4_k69 : List (ByteArray × Vl)) : Option Vl :=
  if I64 (x82_l64 + 1) then
    again_l64 x4_k69 (x82_l64 + 1)
  else none
def s_least_k61 (rec : Ty → Option Vl) (n : Nat)  (x4_k61 : List (ByteArray × Vl)) : Option Vl :=
  (v_Record_F n x4_k61).bind fun y91 =>
  some (y91)
def s_least_k3 (rec : Ty → Option Vl) (n : Nat) (a0 : Ty) : Option Vl :=
  some (Vl.mk a0.kind 0 0 ((⟨#[]⟩ : ByteArray)) ([]) ([]))
def s_least_l37 (rec : Ty → Option Vl) (n : Nat) (a0 : Ty) : Nat → (List Vl) → Int → Option Vl
  | 0, _, _ => none
  | m + 1, x3_l37, x50_l37 =>
    if decide (x50_l37 < a0.min) then
      (idx a0.elem 0).bind fun x42 =>
      (rec x42).bind fun y43 =>
      if (x3_l37.length + 1) * 88 ≤ 140737488355328 ∧ x3_l37.length + 1 ≤ 4611686018427387904 then
        if I64 (x50_l37 + 1) then
          (s_least_l37 rec n a0 m) (x3_l37 ++ ([y43])) (x50_l37 + 1)
        else none
      else none
    else
      s_least_k34 rec n x3_l37
def s_least_l64 (rec : Ty → Option Vl) (n : Nat) (a0 : Ty) : Nat → (List (ByteArray × Vl)) → Int → Option Vl
  | 0, _, _ => none
  | m + 1, x4_l64, x82_l64 =>
    if decide (x82_l64 < ((a0.fields.length : Int))) then
      (idx a0.fields x82_l64).bind fun x72 =>
      if decide (x72.2.2.1 = 1) then
        (rec x72.2.2.2.1).bind fun y76 =>
        if (x4_l64.length + 1) * 104 ≤ 140737488355328 ∧ x4_l64.length + 1 ≤ 4611686018427387904 then
          s_least_k69 rec n (s_least_l64 rec n a0 m) x82_l64 (x4_l64 ++ ([(x72.2.1, y76)]))
        else none
      else
        if decide (x72.2.2.1 = 3) then
          (idx x72.2.2.2.2 0).bind fun x83 =>
          (v_Clone_F n x83).bind fun y84 =>
          if (x4_l64.length + 1) * 104 ≤ 140737488355328 ∧ x4_l64.length + 1 ≤ 4611686018427387904 then
            s_least_k69 rec n (s_least_l64 rec n a0 m) x82_l64 (x4_l64 ++ ([(x72.2.1, y84)]))
          else none
        else
          s_least_k69 rec n (s_least_l64 rec n a0 m) x82_l64 x4_l64
    else
      s_least_k61 rec n x4_l64
def s_least_k7 (rec : Ty → Option Vl) (n : Nat) (a0 : Ty) (x9_k7 : Bool) : Option Vl :=
  if x9_k7 then
    some (Vl.mk a0.kind ((if a0.min < (if 0 < a0.max then 0 else a0.max) then (if 0 < a0.max then 0 else a0.max) else a0.min)) a0.scale ((⟨#[]⟩ : ByteArray)) ([]) ([]))
  else
    if decide (a0.kind = 4) then
      if decide (0 < ((a0.words.length : Int))) then
        (idx a0.words 0).bind fun x23 =>
        some (v_Text_F x23)
      else
        if 0 ≤ a0.min ∧ a0.min ≤ 9223372036854775807 ∧ ((⟨#[97]⟩ : ByteArray)).size * a0.min.toNat ≤ 140737488355328 then
          some (v_Text_F ((⟨(Lib.repeatL ((⟨#[97]⟩ : ByteArray)).data.toList a0.min.toNat).toArray⟩ : ByteArray)))
        else none
    else
      if decide (a0.kind = 5) then
        if 0 ≤ a0.min ∧ a0.min ≤ 9223372036854775807 ∧ ((⟨#[0]⟩ : ByteArray)).size * a0.min.toNat ≤ 140737488355328 then
          some (v_Bytes_F ((⟨(Lib.repeatL ((⟨#[0]⟩ : ByteArray)).data.toList a0.min.toNat).toArray⟩ : ByteArray)))
        else none
      else
        if decide (a0.kind = 8) then
          s_least_l37 rec n a0 n ([]) 0
        else
          if decide (a0.kind = 10) then
            (idx a0.fields 0).bind fun x54 =>
            (rec x54.2.2.2.1).bind fun y55 =>
            (v_Variant_F n x54.2.1 y55).bind fun y56 =>
            some (y56)
          else
            if decide (a0.kind = 9) then
              s_least_l64 rec n a0 n ([]) 0
            else
              s_least_k3 rec n a0 
def s_least_B (rec : Ty → Option Vl) (n : Nat) (a0 : Ty) : Option Vl :=
  if decide (a0.kind = 2) then
    s_least_k7 rec n a0 true
  else
    if decide (a0.kind = 3) then
      s_least_k7 rec n a0 true
    else
      if decide (a0.kind = 6) then
        s_least_k7 rec n a0 true
      else
        s_least_k7 rec n a0 (decide (a0.kind = 7))
def s_least_F : Nat → Ty → Option Vl
  | 0, _ => none
  | n + 1, a0 => s_least_B (s_least_F n) n a0
set_option maxRecDepth 100000 in
set_option maxHeartbeats 4000000 in
theorem s_least_step (w0 : World) (rec : Ty → Option Vl) (ih : ∀ (B : List (List AV)) (Rw : List RowA) (L : List LoopA) (a0 : Ty) (r : Vl) (h : rec a0 = some r), ACalls Tryz.prog w0 61 [.agg (a0.cs)] ⟨B, Rw, L⟩ fun x st => x = .agg (r.cs) ∧ st = ⟨B, Rw, L⟩) (n : Nat) (B : List (List AV)) (Rw : List RowA) (L : List LoopA) (a0 : Ty) (r : Vl) (h : s_least_B rec n a0 = some r) :
    ACalls Tryz.prog w0 61 [.agg (a0.cs)] ⟨B, Rw, L⟩ fun x st => x = .agg (r.cs) ∧ st = ⟨B, Rw, L⟩ := by
  rw [s_least_B] at h
  refine ACalls.finP (acalls_of (rs := [.cell 2 34]) Tryz.func61 rfl rfl Tryz.ntmps61 (enters_some Tryz.func61 rfl (by decide)) (Nat.le_of_ble_eq_true rfl) ?_)
  intro M0 W0 hN hNR hNL hcalm hu
  dsimp only at hN hNR hNL hcalm hu
  simp only [argsE]
  have hO := Owns.none Rw
  have hs := fact0
  refine rg [1, 2] hs ?_
  refine awp_mid (fun e st => ∃ (X_k3 : List (List AV)) (rows_k3 : List RowA), e = [(1, true, .box B.length 0), (2, true, .box (B.length + 1) 0)] ∧ st = ⟨B ++ ([a0.cs, [.val (.int .i64 0), .val (.int .i64 0), .val (.int .i64 0), .val (.string ((⟨#[]⟩ : ByteArray))), .list ([]) .full, .list ([]) .full]] ++ X_k3), rows_k3, L⟩ ∧ Owns Rw rows_k3 [] ∧ s_least_k3 rec n a0  = some r) ?_ ?_
  · intro K4 hK4
    refine rg [1, 2, 8] hs ?_
    apply awp_block
    refine awp_mid (fun e st => ∃ (x9_k7 : Bool) (X_k7 : List (List AV)) (rows_k7 : List RowA), e = [(1, true, .box B.length 0), (2, true, .box (B.length + 1) 0), (8, true, .val (.int .i64 a0.kind)), (9, true, .val (.bool x9_k7))] ∧ st = ⟨B ++ ([a0.cs, [.val (.int .i64 0), .val (.int .i64 0), .val (.int .i64 0), .val (.string ((⟨#[]⟩ : ByteArray))), .list ([]) .full, .list ([]) .full]] ++ X_k7), rows_k7, L⟩ ∧ Owns Rw rows_k7 [] ∧ s_least_k7 rec n a0 x9_k7 = some r) ?_ ?_
    · intro K8 hK8
      refine rg [1, 2, 8, 9] hs ?_
      refine cnd h hs (fun hs h => ?_) (fun hs h => ?_)
      · skip
        have hb10 := hs.1
        refine sk [1, 2, 8, 9] hs hK8 ?_
        exact ⟨true, ([]), Rw, ef hs, ef hs, hO, h⟩
      have hb10 := hs.1
      refine rg [1, 2, 8, 9] hs ?_
      refine cnd h hs (fun hs h => ?_) (fun hs h => ?_)
      · skip
        have hb12 := hs.1
        refine sk [1, 2, 8, 9] hs hK8 ?_
        exact ⟨true, ([]), Rw, ef hs, ef hs, hO, h⟩
      have hb12 := hs.1
      refine rg [1, 2, 8, 9] hs ?_
      refine cnd h hs (fun hs h => ?_) (fun hs h => ?_)
      · skip
        have hb14 := hs.1
        refine sk [1, 2, 8, 9] hs hK8 ?_
        exact ⟨true, ([]), Rw, ef hs, ef hs, hO, h⟩
      have hb14 := hs.1
      apply awp_region 1 [1, 2, 8, 9]
      rw [evK_succ]; simp +decide only [go_sem, Nat.reduceAdd, hb10, hb12, hb14]
      (repeat' apply And.intro) <;> first | refine hK8 _ _ ⟨(decide (a0.kind = 7)), ([]), Rw, ef hs, ef hs, hO, h⟩ | exact cl
    · clear h; rintro e st ⟨x9_k7, X_k7, rows_k7, rfl, rfl, hO, h⟩
      rw [s_least_k7] at h
      refine td hN hNR hNL hcalm hO ?_
      refine cnd h hs (fun hs h => ?_) (fun hs h => ?_)
      · skip
        have hb15 := hs.1
        apply awp_seq; intro K16 hK16
        apply awp_region 1 [2]
        rw [evK_succ]; simp +decide only [go_sem, Nat.reduceAdd, hb15, fillA, fillOk, placeT]
        (repeat' apply And.intro) <;> first | refine hK16 _ _ ?_ | exact cl
        clear hK16
        exact rt h hs hcalm hO
      have hb15 := hs.1
      refine rg [1, 2, 8, 25] hs ?_
      refine cnd h hs (fun hs h => ?_) (fun hs h => ?_)
      · skip
        have hb18 := hs.1
        apply awp_seq; intro K19 hK19
        refine rg [1, 2, 30] hs ?_
        refine cnd h hs (fun hs h => ?_) (fun hs h => ?_)
        · skip
          obtain ⟨x23, hx23, h⟩ := bind_some h
          obtain ⟨hx23a, hx23b, hx23c⟩ := idx_some hx23
          have hx23d := getD_map (f := avS) hx23c
          have hx23e : (a0.words.map avS).getD 0 .junk = _ := hx23d
          have hs := And.intro hx23d hs
          have hs := And.intro hx23e hs
          refine rc 2 [2] hs ?_; intro K22 hK22
          refine callK_p _ (v_Text_at' w0 _ _ _ x23) (hv hs) ?_
          refine ne hs hK22 ?_
          clear hK22
          exact rt h hs hcalm hO
        refine sk [1, 2] hs hK19 ?_
        clear hK19
        obtain ⟨hg25, h⟩ := guard_some h
        refine rc 3 [2] hs ?_; intro K24 hK24
        refine callK_p _ (sRepeat_at2 w0 _ _ _ ((⟨#[97]⟩ : ByteArray)) a0.min hg25) (hv hs) ?_
        refine nc hs ?_
        refine callK_p _ (v_Text_at' w0 _ _ _ ((⟨(Lib.repeatL ((⟨#[97]⟩ : ByteArray)).data.toList a0.min.toNat).toArray⟩ : ByteArray))) (hv hs) ?_
        refine ne hs hK24 ?_
        clear hK24
        exact rt h hs hcalm hO
      have hb18 := hs.1
      refine rg [1, 2, 8, 40] hs ?_
      refine cnd h hs (fun hs h => ?_) (fun hs h => ?_)
      · skip
        have hb27 := hs.1
        obtain ⟨hg29, h⟩ := guard_some h
        refine rc 3 [2] hs ?_; intro K28 hK28
        refine callK_p _ (sRepeat_at2 w0 _ _ _ ((⟨#[0]⟩ : ByteArray)) a0.min hg29) (hv hs) ?_
        refine nc hs ?_
        refine callK_p _ (v_Bytes_at' w0 _ _ _ ((⟨(Lib.repeatL ((⟨#[0]⟩ : ByteArray)).data.toList a0.min.toNat).toArray⟩ : ByteArray))) (hv hs) ?_
        refine ne hs hK28 ?_
        clear hK28
        exact rt h hs hcalm hO
      have hb27 := hs.1
      refine rg [1, 2, 8, 46] hs ?_
      refine cnd h hs (fun hs h => ?_) (fun hs h => ?_)
      · skip
        have hb31 := hs.1
        refine rg [1, 2, 3] hs ?_
        refine awp_mid (fun e st => ∃ (x3_k34 : List Vl) (ox3_k34 : Ev.Own) (X_k34 : List (List AV)) (rows_k34 : List RowA), e = [(2, true, .box (B.length + 1) 0), (3, true, .list (x3_k34.map avV) ox3_k34)] ∧ st = ⟨B ++ ([a0.cs, [.val (.int .i64 0), .val (.int .i64 0), .val (.int .i64 0), .val (.string ((⟨#[]⟩ : ByteArray))), .list ([]) .full, .list ([]) .full]] ++ X_k34), rows_k34, L⟩ ∧ Owns Rw rows_k34 [(6, x3_k34.length, ox3_k34)] ∧ s_least_k34 rec n x3_k34 = some r) ?_ ?_
        · intro K35 hK35
          refine rg [1, 2, 3, 49, 50] hs ?_
          apply awp_block
          refine awp_loop (fun m e st => ∃ (x3_l37 : List Vl) (x50_l37 : Int) (ox3_l37 : Ev.Own) (X_l37 : List (List AV)) (rows_l37 : List RowA), e = [(1, true, .box B.length 0), (2, true, .box (B.length + 1) 0), (3, true, .list (x3_l37.map avV) ox3_l37), (49, true, .val (.int .i64 a0.min)), (50, true, .val (.int .i64 x50_l37))] ∧ st = ⟨B ++ ([a0.cs, [.val (.int .i64 0), .val (.int .i64 0), .val (.int .i64 0), .val (.string ((⟨#[]⟩ : ByteArray))), .list ([]) .full, .list ([]) .full]] ++ X_l37), rows_l37, L⟩ ∧ Owns Rw rows_l37 [(6, x3_l37.length, ox3_l37)] ∧ s_least_l37 rec n a0 m x3_l37 x50_l37 = some r) n ⟨([]), 0, .full, ([]), rows_k7, ef hs, ef hs, Owns.of_eq ((hO).full 6 0) (by first | rfl | simp only [List.length_append, List.length_cons, List.length_nil, List.length_map, Nat.zero_add, Nat.add_zero]), h⟩ ?_
          rintro m_l37 e st ⟨x3_l37, x50_l37, ox3_l37, X_l37, rows_l37, rfl, rfl, hO, h⟩ KR_l37 hKR_l37
          cases m_l37 with
          | zero => cases h
          | succ m_l37 =>
          rw [s_least_l37] at h
          have hU := hO.unders
          simp only [List.mem_cons, List.not_mem_nil, or_false, forall_eq_or_imp, forall_eq] at hU
          refine td hN hNR hNL hcalm hO ?_
          refine rg [1, 2, 3, 49, 50, 51] hs ?_
          apply awp_seq; intro K39 hK39
          refine cnd h hs (fun hs h => ?_) (fun hs h => ?_)
          rotate_left
          · skip
            have hb40 := hs.1
            refine sx [2, 3] hs hK35 ?_
            exact ⟨x3_l37, ox3_l37, ([]), rows_l37, ef hs, ef hs, Owns.of_eq (hO) (by first | rfl | simp only [List.length_append, List.length_cons, List.length_nil, List.length_map, Nat.zero_add, Nat.add_zero]), h⟩
          have hb40 := hs.1
          refine sk [1, 2, 3, 49, 50] hs hK39 ?_
          clear hK39
          apply awp_seq; intro K41 hK41
          apply awp_block
          obtain ⟨x42, hx42, h⟩ := bind_some h
          obtain ⟨hx42a, hx42b, hx42c⟩ := idx_some hx42
          have hx42d := getD_map (f := avT) hx42c
          have hx42e : (a0.elem.map avT).getD 0 .junk = _ := hx42d
          obtain ⟨y43, hy43, h⟩ := bind_some h
          obtain ⟨hg44, h⟩ := guard_some h
          obtain ⟨o45, rows46, hO, hap47⟩ := hO.append (P := Tryz.prog) elT_31 (by rw [zeroT_34]; rfl) (by decide) 1 hg44.1 hg44.2
          replace hap47 := fun (ys : List AV) B L o2 => hap47 (x3_l37.map avV) ys B L o2 (by first | rfl | simp only [List.length_map, List.length_nil, List.length_append, List.length_cons, Nat.zero_add])
          replace hap47 := fun (y : AV) B L o2 => hap47 [y] B L o2 (by first | rfl | simp only [List.length_map, List.length_nil, List.length_cons]) ev
          try simp only [List.mem_singleton, List.mem_cons, List.not_mem_nil, or_false, forall_eq_or_imp, forall_eq, List.map_append, List.map_cons, List.map_nil, avI_eq, avB_eq, avS_eq, avV_eq, avT_eq, avF_eq, avTF_eq, avPt_eq, avL_eq, avSch_eq, avItm_eq, avLm_eq] at hap47
          apply awp_region 2 [1, 2, 3, 49, 50]
          rw [evK_succ]; simp +decide only [go_sem, Nat.reduceAdd, hb15, hb18, hb27, hb31, hb40, hx42d, hx42e, hap47]
          have hs := And.intro hx42d hs
          have hs := And.intro hx42e hs
          have hs := And.intro hap47 hs
          (repeat' apply And.intro) <;> first | refine callK_p _ (ih _ _ _ x42 _ hy43) (hv hs) ?_ | exact cl
          rw [evK_succ]; simp +decide only [go_sem, Nat.reduceAdd, hb15, hb18, hb27, hb31, hb40, hx42d, hx42e, hap47]
          (repeat' apply And.intro) <;> first | refine hK41 _ _ ?_ | exact cl
          clear hK41
          obtain ⟨hg48, h⟩ := guard_some h
          apply awp_region 1 [1, 2, 3, 49, 50]
          rw [evK_succ]; simp +decide only [go_sem, Nat.reduceAdd, hb15, hb18, hb27, hb31, hb40, hx42d, hx42e, hap47]
          (repeat' apply And.intro) <;> first | refine hKR_l37 m_l37 _ _ (Nat.lt_succ_self m_l37) ⟨(x3_l37 ++ ([y43])), (x50_l37 + 1), o45, ([]), rows46, ef hs, ef hs, Owns.of_eq (hO) (by first | rfl | simp only [List.length_append, List.length_cons, List.length_nil, List.length_map, Nat.zero_add, Nat.add_zero]), h⟩ | exact cl
        · clear h; rintro e st ⟨x3_k34, ox3_k34, X_k34, rows_k34, rfl, rfl, hO, h⟩
          rw [s_least_k34] at h
          have hU := hO.unders
          simp only [List.mem_cons, List.not_mem_nil, or_false, forall_eq_or_imp, forall_eq] at hU
          refine td hN hNR hNL hcalm hO ?_
          obtain ⟨y50, hy50, h⟩ := bind_some h
          refine rc 2 [2] hs ?_; intro K49 hK49
          refine callK_p _ (v_List_at w0 n _ _ _ x3_k34 _ hy50) (hv hs) ?_
          refine ne hs hK49 ?_
          clear hK49
          exact rt h hs hcalm hO
      have hb31 := hs.1
      refine rg [1, 2, 8, 63] hs ?_
      refine cnd h hs (fun hs h => ?_) (fun hs h => ?_)
      · skip
        have hb52 := hs.1
        apply awp_seq; intro K53 hK53
        obtain ⟨x54, hx54, h⟩ := bind_some h
        obtain ⟨hx54a, hx54b, hx54c⟩ := idx_some hx54
        have hx54d := getD_map (f := avTF) hx54c
        have hx54e : (a0.fields.map avTF).getD 0 .junk = _ := hx54d
        obtain ⟨y55, hy55, h⟩ := bind_some h
        obtain ⟨y56, hy56, h⟩ := bind_some h
        apply awp_draw mix 12 3 1 [2] (by kernel_rfl)
        rw [evK_succ]; simp +decide only [go_sem, Nat.reduceAdd, hb15, hb18, hb27, hb31, hb52, hx54d, hx54e]
        have hs := And.intro hx54d hs
        have hs := And.intro hx54e hs
        (repeat' apply And.intro) <;> first | refine callK_p _ (ih _ _ _ x54.2.2.2.1 _ hy55) (hv hs) ?_ | exact cl
        rw [evK_succ]; simp +decide only [go_sem, Nat.reduceAdd, hb15, hb18, hb27, hb31, hb52, hx54d, hx54e]
        (repeat' apply And.intro) <;> first | refine callK_p _ (v_Variant_at w0 n _ _ _ x54.2.1 y55 _ hy56) (hv hs) ?_ | exact cl
        rw [evK_succ]; simp +decide only [go_sem, Nat.reduceAdd, hb15, hb18, hb27, hb31, hb52, hx54d, hx54e]
        (repeat' with_reducible apply And.intro) <;> first | (rw [evK_succ]; simp +decide only [go_sem, Nat.reduceAdd, hb15, hb18, hb27, hb31, hb52, hx54d, hx54e]) | exact cl
        (repeat' apply And.intro) <;> first | refine hK53 _ _ ?_ | exact cl
        clear hK53
        exact rt h hs hcalm hO
      have hb52 := hs.1
      refine rg [1, 2, 77] hs ?_
      refine cnd h hs (fun hs h => ?_) (fun hs h => ?_)
      · skip
        have hb58 := hs.1
        refine rg [1, 2, 4] hs ?_
        refine awp_mid (fun e st => ∃ (x4_k61 : List (ByteArray × Vl)) (ox4_k61 : Ev.Own) (X_k61 : List (List AV)) (rows_k61 : List RowA), e = [(2, true, .box (B.length + 1) 0), (4, true, .list (x4_k61.map avF) ox4_k61)] ∧ st = ⟨B ++ ([a0.cs, [.val (.int .i64 0), .val (.int .i64 0), .val (.int .i64 0), .val (.string ((⟨#[]⟩ : ByteArray))), .list ([]) .full, .list ([]) .full]] ++ X_k61), rows_k61, L⟩ ∧ Owns Rw rows_k61 [(7, x4_k61.length, ox4_k61)] ∧ s_least_k61 rec n x4_k61 = some r) ?_ ?_
        · intro K62 hK62
          refine rg [2, 4, 80, 81, 82] hs ?_
          apply awp_block
          refine awp_loop (fun m e st => ∃ (x4_l64 : List (ByteArray × Vl)) (x82_l64 : Int) (ox4_l64 : Ev.Own) (X_l64 : List (List AV)) (rows_l64 : List RowA), e = [(2, true, .box (B.length + 1) 0), (4, true, .list (x4_l64.map avF) ox4_l64), (80, true, .list (a0.fields.map avTF) .none), (81, true, .val (.int .i64 ((a0.fields.length : Int)))), (82, true, .val (.int .i64 x82_l64))] ∧ st = ⟨B ++ ([a0.cs, [.val (.int .i64 0), .val (.int .i64 0), .val (.int .i64 0), .val (.string ((⟨#[]⟩ : ByteArray))), .list ([]) .full, .list ([]) .full]] ++ X_l64), rows_l64, L⟩ ∧ Owns Rw rows_l64 [(7, x4_l64.length, ox4_l64)] ∧ s_least_l64 rec n a0 m x4_l64 x82_l64 = some r) n ⟨([]), 0, .full, ([]), rows_k7, ef hs, ef hs, Owns.of_eq ((hO).full 7 0) (by first | rfl | simp only [List.length_append, List.length_cons, List.length_nil, List.length_map, Nat.zero_add, Nat.add_zero]), h⟩ ?_
          rintro m_l64 e st ⟨x4_l64, x82_l64, ox4_l64, X_l64, rows_l64, rfl, rfl, hO, h⟩ KR_l64 hKR_l64
          cases m_l64 with
          | zero => cases h
          | succ m_l64 =>
          rw [s_least_l64] at h
          have hU := hO.unders
          simp only [List.mem_cons, List.not_mem_nil, or_false, forall_eq_or_imp, forall_eq] at hU
          refine td hN hNR hNL hcalm hO ?_
          refine rg [2, 4, 80, 81, 82, 83] hs ?_
          apply awp_seq; intro K66 hK66
          refine cnd h hs (fun hs h => ?_) (fun hs h => ?_)
          rotate_left
          · skip
            have hb67 := hs.1
            refine sx [2, 4] hs hK62 ?_
            exact ⟨x4_l64, ox4_l64, ([]), rows_l64, ef hs, ef hs, Owns.of_eq (hO) (by first | rfl | simp only [List.length_append, List.length_cons, List.length_nil, List.length_map, Nat.zero_add, Nat.add_zero]), h⟩
          have hb67 := hs.1
          refine sk [2, 4, 80, 81, 82] hs hK66 ?_
          clear hK66
          refine awp_mid (fun e st => ∃ (x4_k69 : List (ByteArray × Vl)) (ox4_k69 : Ev.Own) (X_k69 : List (List AV)) (rows_k69 : List RowA), e = [(2, true, .box (B.length + 1) 0), (4, true, .list (x4_k69.map avF) ox4_k69), (80, true, .list (a0.fields.map avTF) .none), (81, true, .val (.int .i64 ((a0.fields.length : Int)))), (82, true, .val (.int .i64 x82_l64))] ∧ st = ⟨B ++ ([a0.cs, [.val (.int .i64 0), .val (.int .i64 0), .val (.int .i64 0), .val (.string ((⟨#[]⟩ : ByteArray))), .list ([]) .full, .list ([]) .full]] ++ X_k69), rows_k69, L⟩ ∧ Owns Rw rows_k69 [(7, x4_k69.length, ox4_k69)] ∧ s_least_k69 rec n (s_least_l64 rec n a0 m_l64) x82_l64 x4_k69 = some r) ?_ ?_
          · intro K70 hK70
            apply awp_block
            obtain ⟨x72, hx72, h⟩ := bind_some h
            obtain ⟨hx72a, hx72b, hx72c⟩ := idx_some hx72
            have hx72d := getD_map (f := avTF) hx72c
            have hs := And.intro hx72d hs
            refine rg [2, 4, 6, 80, 81, 82] hs ?_
            refine rg [2, 4, 6, 80, 81, 82, 87] hs ?_
            apply awp_block
            refine rg [2, 4, 6, 80, 81, 82, 87, 88] hs ?_
            refine cnd h hs (fun hs h => ?_) (fun hs h => ?_)
            · skip
              have hb75 := hs.1
              obtain ⟨y76, hy76, h⟩ := bind_some h
              obtain ⟨hg77, h⟩ := guard_some h
              obtain ⟨o78, rows79, hO, hap80⟩ := hO.append (P := Tryz.prog) elT_32 (by rw [zeroT_83]; rfl) (by decide) 1 hg77.1 hg77.2
              replace hap80 := fun (ys : List AV) B L o2 => hap80 (x4_l64.map avF) ys B L o2 (by first | rfl | simp only [List.length_map, List.length_nil, List.length_append, List.length_cons, Nat.zero_add])
              replace hap80 := fun (y : AV) B L o2 => hap80 [y] B L o2 (by first | rfl | simp only [List.length_map, List.length_nil, List.length_cons]) ev
              try simp only [List.mem_singleton, List.mem_cons, List.not_mem_nil, or_false, forall_eq_or_imp, forall_eq, List.map_append, List.map_cons, List.map_nil, avI_eq, avB_eq, avS_eq, avV_eq, avT_eq, avF_eq, avTF_eq, avPt_eq, avL_eq, avSch_eq, avItm_eq, avLm_eq] at hap80
              apply awp_draw mix 8 2 1 [2, 4, 80, 81, 82] (by kernel_rfl)
              rw [evK_succ]; simp +decide only [go_sem, Nat.reduceAdd, hb15, hb18, hb27, hb31, hb52, hb58, hb67, hx72d, hb75, hap80, fillA, fillOk, placeT]
              (repeat' apply And.intro) <;> first | refine callK_p _ (ih _ _ _ x72.2.2.2.1 _ hy76) (by first | rfl | (simp +decide only [go_sem, Nat.reduceAdd, hb15, hb18, hb27, hb31, hb52, hb58, hb67, hx72d, hb75, hap80, fillA, fillOk, placeT]; done) | (simp +decide only [go_sem, Nat.reduceAdd, Vl.cs, Ty.cs, hb15, hb18, hb27, hb31, hb52, hb58, hb67, hx72d, hb75, hap80, fillA, fillOk, placeT]; done)) ?_ | exact cl
              rw [evK_succ]; simp +decide only [go_sem, Nat.reduceAdd, hb15, hb18, hb27, hb31, hb52, hb58, hb67, hx72d, hb75, hap80, fillA, fillOk, placeT]
              (repeat' with_reducible apply And.intro) <;> first | (rw [evK_succ]; simp +decide only [go_sem, Nat.reduceAdd, hb15, hb18, hb27, hb31, hb52, hb58, hb67, hx72d, hb75, hap80, fillA, fillOk, placeT]) | exact cl
              have hs := And.intro hap80 hs
              (repeat' apply And.intro) <;> first | refine hK70 _ _ ⟨(x4_l64 ++ ([(x72.2.1, y76)])), o78, ([.val (.int .i64 x72.1) :: (.val (.string x72.2.1) :: (.val (.int .i64 x72.2.2.1) :: ((x72.2.2.2.1.cs) ++ ([.list (x72.2.2.2.2.map avV) .none]))))]), rows79, ef hs, ef hs, Owns.of_eq (hO) (by first | rfl | simp only [List.length_append, List.length_cons, List.length_nil, List.length_map, Nat.zero_add, Nat.add_zero]), h⟩ | exact cl
            have hb75 := hs.1
            refine rg [2, 4, 6, 80, 81, 82, 99] hs ?_
            refine cnd h hs (fun hs h => ?_) (fun hs h => ?_)
            · skip
              have hb82 := hs.1
              obtain ⟨x83, hx83, h⟩ := bind_some h
              obtain ⟨hx83a, hx83b, hx83c⟩ := idx_some hx83
              have hx83d := getD_map (f := avV) hx83c
              have hx83e : (x72.2.2.2.2.map avV).getD 0 .junk = _ := hx83d
              obtain ⟨y84, hy84, h⟩ := bind_some h
              obtain ⟨hg85, h⟩ := guard_some h
              obtain ⟨o86, rows87, hO, hap88⟩ := hO.append (P := Tryz.prog) elT_32 (by rw [zeroT_83]; rfl) (by decide) 1 hg85.1 hg85.2
              replace hap88 := fun (ys : List AV) B L o2 => hap88 (x4_l64.map avF) ys B L o2 (by first | rfl | simp only [List.length_map, List.length_nil, List.length_append, List.length_cons, Nat.zero_add])
              replace hap88 := fun (y : AV) B L o2 => hap88 [y] B L o2 (by first | rfl | simp only [List.length_map, List.length_nil, List.length_cons]) ev
              try simp only [List.mem_singleton, List.mem_cons, List.not_mem_nil, or_false, forall_eq_or_imp, forall_eq, List.map_append, List.map_cons, List.map_nil, avI_eq, avB_eq, avS_eq, avV_eq, avT_eq, avF_eq, avTF_eq, avPt_eq, avL_eq, avSch_eq, avItm_eq, avLm_eq] at hap88
              apply awp_draw mix 10 2 1 [2, 4, 80, 81, 82] (by kernel_rfl)
              rw [evK_succ]; simp +decide only [go_sem, Nat.reduceAdd, hb15, hb18, hb27, hb31, hb52, hb58, hb67, hx72d, hb75, hb82, hx83d, hx83e, hap88, fillA, fillOk, placeT]
              (repeat' apply And.intro) <;> first | refine callK_p _ (v_Clone_at w0 n _ _ _ x83 _ hy84) (by first | rfl | (simp +decide only [go_sem, Nat.reduceAdd, hb15, hb18, hb27, hb31, hb52, hb58, hb67, hx72d, hb75, hb82, hx83d, hx83e, hap88, fillA, fillOk, placeT]; done) | (simp +decide only [go_sem, Nat.reduceAdd, Vl.cs, Ty.cs, hb15, hb18, hb27, hb31, hb52, hb58, hb67, hx72d, hb75, hb82, hx83d, hx83e, hap88, fillA, fillOk, placeT]; done)) ?_ | exact cl
              rw [evK_succ]; simp +decide only [go_sem, Nat.reduceAdd, hb15, hb18, hb27, hb31, hb52, hb58, hb67, hx72d, hb75, hb82, hx83d, hx83e, hap88, fillA, fillOk, placeT]
              (repeat' with_reducible apply And.intro) <;> first | (rw [evK_succ]; simp +decide only [go_sem, Nat.reduceAdd, hb15, hb18, hb27, hb31, hb52, hb58, hb67, hx72d, hb75, hb82, hx83d, hx83e, hap88, fillA, fillOk, placeT]) | exact cl
              have hs := And.intro hx83d hs
              have hs := And.intro hx83e hs
              have hs := And.intro hap88 hs
              (repeat' apply And.intro) <;> first | refine hK70 _ _ ⟨(x4_l64 ++ ([(x72.2.1, y84)])), o86, ([.val (.int .i64 x72.1) :: (.val (.string x72.2.1) :: (.val (.int .i64 x72.2.2.1) :: ((x72.2.2.2.1.cs) ++ ([.list (x72.2.2.2.2.map avV) .none]))))]), rows87, ef hs, ef hs, Owns.of_eq (hO) (by first | rfl | simp only [List.length_append, List.length_cons, List.length_nil, List.length_map, Nat.zero_add, Nat.add_zero]), h⟩ | exact cl
            have hb82 := hs.1
            refine sk [2, 4, 80, 81, 82] hs hK70 ?_
            exact ⟨x4_l64, ox4_l64, ([.val (.int .i64 x72.1) :: (.val (.string x72.2.1) :: (.val (.int .i64 x72.2.2.1) :: ((x72.2.2.2.1.cs) ++ ([.list (x72.2.2.2.2.map avV) .none]))))]), rows_l64, ef hs, ef hs, Owns.of_eq (hO) (by first | rfl | simp only [List.length_append, List.length_cons, List.length_nil, List.length_map, Nat.zero_add, Nat.add_zero]), h⟩
          · clear h; rintro e st ⟨x4_k69, ox4_k69, X_k69, rows_k69, rfl, rfl, hO, h⟩
            rw [s_least_k69] at h
            have hU := hO.unders
            simp only [List.mem_cons, List.not_mem_nil, or_false, forall_eq_or_imp, forall_eq] at hU
            refine td hN hNR hNL hcalm hO ?_
            obtain ⟨hg89, h⟩ := guard_some h
            apply awp_region 1 [2, 4, 80, 81, 82]
            rw [evK_succ]; simp +decide only [go_sem, Nat.reduceAdd, hb15, hb18, hb27, hb31, hb52, hb58, hb67]
            (repeat' apply And.intro) <;> first | refine hKR_l64 m_l64 _ _ (Nat.lt_succ_self m_l64) ⟨x4_k69, (x82_l64 + 1), ox4_k69, ([]), rows_k69, ef hs, ef hs, Owns.of_eq (hO) (by first | rfl | simp only [List.length_append, List.length_cons, List.length_nil, List.length_map, Nat.zero_add, Nat.add_zero]), h⟩ | exact cl
        · clear h; rintro e st ⟨x4_k61, ox4_k61, X_k61, rows_k61, rfl, rfl, hO, h⟩
          rw [s_least_k61] at h
          have hU := hO.unders
          simp only [List.mem_cons, List.not_mem_nil, or_false, forall_eq_or_imp, forall_eq] at hU
          refine td hN hNR hNL hcalm hO ?_
          obtain ⟨y91, hy91, h⟩ := bind_some h
          refine rc 2 [2] hs ?_; intro K90 hK90
          refine callK_p _ (v_Record_at w0 n _ _ _ x4_k61 _ hy91) (hv hs) ?_
          refine ne hs hK90 ?_
          clear hK90
          exact rt h hs hcalm hO
      have hb58 := hs.1
      refine sk [1, 2] hs hK4 ?_
      exact ⟨([]), rows_k7, ef hs, ef hs, hO, h⟩
  · clear h; rintro e st ⟨X_k3, rows_k3, rfl, rfl, hO, h⟩
    rw [s_least_k3] at h
    refine td hN hNR hNL hcalm hO ?_
    apply awp_seq; intro K92 hK92
    apply awp_region 1 [2]
    rw [evK_succ]; simp +decide only [go_sem, Nat.reduceAdd, fillA, fillOk, placeT]
    (repeat' apply And.intro) <;> first | refine hK92 _ _ ?_ | exact cl
    clear hK92
    exact rt h hs hcalm hO
theorem s_least_at (w0 : World) : ∀ (n : Nat) (B : List (List AV)) (Rw : List RowA) (L : List LoopA) (a0 : Ty) (r : Vl) (h : s_least_F n a0 = some r), ACalls Tryz.prog w0 61 [.agg (a0.cs)] ⟨B, Rw, L⟩ fun x st => x = .agg (r.cs) ∧ st = ⟨B, Rw, L⟩
  | 0, _, _, _, _, _, h => (nomatch h)
  | n + 1, B, Rw, L, a0, r, h => s_least_step w0 (s_least_F n) (s_least_at w0 n) n B Rw L a0 r (by rw [s_least_F] at h; exact h)
end Go.Proofs.YtggimoedcamonaaGreatDoor
namespace Go.Proofs.YtggimoedcamonaaGreatDoor
open Go Go.RowKit Go.Ev
set_option linter.unusedSimpArgs false
set_option linter.unusedVariables false
def s_Least_F (n : Nat) (a0 : Ty) : Option (Vl × Int) :=
  (s_Check_F n a0).bind fun y4 =>
  if !(decide (y4 = 0)) then
    some ((Vl.mk 0 0 0 ((⟨#[]⟩ : ByteArray)) ([]) ([]), y4))
  else
    (s_least_F n a0).bind fun y9 =>
    some ((y9, 0))
set_option maxRecDepth 100000 in
set_option maxHeartbeats 4000000 in
theorem s_Least_at (w0 : World) (hT : Lib.Utf8Tabs 0 1 w0) (n : Nat) (B : List (List AV)) (Rw : List RowA) (L : List LoopA) (a0 : Ty) (r : Vl × Int) (h : s_Least_F n a0 = some r) :
    ACalls Tryz.prog w0 21 [.agg (a0.cs)] ⟨B, Rw, L⟩ fun x st => x = .tup [.agg (r.1.cs), .val (.int .i64 r.2)] ∧ st = ⟨B, Rw, L⟩ := by
  rw [s_Least_F] at h
  refine ACalls.finP (acalls_of (rs := [.cell 2 34, .tmp 3]) Tryz.func21 rfl rfl Tryz.ntmps21 (enters_some Tryz.func21 rfl (by decide)) (Nat.le_of_ble_eq_true rfl) ?_)
  intro M0 W0 hN hNR hNL hcalm hu
  dsimp only at hN hNR hNL hcalm hu
  simp only [argsE]
  have hO := Owns.none Rw
  have hs := fact0
  refine rg [1, 2] hs ?_
  apply awp_seq; intro K2 hK2
  obtain ⟨y4, hy4, h⟩ := bind_some h
  refine rc 2 [1, 2, 4] hs ?_; intro K3 hK3
  refine callK_p _ (s_Check_at w0 hT n _ _ _ a0 _ hy4) (hv hs) ?_
  refine ne hs hK3 ?_
  clear hK3
  refine rg [1, 2, 4, 8] hs ?_
  refine cnd h hs (fun hs h => ?_) (fun hs h => ?_)
  · skip
    have hb6 := hs.1
    apply awp_seq; intro K7 hK7
    apply awp_region 1 [2, 3]
    rw [evK_succ]; simp +decide only [go_sem, Nat.reduceAdd, hb6, fillA, fillOk, placeT]
    (repeat' apply And.intro) <;> first | refine hK7 _ _ ?_ | exact cl
    clear hK7
    exact rt h hs hcalm hO
  have hb6 := hs.1
  refine sk [1, 2] hs hK2 ?_
  clear hK2
  obtain ⟨y9, hy9, h⟩ := bind_some h
  refine rc 2 [2, 3] hs ?_; intro K8 hK8
  refine callK_p _ (s_least_at w0 n _ _ _ a0 _ hy9) (hv hs) ?_
  refine ne hs hK8 ?_
  clear hK8
  exact rt h hs hcalm hO
end Go.Proofs.YtggimoedcamonaaGreatDoor
namespace Go.Proofs.YtggimoedcamonaaGreatDoor
open Go Go.RowKit Go.Ev
set_option linter.unusedSimpArgs false
set_option linter.unusedVariables false
def l6_known_F (n : Nat)  : Option Bool :=
  (s_Least_F n (l6_example_F )).bind fun y4 =>
  (s_At_F n (l6_example_F ) ([Part.mk 1 0 ((⟨#[108]⟩ : ByteArray)), Part.mk 2 2 ((⟨#[]⟩ : ByteArray))])).bind fun y6 =>
  (s_Check_F n (l6_example_F )).bind fun y8 =>
  if ((decide (y8 = 0)) && (decide (y4.2 = 0))) && (decide (((y4.1.fields.length : Int)) = 1)) then
    (idx y4.1.fields 0).bind fun x10 =>
    if sEq x10.1 ((⟨#[110]⟩ : ByteArray)) then
      if decide (x10.2.int = 1) then
        (s_Accepts_F n (l6_example_F ) y4.1).bind fun y13 =>
        some ((((y13 && (decide (y6.2.2 = 0))) && y6.2.1) && (decide (y6.1.kind = 4))) && (decide (y6.1.max = 5)))
      else
        some (false)
    else
      some (false)
  else
    some (false)
set_option maxRecDepth 100000 in
set_option maxHeartbeats 4000000 in
theorem l6_known_at (w0 : World) (hP : Pow10 w0) (hT : Lib.Utf8Tabs 0 1 w0) (n : Nat) (B : List (List AV)) (Rw : List RowA) (L : List LoopA)  (r : Bool) (h : l6_known_F n  = some r) :
    ACalls Tryz.prog w0 14 [] ⟨B, Rw, L⟩ fun x st => x = .val (.bool r) ∧ st = ⟨B, Rw, L⟩ := by
  rw [l6_known_F] at h
  refine ACalls.finP (acalls_of (rs := [.tmp 0]) Tryz.func14 rfl rfl Tryz.ntmps14 (enters_some Tryz.func14 rfl (by decide)) (Nat.le_of_ble_eq_true rfl) ?_)
  intro M0 W0 hN hNR hNL hcalm hu
  dsimp only at hN hNR hNL hcalm hu
  simp only [argsE]
  have hO := Owns.none Rw
  have hs := fact0
  refine rg [] hs ?_
  refine rc 2 [1] hs ?_; intro K2 hK2
  refine callK_p _ (l6_example_at' w0 _ _ _ ) (hv hs) ?_
  refine ne hs hK2 ?_
  clear hK2
  obtain ⟨y4, hy4, h⟩ := bind_some h
  refine rc 2 [1, 2, 3] hs ?_; intro K3 hK3
  refine callK_p _ (s_Least_at w0 hT n _ _ _ (l6_example_F ) _ hy4) (hv hs) ?_
  refine ne hs hK3 ?_
  clear hK3
  apply awp_seq; intro K5 hK5
  obtain ⟨y6, hy6, h⟩ := bind_some h
  apply awp_region 2 [1, 2, 3, 4, 5, 6]
  rw [evK_succ]; simp +decide only [go_sem, Nat.reduceAdd, fillA, fillOk, placeT]
  (repeat' apply And.intro) <;> first | refine callK_p _ (s_At_at w0 hP hT n _ _ _ (l6_example_F ) ([Part.mk 1 0 ((⟨#[108]⟩ : ByteArray)), Part.mk 2 2 ((⟨#[]⟩ : ByteArray))]) _ hy6) (by first | rfl | (simp +decide only [go_sem, Nat.reduceAdd, fillA, fillOk, placeT]; done) | (simp +decide only [go_sem, Nat.reduceAdd, Vl.cs, Ty.cs, fillA, fillOk, placeT]; done)) ?_ | exact cl
  rw [evK_succ]; simp +decide only [go_sem, Nat.reduceAdd, fillA, fillOk, placeT]
  (repeat' apply And.intro) <;> first | refine hK5 _ _ ?_ | exact cl
  clear hK5
  apply awp_seq; intro K7 hK7
  obtain ⟨y8, hy8, h⟩ := bind_some h
  rcases Bool.eq_false_or_eq_true (((decide (y8 = 0)) && (decide (y4.2 = 0))) && (decide (((y4.1.fields.length : Int)) = 1))) with hf9 | hf9
  · replace h := ite_tt h hf9
    obtain ⟨x10, hx10, h⟩ := bind_some h
    obtain ⟨hx10a, hx10b, hx10c⟩ := idx_some hx10
    have hx10d := getD_map (f := avF) hx10c
    have hx10e : (y4.1.fields.map avF).getD 0 .junk = _ := hx10d
    rcases Bool.eq_false_or_eq_true (sEq x10.1 ((⟨#[110]⟩ : ByteArray))) with hf11 | hf11
    · replace h := ite_tt h hf11
      rcases Bool.eq_false_or_eq_true (decide (x10.2.int = 1)) with hf12 | hf12
      · replace h := ite_tt h hf12
        obtain ⟨y13, hy13, h⟩ := bind_some h
        apply awp_region 3 [0]
        rw [evK_succ]; simp +decide only [go_sem, Nat.reduceAdd, hf9, hx10d, hx10e, hf11, hf12]
        have hs := And.intro hf9 hs
        have hs := And.intro hx10d hs
        have hs := And.intro hx10e hs
        have hs := And.intro hf11 hs
        have hs := And.intro hf12 hs
        (repeat' apply And.intro) <;> first | refine callK_p _ (s_Check_at w0 hT n _ _ _ (l6_example_F ) _ hy8) (hv hs) ?_ | exact cl
        rw [evK_succ]; simp +decide only [go_sem, Nat.reduceAdd, hf9, hx10d, hx10e, hf11, hf12]
        (repeat' apply And.intro) <;> first | refine callK_p _ (s_Accepts_at w0 hT n _ _ _ (l6_example_F ) y4.1 _ hy13) (hv hs) ?_ | exact cl
        rw [evK_succ]; simp +decide only [go_sem, Nat.reduceAdd, hf9, hx10d, hx10e, hf11, hf12]
        (repeat' apply And.intro) <;> first | refine hK7 _ _ ?_ | exact cl
        clear hK7
        exact rt h hs hcalm hO
      · replace h := ite_ff h hf12
        apply awp_region 3 [0]
        rw [evK_succ]; simp +decide only [go_sem, Nat.reduceAdd, hf9, hx10d, hx10e, hf11, hf12]
        have hs := And.intro hf9 hs
        have hs := And.intro hx10d hs
        have hs := And.intro hx10e hs
        have hs := And.intro hf11 hs
        have hs := And.intro hf12 hs
        (repeat' apply And.intro) <;> first | refine callK_p _ (s_Check_at w0 hT n _ _ _ (l6_example_F ) _ hy8) (hv hs) ?_ | exact cl
        rw [evK_succ]; simp +decide only [go_sem, Nat.reduceAdd, hf9, hx10d, hx10e, hf11, hf12]
        (repeat' apply And.intro) <;> first | refine callK_skip ?_ | exact cl
        rw [evK_succ]; simp +decide only [go_sem, Nat.reduceAdd, hf9, hx10d, hx10e, hf11, hf12]
        (repeat' apply And.intro) <;> first | refine hK7 _ _ ?_ | exact cl
        clear hK7
        exact rt h hs hcalm hO
    · replace h := ite_ff h hf11
      apply awp_region 3 [0]
      rw [evK_succ]; simp +decide only [go_sem, Nat.reduceAdd, hf9, hx10d, hx10e, hf11]
      have hs := And.intro hf9 hs
      have hs := And.intro hx10d hs
      have hs := And.intro hx10e hs
      have hs := And.intro hf11 hs
      (repeat' apply And.intro) <;> first | refine callK_p _ (s_Check_at w0 hT n _ _ _ (l6_example_F ) _ hy8) (hv hs) ?_ | exact cl
      rw [evK_succ]; simp +decide only [go_sem, Nat.reduceAdd, hf9, hx10d, hx10e, hf11]
      (repeat' apply And.intro) <;> first | refine callK_skip ?_ | exact cl
      rw [evK_succ]; simp +decide only [go_sem, Nat.reduceAdd, hf9, hx10d, hx10e, hf11]
      (repeat' apply And.intro) <;> first | refine hK7 _ _ ?_ | exact cl
      clear hK7
      exact rt h hs hcalm hO
  · replace h := ite_ff h hf9
    apply awp_region 3 [0]
    rw [evK_succ]; simp +decide only [go_sem, Nat.reduceAdd, hf9]
    have hs := And.intro hf9 hs
    (repeat' apply And.intro) <;> first | refine callK_p _ (s_Check_at w0 hT n _ _ _ (l6_example_F ) _ hy8) (hv hs) ?_ | exact cl
    rw [evK_succ]; simp +decide only [go_sem, Nat.reduceAdd, hf9]
    (repeat' apply And.intro) <;> first | refine callK_skip ?_ | exact cl
    rw [evK_succ]; simp +decide only [go_sem, Nat.reduceAdd, hf9]
    (repeat' apply And.intro) <;> first | refine hK7 _ _ ?_ | exact cl
    clear hK7
    exact rt h hs hcalm hO
end Go.Proofs.YtggimoedcamonaaGreatDoor
namespace Go.Proofs.YtggimoedcamonaaGreatDoor
open Go Go.RowKit Go.Ev
set_option linter.unusedSimpArgs false
set_option linter.unusedVariables false
def l6_smallValue_k25 (rec : Vl → Int → Int → Option (Bool × Int)) (n : Nat)  (pla2_k25 : Int) : Option (Bool × Int) :=
  some ((true, pla2_k25))
def l6_smallValue_l28 (rec : Vl → Int → Int → Option (Bool × Int)) (n : Nat) (a0 : Vl) (a1 : Int) : Nat → Int → Int → Option (Bool × Int)
  | 0, _, _ => none
  | m + 1, x8_l28, pla2_l28 =>
    if decide (x8_l28 < ((a0.fields.length : Int))) then
      (idx a0.fields x8_l28).bind fun x34 =>
      if decide (100 < ((x34.1.size : Int))) then
        some ((false, pla2_l28))
      else
        if I64 (a1 - 1) then
          (rec x34.2 (a1 - 1) pla2_l28).bind fun y39 =>
          if !y39.1 then
            some ((false, y39.2))
          else
            if I64 (x8_l28 + 1) then
              (l6_smallValue_l28 rec n a0 a1 m) (x8_l28 + 1) y39.2
            else none
        else none
    else
      l6_smallValue_k25 rec n pla2_l28
def l6_smallValue_k9 (rec : Vl → Int → Int → Option (Bool × Int)) (n : Nat) (a0 : Vl) (a1 : Int) (pla2_k9 : Int) : Option (Bool × Int) :=
  l6_smallValue_l28 rec n a0 a1 n 0 pla2_k9
def l6_smallValue_l12 (rec : Vl → Int → Int → Option (Bool × Int)) (n : Nat) (a0 : Vl) (a1 : Int) : Nat → Int → Int → Option (Bool × Int)
  | 0, _, _ => none
  | m + 1, x7_l12, pla2_l12 =>
    if decide (x7_l12 < ((a0.list.length : Int))) then
      (idx a0.list x7_l12).bind fun x18 =>
      if I64 (a1 - 1) then
        (rec x18 (a1 - 1) pla2_l12).bind fun y20 =>
        if !y20.1 then
          some ((false, y20.2))
        else
          if I64 (x7_l12 + 1) then
            (l6_smallValue_l12 rec n a0 a1 m) (x7_l12 + 1) y20.2
          else none
      else none
    else
      l6_smallValue_k9 rec n a0 a1 pla2_l12
def l6_smallValue_B (rec : Vl → Int → Int → Option (Bool × Int)) (n : Nat) (a0 : Vl) (a1 : Int) (a2 : Int) : Option (Bool × Int) :=
  if I64 (a2 - 1) then
    if ((decide ((a2 - 1) < 0)) || (decide (a1 = 0))) || (decide (2000 < ((a0.text.size : Int)))) then
      some ((false, a2 - 1))
    else
      l6_smallValue_l12 rec n a0 a1 n 0 (a2 - 1)
  else none
def l6_smallValue_F : Nat → Vl → Int → Int → Option (Bool × Int)
  | 0, _, _, _ => none
  | n + 1, a0, a1, a2 => l6_smallValue_B (l6_smallValue_F n) n a0 a1 a2
set_option maxRecDepth 100000 in
set_option maxHeartbeats 4000000 in
theorem l6_smallValue_step (w0 : World) (rec : Vl → Int → Int → Option (Bool × Int)) (ih : ∀ (B : List (List AV)) (Rw : List RowA) (L : List LoopA) (a0 : Vl) (a1 : Int) (la2 : Nat) (a2 : Int) (hla2 : B[la2]? = some ([.val (.int .i64 a2)])) (r : Bool × Int) (h : rec a0 a1 a2 = some r), ACalls Tryz.prog w0 57 [.agg (a0.cs), .val (.int .i64 a1), .box la2 0] ⟨B, Rw, L⟩ fun x st => x = .val (.bool r.1) ∧ st = ⟨(B.set la2 [.val (.int .i64 r.2)]), Rw, L⟩) (n : Nat) (B : List (List AV)) (Rw : List RowA) (L : List LoopA) (a0 : Vl) (a1 : Int) (la2 : Nat) (a2 : Int) (hla2 : B[la2]? = some ([.val (.int .i64 a2)])) (r : Bool × Int) (h : l6_smallValue_B rec n a0 a1 a2 = some r) :
    ACalls Tryz.prog w0 57 [.agg (a0.cs), .val (.int .i64 a1), .box la2 0] ⟨B, Rw, L⟩ fun x st => x = .val (.bool r.1) ∧ st = ⟨(B.set la2 [.val (.int .i64 r.2)]), Rw, L⟩ := by
  rw [l6_smallValue_B] at h
  refine ACalls.finP (acalls_of (rs := [.tmp 6]) Tryz.func57 rfl rfl Tryz.ntmps57 (enters_some Tryz.func57 rfl (by decide)) (Nat.le_of_ble_eq_true rfl) ?_)
  intro M0 W0 hN hNR hNL hcalm hu
  dsimp only at hN hNR hNL hcalm hu
  simp only [argsE]
  have hO := Owns.none Rw
  have hs := fact0
  have hltla2 := (List.getElem?_eq_some_iff.1 hla2).1
  have hs := And.intro (ptr_of hla2) hs
  refine rg [1, 2, 3] hs ?_
  obtain ⟨hg3, h⟩ := guard_some h
  refine rg [1, 2, 3] hs ?_
  apply awp_seq; intro K4 hK4
  refine rg [1, 2, 3, 27] hs ?_
  refine cnd h hs (fun hs h => ?_) (fun hs h => ?_)
  · skip
    have hb6 := hs.1
    refine rg [6] hs ?_
    apply awp_ret; simp +decide only [go_sem, Nat.reduceAdd, ptr_of hla2, hb6]
    have hgt := Option.some.inj h; subst hgt
    first | refine fin_q0 (calm_set hcalm ev) (by simp only [List.length_set]) hO.pre ev ⟨?_, rfl⟩ | refine fin_q (calm_set hcalm ev) (by simp only [List.length_set]) hO.pre ev ⟨?_, rfl⟩
    first | rfl | (simp +decide only [go_sem, Nat.reduceAdd, ptr_of hla2, hb6]; done) | (simp +decide only [go_sem, Nat.reduceAdd, Vl.cs, Ty.cs, ptr_of hla2, hb6]; done)
  have hb6 := hs.1
  refine sk [1, 2, 3] hs hK4 ?_
  clear hK4
  refine awp_mid (fun e st => ∃ (pla2_k9 : Int) (X_k9 : List (List AV)) (rows_k9 : List RowA), e = [(1, true, .val (.int .i64 a1)), (2, true, .box la2 0), (3, true, .box B.length 0)] ∧ st = ⟨(B.set la2 ([.val (.int .i64 pla2_k9)])) ++ ([a0.cs] ++ X_k9), rows_k9, L⟩ ∧ Owns Rw rows_k9 [] ∧ l6_smallValue_k9 rec n a0 a1 pla2_k9 = some r) ?_ ?_
  · intro K10 hK10
    refine rg [1, 2, 3, 7] hs ?_
    apply awp_block
    refine awp_loop (fun m e st => ∃ (x7_l12 : Int) (pla2_l12 : Int) (X_l12 : List (List AV)) (rows_l12 : List RowA), e = [(1, true, .val (.int .i64 a1)), (2, true, .box la2 0), (3, true, .box B.length 0), (7, true, .val (.int .i64 x7_l12))] ∧ st = ⟨(B.set la2 ([.val (.int .i64 pla2_l12)])) ++ ([a0.cs] ++ X_l12), rows_l12, L⟩ ∧ Owns Rw rows_l12 [] ∧ l6_smallValue_l12 rec n a0 a1 m x7_l12 pla2_l12 = some r) n ⟨0, (a2 - 1), ([]), Rw, ef hs, ef hs, hO, h⟩ ?_
    rintro m_l12 e st ⟨x7_l12, pla2_l12, X_l12, rows_l12, rfl, rfl, hO, h⟩ KR_l12 hKR_l12
    cases m_l12 with
    | zero => cases h
    | succ m_l12 =>
    rw [l6_smallValue_l12] at h
    refine awp_tidy hN hNR hNL (by simp only [List.length_set]) (calm_set hcalm ev) hO (by (simp +decide only [go_sem, Nat.reduceAdd]) <;> (try (repeat' apply And.intro)) <;> first | omega | assumption) (by (simp +decide only [go_sem, Nat.reduceAdd, calmE]) <;> (try (repeat' apply And.intro)) <;> first | omega | assumption) ?_
    apply awp_seq; intro K13 hK13
    refine rg [1, 2, 3, 7, 32] hs ?_
    refine cnd h hs (fun hs h => ?_) (fun hs h => ?_)
    rotate_left
    · skip
      have hb15 := hs.1
      refine sx [1, 2, 3] hs hK10 ?_
      exact ⟨pla2_l12, ([]), rows_l12, ef hs, ef hs, hO, h⟩
    have hb15 := hs.1
    refine sk [1, 2, 3, 7] hs hK13 ?_
    clear hK13
    apply awp_seq; intro K16 hK16
    apply awp_block
    obtain ⟨x18, hx18, h⟩ := bind_some h
    obtain ⟨hx18a, hx18b, hx18c⟩ := idx_some hx18
    have hx18d := getD_map (f := avV) hx18c
    obtain ⟨hg19, h⟩ := guard_some h
    obtain ⟨y20, hy20, h⟩ := bind_some h
    have hs := And.intro hx18d hs
    refine rc 2 [1, 2, 3, 7, 44] hs ?_; intro K17 hK17
    refine callK_pp _ (ih _ _ _ x18 (a1 - 1) la2 pla2_l12 (ef hs) _ hy20) (hv hs) ?_; rintro _ _ ⟨rfl, rfl⟩
    refine ne hs hK17 ?_
    clear hK17
    refine cnd h hs (fun hs h => ?_) (fun hs h => ?_)
    · skip
      have hb21 := hs.1
      refine rg [6] hs ?_
      apply awp_ret; simp +decide only [go_sem, Nat.reduceAdd, ptr_of hla2, hb6, hb15, hx18d, hb21]
      have hgt := Option.some.inj h; subst hgt
      first | refine fin_q0 (calm_set hcalm ev) (by simp only [List.length_set]) hO.pre ev ⟨?_, rfl⟩ | refine fin_q (calm_set hcalm ev) (by simp only [List.length_set]) hO.pre ev ⟨?_, rfl⟩
      first | rfl | (simp +decide only [go_sem, Nat.reduceAdd, ptr_of hla2, hb6, hb15, hx18d, hb21]; done) | (simp +decide only [go_sem, Nat.reduceAdd, Vl.cs, Ty.cs, ptr_of hla2, hb6, hb15, hx18d, hb21]; done)
    have hb21 := hs.1
    refine sk [1, 2, 3, 7] hs hK16 ?_
    clear hK16
    obtain ⟨hg23, h⟩ := guard_some h
    apply awp_region 1 [1, 2, 3, 7]
    rw [evK_succ]; simp +decide only [go_sem, Nat.reduceAdd, ptr_of hla2, hb6, hb15, hx18d, hb21]
    (repeat' apply And.intro) <;> first | refine hKR_l12 m_l12 _ _ (Nat.lt_succ_self m_l12) ⟨(x7_l12 + 1), y20.2, ([]), rows_l12, ef hs, ef hs, hO, h⟩ | exact cl
  · clear h; rintro e st ⟨pla2_k9, X_k9, rows_k9, rfl, rfl, hO, h⟩
    rw [l6_smallValue_k9] at h
    refine awp_tidy hN hNR hNL (by simp only [List.length_set]) (calm_set hcalm ev) hO (by (simp +decide only [go_sem, Nat.reduceAdd]) <;> (try (repeat' apply And.intro)) <;> first | omega | assumption) (by (simp +decide only [go_sem, Nat.reduceAdd, calmE]) <;> (try (repeat' apply And.intro)) <;> first | omega | assumption) ?_
    refine awp_mid (fun e st => ∃ (pla2_k25 : Int) (X_k25 : List (List AV)) (rows_k25 : List RowA), e = [] ∧ st = ⟨(B.set la2 ([.val (.int .i64 pla2_k25)])) ++ ([a0.cs] ++ X_k25), rows_k25, L⟩ ∧ Owns Rw rows_k25 [] ∧ l6_smallValue_k25 rec n pla2_k25 = some r) ?_ ?_
    · intro K26 hK26
      refine rg [1, 2, 3, 8] hs ?_
      apply awp_block
      refine awp_loop (fun m e st => ∃ (x8_l28 : Int) (pla2_l28 : Int) (X_l28 : List (List AV)) (rows_l28 : List RowA), e = [(1, true, .val (.int .i64 a1)), (2, true, .box la2 0), (3, true, .box B.length 0), (8, true, .val (.int .i64 x8_l28))] ∧ st = ⟨(B.set la2 ([.val (.int .i64 pla2_l28)])) ++ ([a0.cs] ++ X_l28), rows_l28, L⟩ ∧ Owns Rw rows_l28 [] ∧ l6_smallValue_l28 rec n a0 a1 m x8_l28 pla2_l28 = some r) n ⟨0, pla2_k9, ([]), rows_k9, ef hs, ef hs, hO, h⟩ ?_
      rintro m_l28 e st ⟨x8_l28, pla2_l28, X_l28, rows_l28, rfl, rfl, hO, h⟩ KR_l28 hKR_l28
      cases m_l28 with
      | zero => cases h
      | succ m_l28 =>
      rw [l6_smallValue_l28] at h
      refine awp_tidy hN hNR hNL (by simp only [List.length_set]) (calm_set hcalm ev) hO (by (simp +decide only [go_sem, Nat.reduceAdd]) <;> (try (repeat' apply And.intro)) <;> first | omega | assumption) (by (simp +decide only [go_sem, Nat.reduceAdd, calmE]) <;> (try (repeat' apply And.intro)) <;> first | omega | assumption) ?_
      apply awp_seq; intro K29 hK29
      refine rg [1, 2, 3, 8, 49] hs ?_
      refine cnd h hs (fun hs h => ?_) (fun hs h => ?_)
      rotate_left
      · skip
        have hb31 := hs.1
        refine sx [] hs hK26 ?_
        exact ⟨pla2_l28, ([]), rows_l28, ef hs, ef hs, hO, h⟩
      have hb31 := hs.1
      refine sk [1, 2, 3, 8] hs hK29 ?_
      clear hK29
      apply awp_seq; intro K32 hK32
      apply awp_block
      apply awp_seq; intro K33 hK33
      obtain ⟨x34, hx34, h⟩ := bind_some h
      obtain ⟨hx34a, hx34b, hx34c⟩ := idx_some hx34
      have hx34d := getD_map (f := avF) hx34c
      rcases Bool.eq_false_or_eq_true (decide (100 < ((x34.1.size : Int)))) with hf35 | hf35
      · replace h := ite_tt h hf35
        apply awp_region 2 [1, 2, 3, 8, 72]
        rw [evK_succ]; simp +decide only [go_sem, Nat.reduceAdd, ptr_of hla2, hb6, hb31, hx34d, hf35]
        (repeat' apply And.intro) <;> first | refine callK_skip ?_ | exact cl
        rw [evK_succ]; simp +decide only [go_sem, Nat.reduceAdd, ptr_of hla2, hb6, hb31, hx34d, hf35]
        (repeat' apply And.intro) <;> first | refine hK33 _ _ ?_ | exact cl
        clear hK33
        have hs := And.intro hx34d hs
        have hs := And.intro hf35 hs
        refine awp_cond true ev (ef hs) (fun hb36 => ?_) (fun hb36 => by cases hb36)
        refine rg [6] hs ?_
        apply awp_ret; simp +decide only [go_sem, Nat.reduceAdd, ptr_of hla2, hb6, hb31, hx34d, hf35]
        have hgt := Option.some.inj h; subst hgt
        first | refine fin_q0 (calm_set hcalm ev) (by simp only [List.length_set]) hO.pre ev ⟨?_, rfl⟩ | refine fin_q (calm_set hcalm ev) (by simp only [List.length_set]) hO.pre ev ⟨?_, rfl⟩
        first | rfl | (simp +decide only [go_sem, Nat.reduceAdd, ptr_of hla2, hb6, hb31, hx34d, hf35]; done) | (simp +decide only [go_sem, Nat.reduceAdd, Vl.cs, Ty.cs, ptr_of hla2, hb6, hb31, hx34d, hf35]; done)
      · replace h := ite_ff h hf35
        obtain ⟨hg38, h⟩ := guard_some h
        obtain ⟨y39, hy39, h⟩ := bind_some h
        apply awp_region 2 [1, 2, 3, 8, 72]
        rw [evK_succ]; simp +decide only [go_sem, Nat.reduceAdd, ptr_of hla2, hb6, hb31, hx34d, hf35]
        have hs := And.intro hx34d hs
        have hs := And.intro hf35 hs
        (repeat' apply And.intro) <;> first | (refine callK_pp _ (ih _ _ _ x34.2 (a1 - 1) la2 pla2_l28 (ef hs) _ hy39) (hv hs) ?_; rintro _ _ ⟨rfl, rfl⟩) | exact cl
        rw [evK_succ]; simp +decide only [go_sem, Nat.reduceAdd, ptr_of hla2, hb6, hb31, hx34d, hf35]
        (repeat' apply And.intro) <;> first | refine hK33 _ _ ?_ | exact cl
        clear hK33
        refine cnd h hs (fun hs h => ?_) (fun hs h => ?_)
        · skip
          have hb40 := hs.1
          refine rg [6] hs ?_
          apply awp_ret; simp +decide only [go_sem, Nat.reduceAdd, ptr_of hla2, hb6, hb31, hx34d, hf35, hb40]
          have hgt := Option.some.inj h; subst hgt
          first | refine fin_q0 (calm_set hcalm ev) (by simp only [List.length_set]) hO.pre ev ⟨?_, rfl⟩ | refine fin_q (calm_set hcalm ev) (by simp only [List.length_set]) hO.pre ev ⟨?_, rfl⟩
          first | rfl | (simp +decide only [go_sem, Nat.reduceAdd, ptr_of hla2, hb6, hb31, hx34d, hf35, hb40]; done) | (simp +decide only [go_sem, Nat.reduceAdd, Vl.cs, Ty.cs, ptr_of hla2, hb6, hb31, hx34d, hf35, hb40]; done)
        have hb40 := hs.1
        refine sk [1, 2, 3, 8] hs hK32 ?_
        clear hK32
        obtain ⟨hg42, h⟩ := guard_some h
        apply awp_region 1 [1, 2, 3, 8]
        rw [evK_succ]; simp +decide only [go_sem, Nat.reduceAdd, ptr_of hla2, hb6, hb31, hx34d, hf35, hb40]
        (repeat' apply And.intro) <;> first | refine hKR_l28 m_l28 _ _ (Nat.lt_succ_self m_l28) ⟨(x8_l28 + 1), y39.2, ([]), rows_l28, ef hs, ef hs, hO, h⟩ | exact cl
    · clear h; rintro e st ⟨pla2_k25, X_k25, rows_k25, rfl, rfl, hO, h⟩
      rw [l6_smallValue_k25] at h
      refine awp_tidy hN hNR hNL (by simp only [List.length_set]) (calm_set hcalm ev) hO (by (simp +decide only [go_sem, Nat.reduceAdd]) <;> (try (repeat' apply And.intro)) <;> first | omega | assumption) (by (simp +decide only [go_sem, Nat.reduceAdd, calmE]) <;> (try (repeat' apply And.intro)) <;> first | omega | assumption) ?_
      refine rg [6] hs ?_
      apply awp_ret; simp +decide only [go_sem, Nat.reduceAdd, ptr_of hla2, hb6]
      have hgt := Option.some.inj h; subst hgt
      first | refine fin_q0 (calm_set hcalm ev) (by simp only [List.length_set]) hO.pre ev ⟨?_, rfl⟩ | refine fin_q (calm_set hcalm ev) (by simp only [List.length_set]) hO.pre ev ⟨?_, rfl⟩
      first | rfl | (simp +decide only [go_sem, Nat.reduceAdd, ptr_of hla2, hb6]; done) | (simp +decide only [go_sem, Nat.reduceAdd, Vl.cs, Ty.cs, ptr_of hla2, hb6]; done)
theorem l6_smallValue_at (w0 : World) : ∀ (n : Nat) (B : List (List AV)) (Rw : List RowA) (L : List LoopA) (a0 : Vl) (a1 : Int) (la2 : Nat) (a2 : Int) (hla2 : B[la2]? = some ([.val (.int .i64 a2)])) (r : Bool × Int) (h : l6_smallValue_F n a0 a1 a2 = some r), ACalls Tryz.prog w0 57 [.agg (a0.cs), .val (.int .i64 a1), .box la2 0] ⟨B, Rw, L⟩ fun x st => x = .val (.bool r.1) ∧ st = ⟨(B.set la2 [.val (.int .i64 r.2)]), Rw, L⟩
  | 0, _, _, _, _, _, _, _, _, _, h => (nomatch h)
  | n + 1, B, Rw, L, a0, a1, la2, a2, hla2, r, h => l6_smallValue_step w0 (l6_smallValue_F n) (l6_smallValue_at w0 n) n B Rw L a0 a1 la2 a2 hla2 r (by rw [l6_smallValue_F] at h; exact h)
end Go.Proofs.YtggimoedcamonaaGreatDoor
namespace Go.Proofs.YtggimoedcamonaaGreatDoor
open Go Go.RowKit Go.Ev
set_option linter.unusedSimpArgs false
set_option linter.unusedVariables false
def l6_SmallValue_F (n : Nat) (a0 : Vl) : Option Bool :=
  (l6_smallValue_F n a0 12 300).bind fun y4 =>
  some (y4.1)
set_option maxRecDepth 100000 in
set_option maxHeartbeats 4000000 in
theorem l6_SmallValue_at (w0 : World) (n : Nat) (B : List (List AV)) (Rw : List RowA) (L : List LoopA) (a0 : Vl) (r : Bool) (h : l6_SmallValue_F n a0 = some r) :
    ACalls Tryz.prog w0 18 [.agg (a0.cs)] ⟨B, Rw, L⟩ fun x st => x = .val (.bool r) ∧ st = ⟨B, Rw, L⟩ := by
  rw [l6_SmallValue_F] at h
  refine ACalls.finP (acalls_of (rs := [.tmp 2]) Tryz.func18 rfl rfl Tryz.ntmps18 (enters_some Tryz.func18 rfl (by decide)) (Nat.le_of_ble_eq_true rfl) ?_)
  intro M0 W0 hN hNR hNL hcalm hu
  dsimp only at hN hNR hNL hcalm hu
  simp only [argsE]
  have hO := Owns.none Rw
  have hs := fact0
  refine rg [1] hs ?_
  refine rg [1, 3] hs ?_
  obtain ⟨y4, hy4, h⟩ := bind_some h
  refine rc 2 [2] hs ?_; intro K3 hK3
  refine callK_pp _ (l6_smallValue_at w0 n _ _ _ a0 12 (B.length + 1) 300 ev _ hy4) (hv hs) ?_; rintro _ _ ⟨rfl, rfl⟩
  refine ne hs hK3 ?_
  clear hK3
  exact rt h hs hcalm hO
end Go.Proofs.YtggimoedcamonaaGreatDoor
namespace Go.Proofs.YtggimoedcamonaaGreatDoor
open Go Go.RowKit Go.Ev
set_option linter.unusedSimpArgs false
set_option linter.unusedVariables false
def l6_small_k47 (rec : Ty → Int → Int → Option (Bool × Int)) (n : Nat) (again_l42 : Int → Int → Option (Bool × Int)) (x9_l42 : Int) (pla2_k47 : Int) : Option (Bool × Int) :=
  if I64 (x9_l42 + 1) then
    again_l42 (x9_l42 + 1) pla2_k47
  else none
def l6_small_k39 (rec : Ty → Int → Int → Option (Bool × Int)) (n : Nat)  (pla2_k39 : Int) : Option (Bool × Int) :=
  some ((true, pla2_k39))
def l6_small_l58 (rec : Ty → Int → Int → Option (Bool × Int)) (n : Nat) (again_l42 : Int → Int → Option (Bool × Int)) (x9_l42 : Int) (x50 : Int × ByteArray × Int × Ty × List Vl) (y54 : Bool × Int) : Nat → Int → Option (Bool × Int)
  | 0, _ => none
  | m + 1, x11_l58 =>
    if decide (x11_l58 < ((x50.2.2.2.2.length : Int))) then
      (idx x50.2.2.2.2 x11_l58).bind fun x64 =>
      (l6_SmallValue_F n x64).bind fun y65 =>
      if !y65 then
        some ((false, y54.2))
      else
        if I64 (x11_l58 + 1) then
          (l6_small_l58 rec n again_l42 x9_l42 x50 y54 m) (x11_l58 + 1)
        else none
    else
      l6_small_k47 rec n again_l42 x9_l42 y54.2
def l6_small_l42 (rec : Ty → Int → Int → Option (Bool × Int)) (n : Nat) (a0 : Ty) (a1 : Int) : Nat → Int → Int → Option (Bool × Int)
  | 0, _, _ => none
  | m + 1, x9_l42, pla2_l42 =>
    if decide (x9_l42 < ((a0.fields.length : Int))) then
      (idx a0.fields x9_l42).bind fun x50 =>
      if I64 (a1 - 1) then
        (rec x50.2.2.2.1 (a1 - 1) pla2_l42).bind fun y54 =>
        if ((!y54.1) || (decide (3 < ((x50.2.2.2.2.length : Int))))) || (decide (100 < ((x50.2.1.size : Int)))) then
          some ((false, y54.2))
        else
          l6_small_l58 rec n (l6_small_l42 rec n a0 a1 m) x9_l42 x50 y54 n 0
      else none
    else
      l6_small_k39 rec n pla2_l42
def l6_small_k23 (rec : Ty → Int → Int → Option (Bool × Int)) (n : Nat) (a0 : Ty) (a1 : Int) (pla2_k23 : Int) : Option (Bool × Int) :=
  l6_small_l42 rec n a0 a1 n 0 pla2_k23
def l6_small_l26 (rec : Ty → Int → Int → Option (Bool × Int)) (n : Nat) (a0 : Ty) (a1 : Int) : Nat → Int → Int → Option (Bool × Int)
  | 0, _, _ => none
  | m + 1, x8_l26, pla2_l26 =>
    if decide (x8_l26 < ((a0.elem.length : Int))) then
      (idx a0.elem x8_l26).bind fun x32 =>
      if I64 (a1 - 1) then
        (rec x32 (a1 - 1) pla2_l26).bind fun y34 =>
        if !y34.1 then
          some ((false, y34.2))
        else
          if I64 (x8_l26 + 1) then
            (l6_small_l26 rec n a0 a1 m) (x8_l26 + 1) y34.2
          else none
      else none
    else
      l6_small_k23 rec n a0 a1 pla2_l26
def l6_small_k9 (rec : Ty → Int → Int → Option (Bool × Int)) (n : Nat) (a0 : Ty) (a1 : Int) (a2 : Int) : Option (Bool × Int) :=
  l6_small_l26 rec n a0 a1 n 0 (a2 - 1)
def l6_small_l12 (rec : Ty → Int → Int → Option (Bool × Int)) (n : Nat) (a0 : Ty) (a1 : Int) (a2 : Int) : Nat → Int → Option (Bool × Int)
  | 0, _ => none
  | m + 1, x7_l12 =>
    if decide (x7_l12 < ((a0.words.length : Int))) then
      (idx a0.words x7_l12).bind fun x18 =>
      if decide (2000 < ((x18.size : Int))) then
        some ((false, a2 - 1))
      else
        if I64 (x7_l12 + 1) then
          (l6_small_l12 rec n a0 a1 a2 m) (x7_l12 + 1)
        else none
    else
      l6_small_k9 rec n a0 a1 a2 
def l6_small_B (rec : Ty → Int → Int → Option (Bool × Int)) (n : Nat) (a0 : Ty) (a1 : Int) (a2 : Int) : Option (Bool × Int) :=
  if I64 (a2 - 1) then
    if ((decide ((a2 - 1) < 0)) || (decide (a1 = 0))) || (decide (70 < ((a0.words.length : Int)))) then
      some ((false, a2 - 1))
    else
      l6_small_l12 rec n a0 a1 a2 n 0
  else none
def l6_small_F : Nat → Ty → Int → Int → Option (Bool × Int)
  | 0, _, _, _ => none
  | n + 1, a0, a1, a2 => l6_small_B (l6_small_F n) n a0 a1 a2
set_option maxRecDepth 100000 in
set_option maxHeartbeats 4000000 in
theorem l6_small_step (w0 : World) (rec : Ty → Int → Int → Option (Bool × Int)) (ih : ∀ (B : List (List AV)) (Rw : List RowA) (L : List LoopA) (a0 : Ty) (a1 : Int) (la2 : Nat) (a2 : Int) (hla2 : B[la2]? = some ([.val (.int .i64 a2)])) (r : Bool × Int) (h : rec a0 a1 a2 = some r), ACalls Tryz.prog w0 52 [.agg (a0.cs), .val (.int .i64 a1), .box la2 0] ⟨B, Rw, L⟩ fun x st => x = .val (.bool r.1) ∧ st = ⟨(B.set la2 [.val (.int .i64 r.2)]), Rw, L⟩) (n : Nat) (B : List (List AV)) (Rw : List RowA) (L : List LoopA) (a0 : Ty) (a1 : Int) (la2 : Nat) (a2 : Int) (hla2 : B[la2]? = some ([.val (.int .i64 a2)])) (r : Bool × Int) (h : l6_small_B rec n a0 a1 a2 = some r) :
    ACalls Tryz.prog w0 52 [.agg (a0.cs), .val (.int .i64 a1), .box la2 0] ⟨B, Rw, L⟩ fun x st => x = .val (.bool r.1) ∧ st = ⟨(B.set la2 [.val (.int .i64 r.2)]), Rw, L⟩ := by
  rw [l6_small_B] at h
  refine ACalls.finP (acalls_of (rs := [.tmp 6]) Tryz.func52 rfl rfl Tryz.ntmps52 (enters_some Tryz.func52 rfl (by decide)) (Nat.le_of_ble_eq_true rfl) ?_)
  intro M0 W0 hN hNR hNL hcalm hu
  dsimp only at hN hNR hNL hcalm hu
  simp only [argsE]
  have hO := Owns.none Rw
  have hs := fact0
  have hltla2 := (List.getElem?_eq_some_iff.1 hla2).1
  have hs := And.intro (ptr_of hla2) hs
  refine rg [1, 2, 3] hs ?_
  obtain ⟨hg3, h⟩ := guard_some h
  refine rg [1, 2, 3] hs ?_
  apply awp_seq; intro K4 hK4
  refine rg [1, 2, 3, 30] hs ?_
  refine cnd h hs (fun hs h => ?_) (fun hs h => ?_)
  · skip
    have hb6 := hs.1
    refine rg [6] hs ?_
    apply awp_ret; simp +decide only [go_sem, Nat.reduceAdd, ptr_of hla2, hb6]
    have hgt := Option.some.inj h; subst hgt
    first | refine fin_q0 (calm_set hcalm ev) (by simp only [List.length_set]) hO.pre ev ⟨?_, rfl⟩ | refine fin_q (calm_set hcalm ev) (by simp only [List.length_set]) hO.pre ev ⟨?_, rfl⟩
    first | rfl | (simp +decide only [go_sem, Nat.reduceAdd, ptr_of hla2, hb6]; done) | (simp +decide only [go_sem, Nat.reduceAdd, Vl.cs, Ty.cs, ptr_of hla2, hb6]; done)
  have hb6 := hs.1
  refine sk [1, 2, 3] hs hK4 ?_
  clear hK4
  refine awp_mid (fun e st => ∃ (X_k9 : List (List AV)) (rows_k9 : List RowA), e = [(1, true, .val (.int .i64 a1)), (2, true, .box la2 0), (3, true, .box B.length 0)] ∧ st = ⟨(B.set la2 ([.val (.int .i64 (a2 - 1))])) ++ ([a0.cs] ++ X_k9), rows_k9, L⟩ ∧ Owns Rw rows_k9 [] ∧ l6_small_k9 rec n a0 a1 a2  = some r) ?_ ?_
  · intro K10 hK10
    refine rg [1, 2, 3, 7] hs ?_
    apply awp_block
    refine awp_loop (fun m e st => ∃ (x7_l12 : Int) (X_l12 : List (List AV)) (rows_l12 : List RowA), e = [(1, true, .val (.int .i64 a1)), (2, true, .box la2 0), (3, true, .box B.length 0), (7, true, .val (.int .i64 x7_l12))] ∧ st = ⟨(B.set la2 ([.val (.int .i64 (a2 - 1))])) ++ ([a0.cs] ++ X_l12), rows_l12, L⟩ ∧ Owns Rw rows_l12 [] ∧ l6_small_l12 rec n a0 a1 a2 m x7_l12 = some r) n ⟨0, ([]), Rw, ef hs, ef hs, hO, h⟩ ?_
    rintro m_l12 e st ⟨x7_l12, X_l12, rows_l12, rfl, rfl, hO, h⟩ KR_l12 hKR_l12
    cases m_l12 with
    | zero => cases h
    | succ m_l12 =>
    rw [l6_small_l12] at h
    refine awp_tidy hN hNR hNL (by simp only [List.length_set]) (calm_set hcalm ev) hO (by (simp +decide only [go_sem, Nat.reduceAdd]) <;> (try (repeat' apply And.intro)) <;> first | omega | assumption) (by (simp +decide only [go_sem, Nat.reduceAdd, calmE]) <;> (try (repeat' apply And.intro)) <;> first | omega | assumption) ?_
    apply awp_seq; intro K13 hK13
    refine rg [1, 2, 3, 7, 35] hs ?_
    refine cnd h hs (fun hs h => ?_) (fun hs h => ?_)
    rotate_left
    · skip
      have hb15 := hs.1
      refine sx [1, 2, 3] hs hK10 ?_
      exact ⟨([]), rows_l12, ef hs, ef hs, hO, h⟩
    have hb15 := hs.1
    refine sk [1, 2, 3, 7] hs hK13 ?_
    clear hK13
    apply awp_seq; intro K16 hK16
    apply awp_block
    obtain ⟨x18, hx18, h⟩ := bind_some h
    obtain ⟨hx18a, hx18b, hx18c⟩ := idx_some hx18
    have hx18d := getD_map (f := avS) hx18c
    have hs := And.intro hx18d hs
    refine rg [1, 2, 3, 7, 44] hs ?_
    refine cnd h hs (fun hs h => ?_) (fun hs h => ?_)
    · skip
      have hb19 := hs.1
      refine rg [6] hs ?_
      apply awp_ret; simp +decide only [go_sem, Nat.reduceAdd, ptr_of hla2, hb6, hb15, hx18d, hb19]
      have hgt := Option.some.inj h; subst hgt
      first | refine fin_q0 (calm_set hcalm ev) (by simp only [List.length_set]) hO.pre ev ⟨?_, rfl⟩ | refine fin_q (calm_set hcalm ev) (by simp only [List.length_set]) hO.pre ev ⟨?_, rfl⟩
      first | rfl | (simp +decide only [go_sem, Nat.reduceAdd, ptr_of hla2, hb6, hb15, hx18d, hb19]; done) | (simp +decide only [go_sem, Nat.reduceAdd, Vl.cs, Ty.cs, ptr_of hla2, hb6, hb15, hx18d, hb19]; done)
    have hb19 := hs.1
    refine sk [1, 2, 3, 7] hs hK16 ?_
    clear hK16
    obtain ⟨hg21, h⟩ := guard_some h
    apply awp_region 1 [1, 2, 3, 7]
    rw [evK_succ]; simp +decide only [go_sem, Nat.reduceAdd, ptr_of hla2, hb6, hb15, hx18d, hb19]
    (repeat' apply And.intro) <;> first | refine hKR_l12 m_l12 _ _ (Nat.lt_succ_self m_l12) ⟨(x7_l12 + 1), ([]), rows_l12, ef hs, ef hs, hO, h⟩ | exact cl
  · clear h; rintro e st ⟨X_k9, rows_k9, rfl, rfl, hO, h⟩
    rw [l6_small_k9] at h
    refine awp_tidy hN hNR hNL (by simp only [List.length_set]) (calm_set hcalm ev) hO (by (simp +decide only [go_sem, Nat.reduceAdd]) <;> (try (repeat' apply And.intro)) <;> first | omega | assumption) (by (simp +decide only [go_sem, Nat.reduceAdd, calmE]) <;> (try (repeat' apply And.intro)) <;> first | omega | assumption) ?_
    refine awp_mid (fun e st => ∃ (pla2_k23 : Int) (X_k23 : List (List AV)) (rows_k23 : List RowA), e = [(1, true, .val (.int .i64 a1)), (2, true, .box la2 0), (3, true, .box B.length 0)] ∧ st = ⟨(B.set la2 ([.val (.int .i64 pla2_k23)])) ++ ([a0.cs] ++ X_k23), rows_k23, L⟩ ∧ Owns Rw rows_k23 [] ∧ l6_small_k23 rec n a0 a1 pla2_k23 = some r) ?_ ?_
    · intro K24 hK24
      refine rg [1, 2, 3, 8] hs ?_
      apply awp_block
      refine awp_loop (fun m e st => ∃ (x8_l26 : Int) (pla2_l26 : Int) (X_l26 : List (List AV)) (rows_l26 : List RowA), e = [(1, true, .val (.int .i64 a1)), (2, true, .box la2 0), (3, true, .box B.length 0), (8, true, .val (.int .i64 x8_l26))] ∧ st = ⟨(B.set la2 ([.val (.int .i64 pla2_l26)])) ++ ([a0.cs] ++ X_l26), rows_l26, L⟩ ∧ Owns Rw rows_l26 [] ∧ l6_small_l26 rec n a0 a1 m x8_l26 pla2_l26 = some r) n ⟨0, (a2 - 1), ([]), rows_k9, ef hs, ef hs, hO, h⟩ ?_
      rintro m_l26 e st ⟨x8_l26, pla2_l26, X_l26, rows_l26, rfl, rfl, hO, h⟩ KR_l26 hKR_l26
      cases m_l26 with
      | zero => cases h
      | succ m_l26 =>
      rw [l6_small_l26] at h
      refine awp_tidy hN hNR hNL (by simp only [List.length_set]) (calm_set hcalm ev) hO (by (simp +decide only [go_sem, Nat.reduceAdd]) <;> (try (repeat' apply And.intro)) <;> first | omega | assumption) (by (simp +decide only [go_sem, Nat.reduceAdd, calmE]) <;> (try (repeat' apply And.intro)) <;> first | omega | assumption) ?_
      apply awp_seq; intro K27 hK27
      refine rg [1, 2, 3, 8, 49] hs ?_
      refine cnd h hs (fun hs h => ?_) (fun hs h => ?_)
      rotate_left
      · skip
        have hb29 := hs.1
        refine sx [1, 2, 3] hs hK24 ?_
        exact ⟨pla2_l26, ([]), rows_l26, ef hs, ef hs, hO, h⟩
      have hb29 := hs.1
      refine sk [1, 2, 3, 8] hs hK27 ?_
      clear hK27
      apply awp_seq; intro K30 hK30
      apply awp_block
      obtain ⟨x32, hx32, h⟩ := bind_some h
      obtain ⟨hx32a, hx32b, hx32c⟩ := idx_some hx32
      have hx32d := getD_map (f := avT) hx32c
      obtain ⟨hg33, h⟩ := guard_some h
      obtain ⟨y34, hy34, h⟩ := bind_some h
      have hs := And.intro hx32d hs
      refine rc 2 [1, 2, 3, 8, 61] hs ?_; intro K31 hK31
      refine callK_pp _ (ih _ _ _ x32 (a1 - 1) la2 pla2_l26 (ef hs) _ hy34) (hv hs) ?_; rintro _ _ ⟨rfl, rfl⟩
      refine ne hs hK31 ?_
      clear hK31
      refine cnd h hs (fun hs h => ?_) (fun hs h => ?_)
      · skip
        have hb35 := hs.1
        refine rg [6] hs ?_
        apply awp_ret; simp +decide only [go_sem, Nat.reduceAdd, ptr_of hla2, hb6, hb29, hx32d, hb35]
        have hgt := Option.some.inj h; subst hgt
        first | refine fin_q0 (calm_set hcalm ev) (by simp only [List.length_set]) hO.pre ev ⟨?_, rfl⟩ | refine fin_q (calm_set hcalm ev) (by simp only [List.length_set]) hO.pre ev ⟨?_, rfl⟩
        first | rfl | (simp +decide only [go_sem, Nat.reduceAdd, ptr_of hla2, hb6, hb29, hx32d, hb35]; done) | (simp +decide only [go_sem, Nat.reduceAdd, Vl.cs, Ty.cs, ptr_of hla2, hb6, hb29, hx32d, hb35]; done)
      have hb35 := hs.1
      refine sk [1, 2, 3, 8] hs hK30 ?_
      clear hK30
      obtain ⟨hg37, h⟩ := guard_some h
      apply awp_region 1 [1, 2, 3, 8]
      rw [evK_succ]; simp +decide only [go_sem, Nat.reduceAdd, ptr_of hla2, hb6, hb29, hx32d, hb35]
      (repeat' apply And.intro) <;> first | refine hKR_l26 m_l26 _ _ (Nat.lt_succ_self m_l26) ⟨(x8_l26 + 1), y34.2, ([]), rows_l26, ef hs, ef hs, hO, h⟩ | exact cl
    · clear h; rintro e st ⟨pla2_k23, X_k23, rows_k23, rfl, rfl, hO, h⟩
      rw [l6_small_k23] at h
      refine awp_tidy hN hNR hNL (by simp only [List.length_set]) (calm_set hcalm ev) hO (by (simp +decide only [go_sem, Nat.reduceAdd]) <;> (try (repeat' apply And.intro)) <;> first | omega | assumption) (by (simp +decide only [go_sem, Nat.reduceAdd, calmE]) <;> (try (repeat' apply And.intro)) <;> first | omega | assumption) ?_
      refine awp_mid (fun e st => ∃ (pla2_k39 : Int) (X_k39 : List (List AV)) (rows_k39 : List RowA), e = [] ∧ st = ⟨(B.set la2 ([.val (.int .i64 pla2_k39)])) ++ ([a0.cs] ++ X_k39), rows_k39, L⟩ ∧ Owns Rw rows_k39 [] ∧ l6_small_k39 rec n pla2_k39 = some r) ?_ ?_
      · intro K40 hK40
        refine rg [1, 2, 3, 9] hs ?_
        apply awp_block
        refine awp_loop (fun m e st => ∃ (x9_l42 : Int) (pla2_l42 : Int) (X_l42 : List (List AV)) (rows_l42 : List RowA), e = [(1, true, .val (.int .i64 a1)), (2, true, .box la2 0), (3, true, .box B.length 0), (9, true, .val (.int .i64 x9_l42))] ∧ st = ⟨(B.set la2 ([.val (.int .i64 pla2_l42)])) ++ ([a0.cs] ++ X_l42), rows_l42, L⟩ ∧ Owns Rw rows_l42 [] ∧ l6_small_l42 rec n a0 a1 m x9_l42 pla2_l42 = some r) n ⟨0, pla2_k23, ([]), rows_k23, ef hs, ef hs, hO, h⟩ ?_
        rintro m_l42 e st ⟨x9_l42, pla2_l42, X_l42, rows_l42, rfl, rfl, hO, h⟩ KR_l42 hKR_l42
        cases m_l42 with
        | zero => cases h
        | succ m_l42 =>
        rw [l6_small_l42] at h
        refine awp_tidy hN hNR hNL (by simp only [List.length_set]) (calm_set hcalm ev) hO (by (simp +decide only [go_sem, Nat.reduceAdd]) <;> (try (repeat' apply And.intro)) <;> first | omega | assumption) (by (simp +decide only [go_sem, Nat.reduceAdd, calmE]) <;> (try (repeat' apply And.intro)) <;> first | omega | assumption) ?_
        apply awp_seq; intro K43 hK43
        refine rg [1, 2, 3, 9, 66] hs ?_
        refine cnd h hs (fun hs h => ?_) (fun hs h => ?_)
        rotate_left
        · skip
          have hb45 := hs.1
          refine sx [] hs hK40 ?_
          exact ⟨pla2_l42, ([]), rows_l42, ef hs, ef hs, hO, h⟩
        have hb45 := hs.1
        refine sk [1, 2, 3, 9] hs hK43 ?_
        clear hK43
        refine awp_mid (fun e st => ∃ (pla2_k47 : Int) (X_k47 : List (List AV)) (rows_k47 : List RowA), e = [(1, true, .val (.int .i64 a1)), (2, true, .box la2 0), (3, true, .box B.length 0), (9, true, .val (.int .i64 x9_l42))] ∧ st = ⟨(B.set la2 ([.val (.int .i64 pla2_k47)])) ++ ([a0.cs] ++ X_k47), rows_k47, L⟩ ∧ Owns Rw rows_k47 [] ∧ l6_small_k47 rec n (l6_small_l42 rec n a0 a1 m_l42) x9_l42 pla2_k47 = some r) ?_ ?_
        · intro K48 hK48
          apply awp_block
          obtain ⟨x50, hx50, h⟩ := bind_some h
          obtain ⟨hx50a, hx50b, hx50c⟩ := idx_some hx50
          have hx50d := getD_map (f := avTF) hx50c
          have hs := And.intro hx50d hs
          refine rg [1, 2, 3, 9, 10] hs ?_
          apply awp_seq; intro K51 hK51
          obtain ⟨hg53, h⟩ := guard_some h
          obtain ⟨y54, hy54, h⟩ := bind_some h
          refine rc 2 [1, 2, 3, 9, 10, 92] hs ?_; intro K52 hK52
          refine callK_pp _ (ih _ _ _ x50.2.2.2.1 (a1 - 1) la2 pla2_l42 (ef hs) _ hy54) (hv hs) ?_; rintro _ _ ⟨rfl, rfl⟩
          refine ne hs hK52 ?_
          clear hK52
          refine cnd h hs (fun hs h => ?_) (fun hs h => ?_)
          · skip
            have hb55 := hs.1
            refine rg [6] hs ?_
            apply awp_ret; simp +decide only [go_sem, Nat.reduceAdd, ptr_of hla2, hb6, hb45, hx50d, hb55]
            have hgt := Option.some.inj h; subst hgt
            first | refine fin_q0 (calm_set hcalm ev) (by simp only [List.length_set]) hO.pre ev ⟨?_, rfl⟩ | refine fin_q (calm_set hcalm ev) (by simp only [List.length_set]) hO.pre ev ⟨?_, rfl⟩
            first | rfl | (simp +decide only [go_sem, Nat.reduceAdd, ptr_of hla2, hb6, hb45, hx50d, hb55]; done) | (simp +decide only [go_sem, Nat.reduceAdd, Vl.cs, Ty.cs, ptr_of hla2, hb6, hb45, hx50d, hb55]; done)
          have hb55 := hs.1
          refine sk [1, 2, 3, 9, 10] hs hK51 ?_
          clear hK51
          refine rg [1, 2, 3, 9, 10, 11] hs ?_
          apply awp_block
          refine awp_loop (fun m e st => ∃ (x11_l58 : Int) (X_l58 : List (List AV)) (rows_l58 : List RowA), e = [(1, true, .val (.int .i64 a1)), (2, true, .box la2 0), (3, true, .box B.length 0), (9, true, .val (.int .i64 x9_l42)), (10, true, .box (B.length + 1) 0), (11, true, .val (.int .i64 x11_l58))] ∧ st = ⟨(B.set la2 ([.val (.int .i64 y54.2)])) ++ ([a0.cs, .val (.int .i64 x50.1) :: (.val (.string x50.2.1) :: (.val (.int .i64 x50.2.2.1) :: ((x50.2.2.2.1.cs) ++ ([.list (x50.2.2.2.2.map avV) .none]))))] ++ X_l58), rows_l58, L⟩ ∧ Owns Rw rows_l58 [] ∧ l6_small_l58 rec n (l6_small_l42 rec n a0 a1 m_l42) x9_l42 x50 y54 m x11_l58 = some r) n ⟨0, ([]), rows_l42, ef hs, ef hs, hO, h⟩ ?_
          rintro m_l58 e st ⟨x11_l58, X_l58, rows_l58, rfl, rfl, hO, h⟩ KR_l58 hKR_l58
          cases m_l58 with
          | zero => cases h
          | succ m_l58 =>
          rw [l6_small_l58] at h
          refine awp_tidy hN hNR hNL (by simp only [List.length_set]) (calm_set hcalm ev) hO (by (simp +decide only [go_sem, Nat.reduceAdd]) <;> (try (repeat' apply And.intro)) <;> first | omega | assumption) (by (simp +decide only [go_sem, Nat.reduceAdd, calmE]) <;> (try (repeat' apply And.intro)) <;> first | omega | assumption) ?_
          apply awp_seq; intro K59 hK59
          refine rg [1, 2, 3, 9, 10, 11, 97] hs ?_
          refine cnd h hs (fun hs h => ?_) (fun hs h => ?_)
          rotate_left
          · skip
            have hb61 := hs.1
            refine sx [1, 2, 3, 9] hs hK48 ?_
            exact ⟨y54.2, ([.val (.int .i64 x50.1) :: (.val (.string x50.2.1) :: (.val (.int .i64 x50.2.2.1) :: ((x50.2.2.2.1.cs) ++ ([.list (x50.2.2.2.2.map avV) .none]))))]), rows_l58, ef hs, ef hs, hO, h⟩
          have hb61 := hs.1
          refine sk [1, 2, 3, 9, 10, 11] hs hK59 ?_
          clear hK59
          apply awp_seq; intro K62 hK62
          apply awp_block
          obtain ⟨x64, hx64, h⟩ := bind_some h
          obtain ⟨hx64a, hx64b, hx64c⟩ := idx_some hx64
          have hx64d := getD_map (f := avV) hx64c
          obtain ⟨y65, hy65, h⟩ := bind_some h
          have hs := And.intro hx64d hs
          refine rc 2 [1, 2, 3, 9, 10, 11, 106] hs ?_; intro K63 hK63
          refine callK_p _ (l6_SmallValue_at w0 n _ _ _ x64 _ hy65) (hv hs) ?_
          refine ne hs hK63 ?_
          clear hK63
          refine cnd h hs (fun hs h => ?_) (fun hs h => ?_)
          · skip
            have hb66 := hs.1
            refine rg [6] hs ?_
            apply awp_ret; simp +decide only [go_sem, Nat.reduceAdd, ptr_of hla2, hb6, hb45, hx50d, hb55, hb61, hx64d, hb66]
            have hgt := Option.some.inj h; subst hgt
            first | refine fin_q0 (calm_set hcalm ev) (by simp only [List.length_set]) hO.pre ev ⟨?_, rfl⟩ | refine fin_q (calm_set hcalm ev) (by simp only [List.length_set]) hO.pre ev ⟨?_, rfl⟩
            first | rfl | (simp +decide only [go_sem, Nat.reduceAdd, ptr_of hla2, hb6, hb45, hx50d, hb55, hb61, hx64d, hb66]; done) | (simp +decide only [go_sem, Nat.reduceAdd, Vl.cs, Ty.cs, ptr_of hla2, hb6, hb45, hx50d, hb55, hb61, hx64d, hb66]; done)
          have hb66 := hs.1
          refine sk [1, 2, 3, 9, 10, 11] hs hK62 ?_
          clear hK62
          obtain ⟨hg68, h⟩ := guard_some h
          apply awp_region 1 [1, 2, 3, 9, 10, 11]
          rw [evK_succ]; simp +decide only [go_sem, Nat.reduceAdd, ptr_of hla2, hb6, hb45, hx50d, hb55, hb61, hx64d, hb66]
          (repeat' apply And.intro) <;> first | refine hKR_l58 m_l58 _ _ (Nat.lt_succ_self m_l58) ⟨(x11_l58 + 1), ([]), rows_l58, ef hs, ef hs, hO, h⟩ | exact cl
        · clear h; rintro e st ⟨pla2_k47, X_k47, rows_k47, rfl, rfl, hO, h⟩
          rw [l6_small_k47] at h
          refine awp_tidy hN hNR hNL (by simp only [List.length_set]) (calm_set hcalm ev) hO (by (simp +decide only [go_sem, Nat.reduceAdd]) <;> (try (repeat' apply And.intro)) <;> first | omega | assumption) (by (simp +decide only [go_sem, Nat.reduceAdd, calmE]) <;> (try (repeat' apply And.intro)) <;> first | omega | assumption) ?_
          obtain ⟨hg69, h⟩ := guard_some h
          apply awp_region 1 [1, 2, 3, 9]
          rw [evK_succ]; simp +decide only [go_sem, Nat.reduceAdd, ptr_of hla2, hb6, hb45]
          (repeat' apply And.intro) <;> first | refine hKR_l42 m_l42 _ _ (Nat.lt_succ_self m_l42) ⟨(x9_l42 + 1), pla2_k47, ([]), rows_k47, ef hs, ef hs, hO, h⟩ | exact cl
      · clear h; rintro e st ⟨pla2_k39, X_k39, rows_k39, rfl, rfl, hO, h⟩
        rw [l6_small_k39] at h
        refine awp_tidy hN hNR hNL (by simp only [List.length_set]) (calm_set hcalm ev) hO (by (simp +decide only [go_sem, Nat.reduceAdd]) <;> (try (repeat' apply And.intro)) <;> first | omega | assumption) (by (simp +decide only [go_sem, Nat.reduceAdd, calmE]) <;> (try (repeat' apply And.intro)) <;> first | omega | assumption) ?_
        refine rg [6] hs ?_
        apply awp_ret; simp +decide only [go_sem, Nat.reduceAdd, ptr_of hla2, hb6]
        have hgt := Option.some.inj h; subst hgt
        first | refine fin_q0 (calm_set hcalm ev) (by simp only [List.length_set]) hO.pre ev ⟨?_, rfl⟩ | refine fin_q (calm_set hcalm ev) (by simp only [List.length_set]) hO.pre ev ⟨?_, rfl⟩
        first | rfl | (simp +decide only [go_sem, Nat.reduceAdd, ptr_of hla2, hb6]; done) | (simp +decide only [go_sem, Nat.reduceAdd, Vl.cs, Ty.cs, ptr_of hla2, hb6]; done)
theorem l6_small_at (w0 : World) : ∀ (n : Nat) (B : List (List AV)) (Rw : List RowA) (L : List LoopA) (a0 : Ty) (a1 : Int) (la2 : Nat) (a2 : Int) (hla2 : B[la2]? = some ([.val (.int .i64 a2)])) (r : Bool × Int) (h : l6_small_F n a0 a1 a2 = some r), ACalls Tryz.prog w0 52 [.agg (a0.cs), .val (.int .i64 a1), .box la2 0] ⟨B, Rw, L⟩ fun x st => x = .val (.bool r.1) ∧ st = ⟨(B.set la2 [.val (.int .i64 r.2)]), Rw, L⟩
  | 0, _, _, _, _, _, _, _, _, _, h => (nomatch h)
  | n + 1, B, Rw, L, a0, a1, la2, a2, hla2, r, h => l6_small_step w0 (l6_small_F n) (l6_small_at w0 n) n B Rw L a0 a1 la2 a2 hla2 r (by rw [l6_small_F] at h; exact h)
end Go.Proofs.YtggimoedcamonaaGreatDoor
namespace Go.Proofs.YtggimoedcamonaaGreatDoor
open Go Go.RowKit Go.Ev
set_option linter.unusedSimpArgs false
set_option linter.unusedVariables false
def l6_Small_F (n : Nat) (a0 : Ty) : Option Bool :=
  (l6_small_F n a0 12 200).bind fun y4 =>
  some (y4.1)
set_option maxRecDepth 100000 in
set_option maxHeartbeats 4000000 in
theorem l6_Small_at (w0 : World) (n : Nat) (B : List (List AV)) (Rw : List RowA) (L : List LoopA) (a0 : Ty) (r : Bool) (h : l6_Small_F n a0 = some r) :
    ACalls Tryz.prog w0 15 [.agg (a0.cs)] ⟨B, Rw, L⟩ fun x st => x = .val (.bool r) ∧ st = ⟨B, Rw, L⟩ := by
  rw [l6_Small_F] at h
  refine ACalls.finP (acalls_of (rs := [.tmp 2]) Tryz.func15 rfl rfl Tryz.ntmps15 (enters_some Tryz.func15 rfl (by decide)) (Nat.le_of_ble_eq_true rfl) ?_)
  intro M0 W0 hN hNR hNL hcalm hu
  dsimp only at hN hNR hNL hcalm hu
  simp only [argsE]
  have hO := Owns.none Rw
  have hs := fact0
  refine rg [1] hs ?_
  refine rg [1, 3] hs ?_
  obtain ⟨y4, hy4, h⟩ := bind_some h
  refine rc 2 [2] hs ?_; intro K3 hK3
  refine callK_pp _ (l6_small_at w0 n _ _ _ a0 12 (B.length + 1) 200 ev _ hy4) (hv hs) ?_; rintro _ _ ⟨rfl, rfl⟩
  refine ne hs hK3 ?_
  clear hK3
  exact rt h hs hcalm hO
end Go.Proofs.YtggimoedcamonaaGreatDoor
namespace Go.Proofs.YtggimoedcamonaaGreatDoor
open Go Go.RowKit Go.Ev
set_option linter.unusedSimpArgs false
set_option linter.unusedVariables false
def r4_sign_F (a0 : Int) (a1 : Int) : Int :=
  if decide (a0 < a1) then
    (-1)
  else
    if decide (a1 < a0) then
      1
    else
      0
set_option maxRecDepth 100000 in
set_option maxHeartbeats 4000000 in
theorem r4_sign_at (w0 : World) (B : List (List AV)) (Rw : List RowA) (L : List LoopA) (a0 : Int) (a1 : Int) (r : Int) (h : r4_sign_F a0 a1 = r) :
    ACalls Tryz.prog w0 111 [.val (.int .i64 a0), .val (.int .i64 a1)] ⟨B, Rw, L⟩ fun x st => x = .val (.int .i64 r) ∧ st = ⟨B, Rw, L⟩ := by
  rw [r4_sign_F] at h
  refine ACalls.finP (acalls_of (rs := [.tmp 4]) Tryz.func111 rfl rfl Tryz.ntmps111 (enters_some Tryz.func111 rfl (by decide)) (Nat.le_of_ble_eq_true rfl) ?_)
  intro M0 W0 hN hNR hNL hcalm hu
  dsimp only at hN hNR hNL hcalm hu
  simp only [argsE]
  have hO := Owns.none Rw
  have hs := fact0
  refine rg [0, 1] hs ?_
  apply awp_seq; intro K2 hK2
  apply awp_block
  refine rg [0, 1, 5] hs ?_
  refine cnd h hs (fun hs h => ?_) (fun hs h => ?_)
  · skip
    have hb4 := hs.1
    refine rg [4] hs ?_
    apply awp_ret; simp +decide only [go_sem, Nat.reduceAdd, hb4]
    subst h
    first | refine fin_q0 hcalm rfl hO.pre ev ⟨?_, rfl⟩ | refine fin_q hcalm rfl hO.pre ev ⟨?_, rfl⟩
    first | rfl | (simp +decide only [go_sem, Nat.reduceAdd, hb4]; done) | (simp +decide only [go_sem, Nat.reduceAdd, Vl.cs, Ty.cs, hb4]; done)
  have hb4 := hs.1
  refine rg [9] hs ?_
  refine cnd h hs (fun hs h => ?_) (fun hs h => ?_)
  · skip
    have hb7 := hs.1
    refine rg [4] hs ?_
    apply awp_ret; simp +decide only [go_sem, Nat.reduceAdd, hb4, hb7]
    subst h
    first | refine fin_q0 hcalm rfl hO.pre ev ⟨?_, rfl⟩ | refine fin_q hcalm rfl hO.pre ev ⟨?_, rfl⟩
    first | rfl | (simp +decide only [go_sem, Nat.reduceAdd, hb4, hb7]; done) | (simp +decide only [go_sem, Nat.reduceAdd, Vl.cs, Ty.cs, hb4, hb7]; done)
  have hb7 := hs.1
  refine sk [] hs hK2 ?_
  clear hK2
  refine rg [4] hs ?_
  apply awp_ret; simp +decide only [go_sem, Nat.reduceAdd, hb4, hb7]
  subst h
  first | refine fin_q0 hcalm rfl hO.pre ev ⟨?_, rfl⟩ | refine fin_q hcalm rfl hO.pre ev ⟨?_, rfl⟩
  first | rfl | (simp +decide only [go_sem, Nat.reduceAdd, hb4, hb7]; done) | (simp +decide only [go_sem, Nat.reduceAdd, Vl.cs, Ty.cs, hb4, hb7]; done)
theorem r4_sign_at' (w0 : World) (B : List (List AV)) (Rw : List RowA) (L : List LoopA) (a0 : Int) (a1 : Int) :
    ACalls Tryz.prog w0 111 [.val (.int .i64 a0), .val (.int .i64 a1)] ⟨B, Rw, L⟩ fun x st => x = .val (.int .i64 (r4_sign_F a0 a1)) ∧ st = ⟨B, Rw, L⟩ := r4_sign_at w0 B Rw L a0 a1 _ rfl
end Go.Proofs.YtggimoedcamonaaGreatDoor
namespace Go.Proofs.YtggimoedcamonaaGreatDoor
open Go Go.RowKit Go.Ev
set_option linter.unusedSimpArgs false
set_option linter.unusedVariables false
def r4_Compare_k43 (rec : Vl → Vl → Option Int) (n : Nat) (a0 : Vl) (a1 : Vl) : Option Int :=
  some (r4_sign_F ((a0.fields.length : Int)) ((a1.fields.length : Int)))
def r4_Compare_l46 (rec : Vl → Vl → Option Int) (n : Nat) (a0 : Vl) (a1 : Vl) : Nat → Int → Option Int
  | 0, _ => none
  | m + 1, x8_l46 =>
    if (decide (x8_l46 < ((a0.fields.length : Int)))) && (decide (x8_l46 < ((a1.fields.length : Int)))) then
      (idx a0.fields x8_l46).bind fun x53 =>
      (idx a1.fields x8_l46).bind fun x54 =>
      if x53.1.size ≤ maxLen then
        if x54.1.size ≤ maxLen then
          if !(decide ((cmpS x53.1 x54.1) = 0)) then
            some (cmpS x53.1 x54.1)
          else
            (rec x53.2 x54.2).bind fun y61 =>
            if !(decide (y61 = 0)) then
              some (y61)
            else
              if I64 (x8_l46 + 1) then
                (r4_Compare_l46 rec n a0 a1 m) (x8_l46 + 1)
              else none
        else none
      else none
    else
      r4_Compare_k43 rec n a0 a1 
def r4_Compare_k22 (rec : Vl → Vl → Option Int) (n : Nat) (a0 : Vl) (a1 : Vl) : Option Int :=
  if !(decide (((a0.list.length : Int)) = ((a1.list.length : Int)))) then
    some (r4_sign_F ((a0.list.length : Int)) ((a1.list.length : Int)))
  else
    r4_Compare_l46 rec n a0 a1 n 0
def r4_Compare_l25 (rec : Vl → Vl → Option Int) (n : Nat) (a0 : Vl) (a1 : Vl) : Nat → Int → Option Int
  | 0, _ => none
  | m + 1, x6_l25 =>
    if (decide (x6_l25 < ((a0.list.length : Int)))) && (decide (x6_l25 < ((a1.list.length : Int)))) then
      (idx a0.list x6_l25).bind fun x31 =>
      (idx a1.list x6_l25).bind fun x32 =>
      (rec x31 x32).bind fun y33 =>
      if !(decide (y33 = 0)) then
        some (y33)
      else
        if I64 (x6_l25 + 1) then
          (r4_Compare_l25 rec n a0 a1 m) (x6_l25 + 1)
        else none
    else
      r4_Compare_k22 rec n a0 a1 
def r4_Compare_B (rec : Vl → Vl → Option Int) (n : Nat) (a0 : Vl) (a1 : Vl) : Option Int :=
  if !(decide (a0.kind = a1.kind)) then
    some (r4_sign_F a0.kind a1.kind)
  else
    if !(decide (a0.int = a1.int)) then
      some (r4_sign_F a0.int a1.int)
    else
      if !(decide (a0.scale = a1.scale)) then
        some (r4_sign_F a0.scale a1.scale)
      else
        if a0.text.size ≤ maxLen then
          if a1.text.size ≤ maxLen then
            if !(decide ((cmpS a0.text a1.text) = 0)) then
              some (cmpS a0.text a1.text)
            else
              r4_Compare_l25 rec n a0 a1 n 0
          else none
        else none
def r4_Compare_F : Nat → Vl → Vl → Option Int
  | 0, _, _ => none
  | n + 1, a0, a1 => r4_Compare_B (r4_Compare_F n) n a0 a1
set_option maxRecDepth 100000 in
set_option maxHeartbeats 4000000 in
theorem r4_Compare_step (w0 : World) (rec : Vl → Vl → Option Int) (ih : ∀ (B : List (List AV)) (Rw : List RowA) (L : List LoopA) (a0 : Vl) (a1 : Vl) (r : Int) (h : rec a0 a1 = some r), ACalls Tryz.prog w0 62 [.agg (a0.cs), .agg (a1.cs)] ⟨B, Rw, L⟩ fun x st => x = .val (.int .i64 r) ∧ st = ⟨B, Rw, L⟩) (n : Nat) (B : List (List AV)) (Rw : List RowA) (L : List LoopA) (a0 : Vl) (a1 : Vl) (r : Int) (h : r4_Compare_B rec n a0 a1 = some r) :
    ACalls Tryz.prog w0 62 [.agg (a0.cs), .agg (a1.cs)] ⟨B, Rw, L⟩ fun x st => x = .val (.int .i64 r) ∧ st = ⟨B, Rw, L⟩ := by
  rw [r4_Compare_B] at h
  refine ACalls.finP (acalls_of (rs := [.tmp 4]) Tryz.func62 rfl rfl Tryz.ntmps62 (enters_some Tryz.func62 rfl (by decide)) (Nat.le_of_ble_eq_true rfl) ?_)
  intro M0 W0 hN hNR hNL hcalm hu
  dsimp only at hN hNR hNL hcalm hu
  simp only [argsE]
  have hO := Owns.none Rw
  have hs := fact0
  refine rg [2, 3] hs ?_
  apply awp_seq; intro K2 hK2
  refine rg [2, 3, 15] hs ?_
  refine cnd h hs (fun hs h => ?_) (fun hs h => ?_)
  · skip
    have hb4 := hs.1
    refine rc 2 [4] hs ?_; intro K5 hK5
    refine callK_p _ (r4_sign_at' w0 _ _ _ a0.kind a1.kind) (hv hs) ?_
    refine ne hs hK5 ?_
    clear hK5
    exact rt h hs hcalm hO
  have hb4 := hs.1
  refine sk [2, 3] hs hK2 ?_
  clear hK2
  apply awp_seq; intro K6 hK6
  refine rg [2, 3, 25] hs ?_
  refine cnd h hs (fun hs h => ?_) (fun hs h => ?_)
  · skip
    have hb8 := hs.1
    refine rc 2 [4] hs ?_; intro K9 hK9
    refine callK_p _ (r4_sign_at' w0 _ _ _ a0.int a1.int) (hv hs) ?_
    refine ne hs hK9 ?_
    clear hK9
    exact rt h hs hcalm hO
  have hb8 := hs.1
  refine sk [2, 3] hs hK6 ?_
  clear hK6
  apply awp_seq; intro K10 hK10
  refine rg [2, 3, 35] hs ?_
  refine cnd h hs (fun hs h => ?_) (fun hs h => ?_)
  · skip
    have hb12 := hs.1
    refine rc 2 [4] hs ?_; intro K13 hK13
    refine callK_p _ (r4_sign_at' w0 _ _ _ a0.scale a1.scale) (hv hs) ?_
    refine ne hs hK13 ?_
    clear hK13
    exact rt h hs hcalm hO
  have hb12 := hs.1
  refine sk [2, 3] hs hK10 ?_
  clear hK10
  apply awp_seq; intro K14 hK14
  obtain ⟨hg16, h⟩ := guard_some h
  obtain ⟨hg17, h⟩ := guard_some h
  refine rc 2 [2, 3, 5] hs ?_; intro K15 hK15
  refine callK_p _ (text_at w0 _ _ _ a0.text a1.text hg16 hg17) (hv hs) ?_
  refine ne hs hK15 ?_
  clear hK15
  refine rg [2, 3, 5, 47] hs ?_
  refine cnd h hs (fun hs h => ?_) (fun hs h => ?_)
  · skip
    have hb19 := hs.1
    refine rg [4] hs ?_
    exact rt h hs hcalm hO
  have hb19 := hs.1
  refine sk [2, 3] hs hK14 ?_
  clear hK14
  refine awp_mid (fun e st => ∃ (X_k22 : List (List AV)) (rows_k22 : List RowA), e = [(2, true, .box B.length 0), (3, true, .box (B.length + 1) 0)] ∧ st = ⟨B ++ ([a0.cs, a1.cs] ++ X_k22), rows_k22, L⟩ ∧ Owns Rw rows_k22 [] ∧ r4_Compare_k22 rec n a0 a1  = some r) ?_ ?_
  · intro K23 hK23
    refine rg [2, 3, 6] hs ?_
    apply awp_block
    refine awp_loop (fun m e st => ∃ (x6_l25 : Int) (X_l25 : List (List AV)) (rows_l25 : List RowA), e = [(2, true, .box B.length 0), (3, true, .box (B.length + 1) 0), (6, true, .val (.int .i64 x6_l25))] ∧ st = ⟨B ++ ([a0.cs, a1.cs] ++ X_l25), rows_l25, L⟩ ∧ Owns Rw rows_l25 [] ∧ r4_Compare_l25 rec n a0 a1 m x6_l25 = some r) n ⟨0, ([]), Rw, ef hs, ef hs, hO, h⟩ ?_
    rintro m_l25 e st ⟨x6_l25, X_l25, rows_l25, rfl, rfl, hO, h⟩ KR_l25 hKR_l25
    cases m_l25 with
    | zero => cases h
    | succ m_l25 =>
    rw [r4_Compare_l25] at h
    refine td hN hNR hNL hcalm hO ?_
    apply awp_seq; intro K26 hK26
    refine rg [2, 3, 6, 60] hs ?_
    refine cnd h hs (fun hs h => ?_) (fun hs h => ?_)
    rotate_left
    · skip
      have hb28 := hs.1
      refine sx [2, 3] hs hK23 ?_
      exact ⟨([]), rows_l25, ef hs, ef hs, hO, h⟩
    have hb28 := hs.1
    refine sk [2, 3, 6] hs hK26 ?_
    clear hK26
    apply awp_seq; intro K29 hK29
    apply awp_block
    apply awp_seq; intro K30 hK30
    obtain ⟨x31, hx31, h⟩ := bind_some h
    obtain ⟨hx31a, hx31b, hx31c⟩ := idx_some hx31
    have hx31d := getD_map (f := avV) hx31c
    obtain ⟨x32, hx32, h⟩ := bind_some h
    obtain ⟨hx32a, hx32b, hx32c⟩ := idx_some hx32
    have hx32d := getD_map (f := avV) hx32c
    obtain ⟨y33, hy33, h⟩ := bind_some h
    apply awp_draw mix 12 2 1 [2, 3, 6, 7] (by kernel_rfl)
    rw [evK_succ]; simp +decide only [go_sem, Nat.reduceAdd, hb4, hb8, hb12, hb19, hb28, hx31d, hx32d]
    have hs := And.intro hx31d hs
    have hs := And.intro hx32d hs
    (repeat' apply And.intro) <;> first | refine callK_p _ (ih _ _ _ x31 x32 _ hy33) (hv hs) ?_ | exact cl
    rw [evK_succ]; simp +decide only [go_sem, Nat.reduceAdd, hb4, hb8, hb12, hb19, hb28, hx31d, hx32d]
    (repeat' with_reducible apply And.intro) <;> first | (rw [evK_succ]; simp +decide only [go_sem, Nat.reduceAdd, hb4, hb8, hb12, hb19, hb28, hx31d, hx32d]) | exact cl
    (repeat' apply And.intro) <;> first | refine hK30 _ _ ?_ | exact cl
    clear hK30
    refine rg [2, 3, 6, 7, 75] hs ?_
    refine cnd h hs (fun hs h => ?_) (fun hs h => ?_)
    · skip
      have hb35 := hs.1
      refine rg [4] hs ?_
      exact rt h hs hcalm hO
    have hb35 := hs.1
    refine sk [2, 3, 6] hs hK29 ?_
    clear hK29
    obtain ⟨hg37, h⟩ := guard_some h
    apply awp_region 1 [2, 3, 6]
    rw [evK_succ]; simp +decide only [go_sem, Nat.reduceAdd, hb4, hb8, hb12, hb19, hb28, hx31d, hx32d, hb35]
    (repeat' apply And.intro) <;> first | refine hKR_l25 m_l25 _ _ (Nat.lt_succ_self m_l25) ⟨(x6_l25 + 1), ([]), rows_l25, ef hs, ef hs, hO, h⟩ | exact cl
  · clear h; rintro e st ⟨X_k22, rows_k22, rfl, rfl, hO, h⟩
    rw [r4_Compare_k22] at h
    refine td hN hNR hNL hcalm hO ?_
    apply awp_seq; intro K38 hK38
    refine rg [2, 3, 83] hs ?_
    refine cnd h hs (fun hs h => ?_) (fun hs h => ?_)
    · skip
      have hb40 := hs.1
      refine rc 2 [4] hs ?_; intro K41 hK41
      refine callK_p _ (r4_sign_at' w0 _ _ _ ((a0.list.length : Int)) ((a1.list.length : Int))) (hv hs) ?_
      refine ne hs hK41 ?_
      clear hK41
      exact rt h hs hcalm hO
    have hb40 := hs.1
    refine sk [2, 3] hs hK38 ?_
    clear hK38
    refine awp_mid (fun e st => ∃ (X_k43 : List (List AV)) (rows_k43 : List RowA), e = [(2, true, .box B.length 0), (3, true, .box (B.length + 1) 0)] ∧ st = ⟨B ++ ([a0.cs, a1.cs] ++ X_k43), rows_k43, L⟩ ∧ Owns Rw rows_k43 [] ∧ r4_Compare_k43 rec n a0 a1  = some r) ?_ ?_
    · intro K44 hK44
      refine rg [2, 3, 8] hs ?_
      apply awp_block
      refine awp_loop (fun m e st => ∃ (x8_l46 : Int) (X_l46 : List (List AV)) (rows_l46 : List RowA), e = [(2, true, .box B.length 0), (3, true, .box (B.length + 1) 0), (8, true, .val (.int .i64 x8_l46))] ∧ st = ⟨B ++ ([a0.cs, a1.cs] ++ X_l46), rows_l46, L⟩ ∧ Owns Rw rows_l46 [] ∧ r4_Compare_l46 rec n a0 a1 m x8_l46 = some r) n ⟨0, ([]), rows_k22, ef hs, ef hs, hO, h⟩ ?_
      rintro m_l46 e st ⟨x8_l46, X_l46, rows_l46, rfl, rfl, hO, h⟩ KR_l46 hKR_l46
      cases m_l46 with
      | zero => cases h
      | succ m_l46 =>
      rw [r4_Compare_l46] at h
      refine td hN hNR hNL hcalm hO ?_
      apply awp_seq; intro K47 hK47
      refine rg [2, 3, 8, 102] hs ?_
      refine cnd h hs (fun hs h => ?_) (fun hs h => ?_)
      rotate_left
      · skip
        have hb49 := hs.1
        refine sx [2, 3] hs hK44 ?_
        exact ⟨([]), rows_l46, ef hs, ef hs, hO, h⟩
      have hb49 := hs.1
      refine sk [2, 3, 8] hs hK47 ?_
      clear hK47
      apply awp_seq; intro K50 hK50
      apply awp_block
      apply awp_seq; intro K51 hK51
      apply awp_seq; intro K52 hK52
      obtain ⟨x53, hx53, h⟩ := bind_some h
      obtain ⟨hx53a, hx53b, hx53c⟩ := idx_some hx53
      have hx53d := getD_map (f := avF) hx53c
      obtain ⟨x54, hx54, h⟩ := bind_some h
      obtain ⟨hx54a, hx54b, hx54c⟩ := idx_some hx54
      have hx54d := getD_map (f := avF) hx54c
      obtain ⟨hg55, h⟩ := guard_some h
      obtain ⟨hg56, h⟩ := guard_some h
      apply awp_draw mix 14 2 1 [2, 3, 8, 9] (by kernel_rfl)
      rw [evK_succ]; simp +decide only [go_sem, Nat.reduceAdd, hb4, hb8, hb12, hb19, hb40, hb49, hx53d, hx54d]
      have hs := And.intro hx53d hs
      have hs := And.intro hx54d hs
      (repeat' apply And.intro) <;> first | refine callK_p _ (text_at w0 _ _ _ x53.1 x54.1 hg55 hg56) (hv hs) ?_ | exact cl
      rw [evK_succ]; simp +decide only [go_sem, Nat.reduceAdd, hb4, hb8, hb12, hb19, hb40, hb49, hx53d, hx54d]
      (repeat' with_reducible apply And.intro) <;> first | (rw [evK_succ]; simp +decide only [go_sem, Nat.reduceAdd, hb4, hb8, hb12, hb19, hb40, hb49, hx53d, hx54d]) | exact cl
      (repeat' apply And.intro) <;> first | refine hK52 _ _ ?_ | exact cl
      clear hK52
      refine rg [2, 3, 8, 9, 119] hs ?_
      refine cnd h hs (fun hs h => ?_) (fun hs h => ?_)
      · skip
        have hb58 := hs.1
        refine rg [4] hs ?_
        exact rt h hs hcalm hO
      have hb58 := hs.1
      refine sk [2, 3, 8] hs hK51 ?_
      clear hK51
      apply awp_seq; intro K60 hK60
      obtain ⟨y61, hy61, h⟩ := bind_some h
      apply awp_draw mix 14 2 1 [2, 3, 8, 10] (by kernel_rfl)
      rw [evK_succ]; simp +decide only [go_sem, Nat.reduceAdd, hb4, hb8, hb12, hb19, hb40, hb49, hx53d, hx54d, hb58]
      (repeat' apply And.intro) <;> first | refine callK_p _ (ih _ _ _ x53.2 x54.2 _ hy61) (hv hs) ?_ | exact cl
      rw [evK_succ]; simp +decide only [go_sem, Nat.reduceAdd, hb4, hb8, hb12, hb19, hb40, hb49, hx53d, hx54d, hb58]
      (repeat' with_reducible apply And.intro) <;> first | (rw [evK_succ]; simp +decide only [go_sem, Nat.reduceAdd, hb4, hb8, hb12, hb19, hb40, hb49, hx53d, hx54d, hb58]) | exact cl
      (repeat' apply And.intro) <;> first | refine hK60 _ _ ?_ | exact cl
      clear hK60
      refine rg [2, 3, 8, 10, 135] hs ?_
      refine cnd h hs (fun hs h => ?_) (fun hs h => ?_)
      · skip
        have hb63 := hs.1
        refine rg [4] hs ?_
        exact rt h hs hcalm hO
      have hb63 := hs.1
      refine sk [2, 3, 8] hs hK50 ?_
      clear hK50
      obtain ⟨hg65, h⟩ := guard_some h
      apply awp_region 1 [2, 3, 8]
      rw [evK_succ]; simp +decide only [go_sem, Nat.reduceAdd, hb4, hb8, hb12, hb19, hb40, hb49, hx53d, hx54d, hb58, hb63]
      (repeat' apply And.intro) <;> first | refine hKR_l46 m_l46 _ _ (Nat.lt_succ_self m_l46) ⟨(x8_l46 + 1), ([]), rows_l46, ef hs, ef hs, hO, h⟩ | exact cl
    · clear h; rintro e st ⟨X_k43, rows_k43, rfl, rfl, hO, h⟩
      rw [r4_Compare_k43] at h
      refine td hN hNR hNL hcalm hO ?_
      refine rc 2 [4] hs ?_; intro K66 hK66
      refine callK_p _ (r4_sign_at' w0 _ _ _ ((a0.fields.length : Int)) ((a1.fields.length : Int))) (hv hs) ?_
      refine ne hs hK66 ?_
      clear hK66
      exact rt h hs hcalm hO
theorem r4_Compare_at (w0 : World) : ∀ (n : Nat) (B : List (List AV)) (Rw : List RowA) (L : List LoopA) (a0 : Vl) (a1 : Vl) (r : Int) (h : r4_Compare_F n a0 a1 = some r), ACalls Tryz.prog w0 62 [.agg (a0.cs), .agg (a1.cs)] ⟨B, Rw, L⟩ fun x st => x = .val (.int .i64 r) ∧ st = ⟨B, Rw, L⟩
  | 0, _, _, _, _, _, _, h => (nomatch h)
  | n + 1, B, Rw, L, a0, a1, r, h => r4_Compare_step w0 (r4_Compare_F n) (r4_Compare_at w0 n) n B Rw L a0 a1 r (by rw [r4_Compare_F] at h; exact h)
end Go.Proofs.YtggimoedcamonaaGreatDoor
namespace Go.Proofs.YtggimoedcamonaaGreatDoor
open Go Go.RowKit Go.Ev
set_option linter.unusedSimpArgs false
set_option linter.unusedVariables false
def r4_Equal_F (n : Nat) (a0 : Vl) (a1 : Vl) : Option Bool :=
  (r4_Compare_F n a0 a1).bind fun y3 =>
  some (decide (y3 = 0))
set_option maxRecDepth 100000 in
set_option maxHeartbeats 4000000 in
theorem r4_Equal_at (w0 : World) (n : Nat) (B : List (List AV)) (Rw : List RowA) (L : List LoopA) (a0 : Vl) (a1 : Vl) (r : Bool) (h : r4_Equal_F n a0 a1 = some r) :
    ACalls Tryz.prog w0 24 [.agg (a0.cs), .agg (a1.cs)] ⟨B, Rw, L⟩ fun x st => x = .val (.bool r) ∧ st = ⟨B, Rw, L⟩ := by
  rw [r4_Equal_F] at h
  refine ACalls.finP (acalls_of (rs := [.tmp 4]) Tryz.func24 rfl rfl Tryz.ntmps24 (enters_some Tryz.func24 rfl (by decide)) (Nat.le_of_ble_eq_true rfl) ?_)
  intro M0 W0 hN hNR hNL hcalm hu
  dsimp only at hN hNR hNL hcalm hu
  simp only [argsE]
  have hO := Owns.none Rw
  have hs := fact0
  refine rg [2, 3] hs ?_
  obtain ⟨y3, hy3, h⟩ := bind_some h
  refine rc 2 [4] hs ?_; intro K2 hK2
  refine callK_p _ (r4_Compare_at w0 n _ _ _ a0 a1 _ hy3) (hv hs) ?_
  refine ne hs hK2 ?_
  clear hK2
  exact rt h hs hcalm hO
end Go.Proofs.YtggimoedcamonaaGreatDoor
namespace Go.Proofs.YtggimoedcamonaaGreatDoor
open Go Go.RowKit Go.Ev
set_option linter.unusedSimpArgs false
set_option linter.unusedVariables false
def r6_Equal_k46 (rec : Ty → Ty → Option Bool) (n : Nat) (again_l41 : Int → Option Bool) (x7_l41 : Int) : Option Bool :=
  if I64 (x7_l41 + 1) then
    again_l41 (x7_l41 + 1)
  else none
def r6_Equal_k38 (rec : Ty → Ty → Option Bool) (n : Nat)  : Option Bool :=
  some (true)
def r6_Equal_l60 (rec : Ty → Ty → Option Bool) (n : Nat) (again_l41 : Int → Option Bool) (x7_l41 : Int) (x49 : Int × ByteArray × Int × Ty × List Vl) (x50 : Int × ByteArray × Int × Ty × List Vl) : Nat → Int → Option Bool
  | 0, _ => none
  | m + 1, x10_l60 =>
    if decide (x10_l60 < ((x49.2.2.2.2.length : Int))) then
      (idx x49.2.2.2.2 x10_l60).bind fun x66 =>
      (idx x50.2.2.2.2 x10_l60).bind fun x67 =>
      (r4_Equal_F n x66 x67).bind fun y68 =>
      if !y68 then
        some (false)
      else
        if I64 (x10_l60 + 1) then
          (r6_Equal_l60 rec n again_l41 x7_l41 x49 x50 m) (x10_l60 + 1)
        else none
    else
      r6_Equal_k46 rec n again_l41 x7_l41 
def r6_Equal_l41 (rec : Ty → Ty → Option Bool) (n : Nat) (a0 : Ty) (a1 : Ty) : Nat → Int → Option Bool
  | 0, _ => none
  | m + 1, x7_l41 =>
    if decide (x7_l41 < ((a0.fields.length : Int))) then
      (idx a0.fields x7_l41).bind fun x49 =>
      (idx a1.fields x7_l41).bind fun x50 =>
      if (((!(decide (x49.1 = x50.1))) || (!(sEq x49.2.1 x50.2.1))) || (!(decide (x49.2.2.1 = x50.2.2.1)))) || (!(decide (((x49.2.2.2.2.length : Int)) = ((x50.2.2.2.2.length : Int))))) then
        some (false)
      else
        (rec x49.2.2.2.1 x50.2.2.2.1).bind fun y56 =>
        if !y56 then
          some (false)
        else
          r6_Equal_l60 rec n (r6_Equal_l41 rec n a0 a1 m) x7_l41 x49 x50 n 0
    else
      r6_Equal_k38 rec n 
def r6_Equal_k22 (rec : Ty → Ty → Option Bool) (n : Nat) (a0 : Ty) (a1 : Ty) : Option Bool :=
  r6_Equal_l41 rec n a0 a1 n 0
def r6_Equal_l25 (rec : Ty → Ty → Option Bool) (n : Nat) (a0 : Ty) (a1 : Ty) : Nat → Int → Option Bool
  | 0, _ => none
  | m + 1, x6_l25 =>
    if decide (x6_l25 < ((a0.elem.length : Int))) then
      (idx a0.elem x6_l25).bind fun x31 =>
      (idx a1.elem x6_l25).bind fun x32 =>
      (rec x31 x32).bind fun y33 =>
      if !y33 then
        some (false)
      else
        if I64 (x6_l25 + 1) then
          (r6_Equal_l25 rec n a0 a1 m) (x6_l25 + 1)
        else none
    else
      r6_Equal_k22 rec n a0 a1 
def r6_Equal_k7 (rec : Ty → Ty → Option Bool) (n : Nat) (a0 : Ty) (a1 : Ty) : Option Bool :=
  r6_Equal_l25 rec n a0 a1 n 0
def r6_Equal_l10 (rec : Ty → Ty → Option Bool) (n : Nat) (a0 : Ty) (a1 : Ty) : Nat → Int → Option Bool
  | 0, _ => none
  | m + 1, x5_l10 =>
    if decide (x5_l10 < ((a0.words.length : Int))) then
      (idx a0.words x5_l10).bind fun x16 =>
      (idx a1.words x5_l10).bind fun x17 =>
      if !(sEq x16 x17) then
        some (false)
      else
        if I64 (x5_l10 + 1) then
          (r6_Equal_l10 rec n a0 a1 m) (x5_l10 + 1)
        else none
    else
      r6_Equal_k7 rec n a0 a1 
def r6_Equal_B (rec : Ty → Ty → Option Bool) (n : Nat) (a0 : Ty) (a1 : Ty) : Option Bool :=
  if ((((((!(decide (a0.kind = a1.kind))) || (!(decide (a0.min = a1.min)))) || (!(decide (a0.max = a1.max)))) || (!(decide (a0.scale = a1.scale)))) || (!(decide (((a0.words.length : Int)) = ((a1.words.length : Int)))))) || (!(decide (((a0.elem.length : Int)) = ((a1.elem.length : Int)))))) || (!(decide (((a0.fields.length : Int)) = ((a1.fields.length : Int))))) then
    some (false)
  else
    r6_Equal_l10 rec n a0 a1 n 0
def r6_Equal_F : Nat → Ty → Ty → Option Bool
  | 0, _, _ => none
  | n + 1, a0, a1 => r6_Equal_B (r6_Equal_F n) n a0 a1
set_option maxRecDepth 100000 in
set_option maxHeartbeats 4000000 in
theorem r6_Equal_step (w0 : World) (rec : Ty → Ty → Option Bool) (ih : ∀ (B : List (List AV)) (Rw : List RowA) (L : List LoopA) (a0 : Ty) (a1 : Ty) (r : Bool) (h : rec a0 a1 = some r), ACalls Tryz.prog w0 30 [.agg (a0.cs), .agg (a1.cs)] ⟨B, Rw, L⟩ fun x st => x = .val (.bool r) ∧ st = ⟨B, Rw, L⟩) (n : Nat) (B : List (List AV)) (Rw : List RowA) (L : List LoopA) (a0 : Ty) (a1 : Ty) (r : Bool) (h : r6_Equal_B rec n a0 a1 = some r) :
    ACalls Tryz.prog w0 30 [.agg (a0.cs), .agg (a1.cs)] ⟨B, Rw, L⟩ fun x st => x = .val (.bool r) ∧ st = ⟨B, Rw, L⟩ := by
  rw [r6_Equal_B] at h
  refine ACalls.finP (acalls_of (rs := [.tmp 4]) Tryz.func30 rfl rfl Tryz.ntmps30 (enters_some Tryz.func30 rfl (by decide)) (Nat.le_of_ble_eq_true rfl) ?_)
  intro M0 W0 hN hNR hNL hcalm hu
  dsimp only at hN hNR hNL hcalm hu
  simp only [argsE]
  have hO := Owns.none Rw
  have hs := fact0
  refine rg [2, 3] hs ?_
  apply awp_seq; intro K2 hK2
  refine rg [2, 3, 63] hs ?_
  refine cnd h hs (fun hs h => ?_) (fun hs h => ?_)
  · skip
    have hb4 := hs.1
    refine rg [4] hs ?_
    exact rt h hs hcalm hO
  have hb4 := hs.1
  refine sk [2, 3] hs hK2 ?_
  clear hK2
  refine awp_mid (fun e st => ∃ (X_k7 : List (List AV)) (rows_k7 : List RowA), e = [(2, true, .box B.length 0), (3, true, .box (B.length + 1) 0)] ∧ st = ⟨B ++ ([a0.cs, a1.cs] ++ X_k7), rows_k7, L⟩ ∧ Owns Rw rows_k7 [] ∧ r6_Equal_k7 rec n a0 a1  = some r) ?_ ?_
  · intro K8 hK8
    refine rg [2, 3, 5] hs ?_
    apply awp_block
    refine awp_loop (fun m e st => ∃ (x5_l10 : Int) (X_l10 : List (List AV)) (rows_l10 : List RowA), e = [(2, true, .box B.length 0), (3, true, .box (B.length + 1) 0), (5, true, .val (.int .i64 x5_l10))] ∧ st = ⟨B ++ ([a0.cs, a1.cs] ++ X_l10), rows_l10, L⟩ ∧ Owns Rw rows_l10 [] ∧ r6_Equal_l10 rec n a0 a1 m x5_l10 = some r) n ⟨0, ([]), Rw, ef hs, ef hs, hO, h⟩ ?_
    rintro m_l10 e st ⟨x5_l10, X_l10, rows_l10, rfl, rfl, hO, h⟩ KR_l10 hKR_l10
    cases m_l10 with
    | zero => cases h
    | succ m_l10 =>
    rw [r6_Equal_l10] at h
    refine td hN hNR hNL hcalm hO ?_
    apply awp_seq; intro K11 hK11
    refine rg [2, 3, 5, 68] hs ?_
    refine cnd h hs (fun hs h => ?_) (fun hs h => ?_)
    rotate_left
    · skip
      have hb13 := hs.1
      refine sx [2, 3] hs hK8 ?_
      exact ⟨([]), rows_l10, ef hs, ef hs, hO, h⟩
    have hb13 := hs.1
    refine sk [2, 3, 5] hs hK11 ?_
    clear hK11
    apply awp_seq; intro K14 hK14
    apply awp_block
    obtain ⟨x16, hx16, h⟩ := bind_some h
    obtain ⟨hx16a, hx16b, hx16c⟩ := idx_some hx16
    have hx16d := getD_map (f := avS) hx16c
    obtain ⟨x17, hx17, h⟩ := bind_some h
    obtain ⟨hx17a, hx17b, hx17c⟩ := idx_some hx17
    have hx17d := getD_map (f := avS) hx17c
    have hs := And.intro hx16d hs
    have hs := And.intro hx17d hs
    refine dg 11 1 1 [2, 3, 5, 81] hs mix ?_
    refine cnd h hs (fun hs h => ?_) (fun hs h => ?_)
    · skip
      have hb18 := hs.1
      refine rg [4] hs ?_
      exact rt h hs hcalm hO
    have hb18 := hs.1
    refine sk [2, 3, 5] hs hK14 ?_
    clear hK14
    obtain ⟨hg20, h⟩ := guard_some h
    apply awp_region 1 [2, 3, 5]
    rw [evK_succ]; simp +decide only [go_sem, Nat.reduceAdd, hb4, hb13, hx16d, hx17d, hb18]
    (repeat' apply And.intro) <;> first | refine hKR_l10 m_l10 _ _ (Nat.lt_succ_self m_l10) ⟨(x5_l10 + 1), ([]), rows_l10, ef hs, ef hs, hO, h⟩ | exact cl
  · clear h; rintro e st ⟨X_k7, rows_k7, rfl, rfl, hO, h⟩
    rw [r6_Equal_k7] at h
    refine td hN hNR hNL hcalm hO ?_
    refine awp_mid (fun e st => ∃ (X_k22 : List (List AV)) (rows_k22 : List RowA), e = [(2, true, .box B.length 0), (3, true, .box (B.length + 1) 0)] ∧ st = ⟨B ++ ([a0.cs, a1.cs] ++ X_k22), rows_k22, L⟩ ∧ Owns Rw rows_k22 [] ∧ r6_Equal_k22 rec n a0 a1  = some r) ?_ ?_
    · intro K23 hK23
      refine rg [2, 3, 6] hs ?_
      apply awp_block
      refine awp_loop (fun m e st => ∃ (x6_l25 : Int) (X_l25 : List (List AV)) (rows_l25 : List RowA), e = [(2, true, .box B.length 0), (3, true, .box (B.length + 1) 0), (6, true, .val (.int .i64 x6_l25))] ∧ st = ⟨B ++ ([a0.cs, a1.cs] ++ X_l25), rows_l25, L⟩ ∧ Owns Rw rows_l25 [] ∧ r6_Equal_l25 rec n a0 a1 m x6_l25 = some r) n ⟨0, ([]), rows_k7, ef hs, ef hs, hO, h⟩ ?_
      rintro m_l25 e st ⟨x6_l25, X_l25, rows_l25, rfl, rfl, hO, h⟩ KR_l25 hKR_l25
      cases m_l25 with
      | zero => cases h
      | succ m_l25 =>
      rw [r6_Equal_l25] at h
      refine td hN hNR hNL hcalm hO ?_
      apply awp_seq; intro K26 hK26
      refine rg [2, 3, 6, 86] hs ?_
      refine cnd h hs (fun hs h => ?_) (fun hs h => ?_)
      rotate_left
      · skip
        have hb28 := hs.1
        refine sx [2, 3] hs hK23 ?_
        exact ⟨([]), rows_l25, ef hs, ef hs, hO, h⟩
      have hb28 := hs.1
      refine sk [2, 3, 6] hs hK26 ?_
      clear hK26
      apply awp_seq; intro K29 hK29
      apply awp_block
      apply awp_seq; intro K30 hK30
      obtain ⟨x31, hx31, h⟩ := bind_some h
      obtain ⟨hx31a, hx31b, hx31c⟩ := idx_some hx31
      have hx31d := getD_map (f := avT) hx31c
      obtain ⟨x32, hx32, h⟩ := bind_some h
      obtain ⟨hx32a, hx32b, hx32c⟩ := idx_some hx32
      have hx32d := getD_map (f := avT) hx32c
      obtain ⟨y33, hy33, h⟩ := bind_some h
      apply awp_draw mix 12 2 1 [2, 3, 6, 100] (by kernel_rfl)
      rw [evK_succ]; simp +decide only [go_sem, Nat.reduceAdd, hb4, hb28, hx31d, hx32d]
      have hs := And.intro hx31d hs
      have hs := And.intro hx32d hs
      (repeat' apply And.intro) <;> first | refine callK_p _ (ih _ _ _ x31 x32 _ hy33) (hv hs) ?_ | exact cl
      rw [evK_succ]; simp +decide only [go_sem, Nat.reduceAdd, hb4, hb28, hx31d, hx32d]
      (repeat' with_reducible apply And.intro) <;> first | (rw [evK_succ]; simp +decide only [go_sem, Nat.reduceAdd, hb4, hb28, hx31d, hx32d]) | exact cl
      (repeat' apply And.intro) <;> first | refine hK30 _ _ ?_ | exact cl
      clear hK30
      refine cnd h hs (fun hs h => ?_) (fun hs h => ?_)
      · skip
        have hb34 := hs.1
        refine rg [4] hs ?_
        exact rt h hs hcalm hO
      have hb34 := hs.1
      refine sk [2, 3, 6] hs hK29 ?_
      clear hK29
      obtain ⟨hg36, h⟩ := guard_some h
      apply awp_region 1 [2, 3, 6]
      rw [evK_succ]; simp +decide only [go_sem, Nat.reduceAdd, hb4, hb28, hx31d, hx32d, hb34]
      (repeat' apply And.intro) <;> first | refine hKR_l25 m_l25 _ _ (Nat.lt_succ_self m_l25) ⟨(x6_l25 + 1), ([]), rows_l25, ef hs, ef hs, hO, h⟩ | exact cl
    · clear h; rintro e st ⟨X_k22, rows_k22, rfl, rfl, hO, h⟩
      rw [r6_Equal_k22] at h
      refine td hN hNR hNL hcalm hO ?_
      refine awp_mid (fun e st => ∃ (X_k38 : List (List AV)) (rows_k38 : List RowA), e = [] ∧ st = ⟨B ++ ([a0.cs, a1.cs] ++ X_k38), rows_k38, L⟩ ∧ Owns Rw rows_k38 [] ∧ r6_Equal_k38 rec n  = some r) ?_ ?_
      · intro K39 hK39
        refine rg [2, 3, 7] hs ?_
        apply awp_block
        refine awp_loop (fun m e st => ∃ (x7_l41 : Int) (X_l41 : List (List AV)) (rows_l41 : List RowA), e = [(2, true, .box B.length 0), (3, true, .box (B.length + 1) 0), (7, true, .val (.int .i64 x7_l41))] ∧ st = ⟨B ++ ([a0.cs, a1.cs] ++ X_l41), rows_l41, L⟩ ∧ Owns Rw rows_l41 [] ∧ r6_Equal_l41 rec n a0 a1 m x7_l41 = some r) n ⟨0, ([]), rows_k22, ef hs, ef hs, hO, h⟩ ?_
        rintro m_l41 e st ⟨x7_l41, X_l41, rows_l41, rfl, rfl, hO, h⟩ KR_l41 hKR_l41
        cases m_l41 with
        | zero => cases h
        | succ m_l41 =>
        rw [r6_Equal_l41] at h
        refine td hN hNR hNL hcalm hO ?_
        apply awp_seq; intro K42 hK42
        refine rg [2, 3, 7, 105] hs ?_
        refine cnd h hs (fun hs h => ?_) (fun hs h => ?_)
        rotate_left
        · skip
          have hb44 := hs.1
          refine sx [] hs hK39 ?_
          exact ⟨([]), rows_l41, ef hs, ef hs, hO, h⟩
        have hb44 := hs.1
        refine sk [2, 3, 7] hs hK42 ?_
        clear hK42
        refine awp_mid (fun e st => ∃ (X_k46 : List (List AV)) (rows_k46 : List RowA), e = [(2, true, .box B.length 0), (3, true, .box (B.length + 1) 0), (7, true, .val (.int .i64 x7_l41))] ∧ st = ⟨B ++ ([a0.cs, a1.cs] ++ X_k46), rows_k46, L⟩ ∧ Owns Rw rows_k46 [] ∧ r6_Equal_k46 rec n (r6_Equal_l41 rec n a0 a1 m_l41) x7_l41  = some r) ?_ ?_
        · intro K47 hK47
          apply awp_block
          apply awp_seq; intro K48 hK48
          obtain ⟨x49, hx49, h⟩ := bind_some h
          obtain ⟨hx49a, hx49b, hx49c⟩ := idx_some hx49
          have hx49d := getD_map (f := avTF) hx49c
          obtain ⟨x50, hx50, h⟩ := bind_some h
          obtain ⟨hx50a, hx50b, hx50c⟩ := idx_some hx50
          have hx50d := getD_map (f := avTF) hx50c
          apply awp_any mix [10, 11, 12, 13] [2, 3, 7, 8, 9] (by kernel_rfl) (fun s => ∃ (X : List (List AV)) (rows : List RowA), s = ⟨B ++ ([a0.cs, a1.cs] ++ X), rows, L⟩) 5 (B.length + 2)
          · simp +decide only [go_sem, Nat.reduceAdd]
          · rintro s ⟨X, rows, rfl⟩
            refine ⟨1, ?_⟩
            rw [evK_succ]; simp +decide only [go_sem, Nat.reduceAdd, skipE, hb4, hb44, hx49d, hx50d]
            (repeat' apply And.intro) <;> first | rfl | exact cl
          · skip
            refine Good.mk [10, 11] (by kernel_rfl) ⟨[], _, by first | rfl | simp only [List.append_nil, List.nil_append]⟩ ?_ ?_
            · intro h; exact absurd h (by decide)
            · intro i hi; simp only [List.mem_cons, List.not_mem_nil, or_false] at hi
              rcases hi with rfl | rfl
              · apply good_step rfl rfl ev
                · simp +decide only [go_sem, Nat.reduceAdd, StepOk, hb4, hb44, hx49d, hx50d]
                  (repeat' apply And.intro) <;> first | rfl | exact cl
                · simp +decide only [go_sem, Nat.reduceAdd, hb4, hb44, hx49d, hx50d]
                  refine Good.mk [11] (by kernel_rfl) ⟨_, _, by first | rfl | simp only [List.append_nil, List.nil_append]⟩ ?_ ?_
                  · intro h; exact absurd h (by decide)
                  · intro i hi; simp only [List.mem_cons, List.not_mem_nil, or_false] at hi
                    subst hi
                    · apply good_step rfl rfl ev
                      · simp +decide only [go_sem, Nat.reduceAdd, StepOk, hb4, hb44, hx49d, hx50d]
                        (repeat' apply And.intro) <;> first | rfl | exact cl
                      · simp +decide only [go_sem, Nat.reduceAdd, hb4, hb44, hx49d, hx50d]
                        refine Good.mk [12] (by kernel_rfl) ⟨_, _, by first | rfl | simp only [List.append_nil, List.nil_append]⟩ ?_ ?_
                        · intro h; exact absurd h (by decide)
                        · intro i hi; simp only [List.mem_cons, List.not_mem_nil, or_false] at hi
                          subst hi
                          · apply good_step rfl rfl ev
                            · simp +decide only [go_sem, Nat.reduceAdd, StepOk, hb4, hb44, hx49d, hx50d]
                              (repeat' apply And.intro) <;> first | rfl | exact cl
                            · simp +decide only [go_sem, Nat.reduceAdd, hb4, hb44, hx49d, hx50d]
                              refine Good.mk [13] (by kernel_rfl) ⟨_, _, by first | rfl | simp only [List.append_nil, List.nil_append]⟩ ?_ ?_
                              · intro h; exact absurd h (by decide)
                              · intro i hi; simp only [List.mem_cons, List.not_mem_nil, or_false] at hi
                                subst hi
                                · apply good_step rfl rfl ev
                                  · simp +decide only [go_sem, Nat.reduceAdd, StepOk, hb4, hb44, hx49d, hx50d]
                                    (repeat' apply And.intro) <;> first | rfl | exact cl
                                  · simp +decide only [go_sem, Nat.reduceAdd, hb4, hb44, hx49d, hx50d]
                                    refine Good.mk [] (by kernel_rfl) ⟨_, _, by first | rfl | simp only [List.append_nil, List.nil_append]⟩ ?_ ?_
                                    · intro _; apply conv_keep [2, 3, 7, 8, 9]; first | (simp +decide only [go_sem, Nat.reduceAdd, hb4, hb44, hx49d, hx50d]; done) | (simp +decide only [go_sem, Nat.reduceAdd, hb4, hb44, hx49d, hx50d]; rfl)
                                    · intro i hi; cases hi
              · apply good_step rfl rfl ev
                · simp +decide only [go_sem, Nat.reduceAdd, StepOk, hb4, hb44, hx49d, hx50d]
                  (repeat' apply And.intro) <;> first | rfl | exact cl
                · simp +decide only [go_sem, Nat.reduceAdd, hb4, hb44, hx49d, hx50d]
                  refine Good.mk [10] (by kernel_rfl) ⟨_, _, by first | rfl | simp only [List.append_nil, List.nil_append]⟩ ?_ ?_
                  · intro h; exact absurd h (by decide)
                  · intro i hi; simp only [List.mem_cons, List.not_mem_nil, or_false] at hi
                    subst hi
                    · apply good_step rfl rfl ev
                      · simp +decide only [go_sem, Nat.reduceAdd, StepOk, hb4, hb44, hx49d, hx50d]
                        (repeat' apply And.intro) <;> first | rfl | exact cl
                      · simp +decide only [go_sem, Nat.reduceAdd, hb4, hb44, hx49d, hx50d]
                        refine Good.mk [12] (by kernel_rfl) ⟨_, _, by first | rfl | simp only [List.append_nil, List.nil_append]⟩ ?_ ?_
                        · intro h; exact absurd h (by decide)
                        · intro i hi; simp only [List.mem_cons, List.not_mem_nil, or_false] at hi
                          subst hi
                          · apply good_step rfl rfl ev
                            · simp +decide only [go_sem, Nat.reduceAdd, StepOk, hb4, hb44, hx49d, hx50d]
                              (repeat' apply And.intro) <;> first | rfl | exact cl
                            · simp +decide only [go_sem, Nat.reduceAdd, hb4, hb44, hx49d, hx50d]
                              refine Good.mk [13] (by kernel_rfl) ⟨_, _, by first | rfl | simp only [List.append_nil, List.nil_append]⟩ ?_ ?_
                              · intro h; exact absurd h (by decide)
                              · intro i hi; simp only [List.mem_cons, List.not_mem_nil, or_false] at hi
                                subst hi
                                · apply good_step rfl rfl ev
                                  · simp +decide only [go_sem, Nat.reduceAdd, StepOk, hb4, hb44, hx49d, hx50d]
                                    (repeat' apply And.intro) <;> first | rfl | exact cl
                                  · simp +decide only [go_sem, Nat.reduceAdd, hb4, hb44, hx49d, hx50d]
                                    refine Good.mk [] (by kernel_rfl) ⟨_, _, by first | rfl | simp only [List.append_nil, List.nil_append]⟩ ?_ ?_
                                    · intro _; refine conv_swap' (own := [a0.cs, a1.cs]) rfl (calm_own rfl hcalm hO (by (simp +decide only [go_sem, Nat.reduceAdd]) <;> (try (repeat' apply And.intro)) <;> first | omega | assumption)) (by (simp +decide only [go_sem, Nat.reduceAdd]) <;> (try (repeat' apply And.intro)) <;> first | omega | assumption) (by (simp +decide only [go_sem, Nat.reduceAdd]) <;> (try (repeat' apply And.intro)) <;> first | omega | assumption) ?_
                                      refine swapOk_cons (by first | exact .inl ⟨rfl, rfl, rfl⟩ | exact .inr (.inl ⟨rfl, rfl, rfl⟩) | (refine .inr (.inr ⟨rfl, ?_⟩); (simp +decide only [go_sem, Nat.reduceAdd]) <;> (try (repeat' apply And.intro)) <;> first | omega | assumption)) ?_
                                      refine swapOk_cons (by first | exact .inl ⟨rfl, rfl, rfl⟩ | exact .inr (.inl ⟨rfl, rfl, rfl⟩) | (refine .inr (.inr ⟨rfl, ?_⟩); (simp +decide only [go_sem, Nat.reduceAdd]) <;> (try (repeat' apply And.intro)) <;> first | omega | assumption)) ?_
                                      refine swapOk_cons (by first | exact .inl ⟨rfl, rfl, rfl⟩ | exact .inr (.inl ⟨rfl, rfl, rfl⟩) | (refine .inr (.inr ⟨rfl, ?_⟩); (simp +decide only [go_sem, Nat.reduceAdd]) <;> (try (repeat' apply And.intro)) <;> first | omega | assumption)) ?_
                                      refine swapOk_cons (by first | exact .inl ⟨rfl, rfl, rfl⟩ | exact .inr (.inl ⟨rfl, rfl, rfl⟩) | (refine .inr (.inr ⟨rfl, ?_⟩); (simp +decide only [go_sem, Nat.reduceAdd]) <;> (try (repeat' apply And.intro)) <;> first | omega | assumption)) ?_
                                      refine swapOk_cons (by first | exact .inl ⟨rfl, rfl, rfl⟩ | exact .inr (.inl ⟨rfl, rfl, rfl⟩) | (refine .inr (.inr ⟨rfl, ?_⟩); (simp +decide only [go_sem, Nat.reduceAdd]) <;> (try (repeat' apply And.intro)) <;> first | omega | assumption)) ?_
                                      exact trivial
                                    · intro i hi; cases hi
          simp +decide only [go_sem, Nat.reduceAdd, hb4, hb44, hx49d, hx50d]
          (repeat' apply And.intro) <;> first | refine hK48 _ _ ?_ | exact cl
          clear hK48
          apply awp_seq; intro K51 hK51
          apply awp_seq; intro K52 hK52
          rcases Bool.eq_false_or_eq_true ((((!(decide (x49.1 = x50.1))) || (!(sEq x49.2.1 x50.2.1))) || (!(decide (x49.2.2.1 = x50.2.2.1)))) || (!(decide (((x49.2.2.2.2.length : Int)) = ((x50.2.2.2.2.length : Int)))))) with hf53 | hf53
          · replace h := ite_tt h hf53
            apply awp_region 2 [2, 3, 7, 8, 9, 153]
            rw [evK_succ]; simp +decide only [go_sem, Nat.reduceAdd, hb4, hb44, hx49d, hx50d, hf53]
            (repeat' apply And.intro) <;> first | refine callK_skip ?_ | exact cl
            rw [evK_succ]; simp +decide only [go_sem, Nat.reduceAdd, hb4, hb44, hx49d, hx50d, hf53]
            (repeat' apply And.intro) <;> first | refine hK52 _ _ ?_ | exact cl
            clear hK52
            have hs := And.intro hx49d hs
            have hs := And.intro hx50d hs
            have hs := And.intro hf53 hs
            refine awp_cond true ev (ef hs) (fun hb54 => ?_) (fun hb54 => by cases hb54)
            refine rg [4] hs ?_
            exact rt h hs hcalm hO
          · replace h := ite_ff h hf53
            obtain ⟨y56, hy56, h⟩ := bind_some h
            apply awp_region 2 [2, 3, 7, 8, 9, 153]
            rw [evK_succ]; simp +decide only [go_sem, Nat.reduceAdd, hb4, hb44, hx49d, hx50d, hf53]
            have hs := And.intro hx49d hs
            have hs := And.intro hx50d hs
            have hs := And.intro hf53 hs
            (repeat' apply And.intro) <;> first | refine callK_p _ (ih _ _ _ x49.2.2.2.1 x50.2.2.2.1 _ hy56) (hv hs) ?_ | exact cl
            rw [evK_succ]; simp +decide only [go_sem, Nat.reduceAdd, hb4, hb44, hx49d, hx50d, hf53]
            (repeat' apply And.intro) <;> first | refine hK52 _ _ ?_ | exact cl
            clear hK52
            refine cnd h hs (fun hs h => ?_) (fun hs h => ?_)
            · skip
              have hb57 := hs.1
              refine rg [4] hs ?_
              exact rt h hs hcalm hO
            have hb57 := hs.1
            refine sk [2, 3, 7, 8, 9] hs hK51 ?_
            clear hK51
            refine rg [2, 3, 7, 8, 9, 10] hs ?_
            apply awp_block
            refine awp_loop (fun m e st => ∃ (x10_l60 : Int) (X_l60 : List (List AV)) (rows_l60 : List RowA), e = [(2, true, .box B.length 0), (3, true, .box (B.length + 1) 0), (7, true, .val (.int .i64 x7_l41)), (8, true, .box (B.length + 2) 0), (9, true, .box (B.length + 3) 0), (10, true, .val (.int .i64 x10_l60))] ∧ st = ⟨B ++ ([a0.cs, a1.cs, .val (.int .i64 x49.1) :: (.val (.string x49.2.1) :: (.val (.int .i64 x49.2.2.1) :: ((x49.2.2.2.1.cs) ++ ([.list (x49.2.2.2.2.map avV) .none])))), .val (.int .i64 x50.1) :: (.val (.string x50.2.1) :: (.val (.int .i64 x50.2.2.1) :: ((x50.2.2.2.1.cs) ++ ([.list (x50.2.2.2.2.map avV) .none]))))] ++ X_l60), rows_l60, L⟩ ∧ Owns Rw rows_l60 [] ∧ r6_Equal_l60 rec n (r6_Equal_l41 rec n a0 a1 m_l41) x7_l41 x49 x50 m x10_l60 = some r) n ⟨0, ([]), rows_l41, ef hs, ef hs, hO, h⟩ ?_
            rintro m_l60 e st ⟨x10_l60, X_l60, rows_l60, rfl, rfl, hO, h⟩ KR_l60 hKR_l60
            cases m_l60 with
            | zero => cases h
            | succ m_l60 =>
            rw [r6_Equal_l60] at h
            refine td hN hNR hNL hcalm hO ?_
            apply awp_seq; intro K61 hK61
            refine rg [2, 3, 7, 8, 9, 10, 158] hs ?_
            refine cnd h hs (fun hs h => ?_) (fun hs h => ?_)
            rotate_left
            · skip
              have hb63 := hs.1
              refine sx [2, 3, 7] hs hK47 ?_
              exact ⟨([.val (.int .i64 x49.1) :: (.val (.string x49.2.1) :: (.val (.int .i64 x49.2.2.1) :: ((x49.2.2.2.1.cs) ++ ([.list (x49.2.2.2.2.map avV) .none])))), .val (.int .i64 x50.1) :: (.val (.string x50.2.1) :: (.val (.int .i64 x50.2.2.1) :: ((x50.2.2.2.1.cs) ++ ([.list (x50.2.2.2.2.map avV) .none]))))]), rows_l60, ef hs, ef hs, hO, h⟩
            have hb63 := hs.1
            refine sk [2, 3, 7, 8, 9, 10] hs hK61 ?_
            clear hK61
            apply awp_seq; intro K64 hK64
            apply awp_block
            apply awp_seq; intro K65 hK65
            obtain ⟨x66, hx66, h⟩ := bind_some h
            obtain ⟨hx66a, hx66b, hx66c⟩ := idx_some hx66
            have hx66d := getD_map (f := avV) hx66c
            obtain ⟨x67, hx67, h⟩ := bind_some h
            obtain ⟨hx67a, hx67b, hx67c⟩ := idx_some hx67
            have hx67d := getD_map (f := avV) hx67c
            obtain ⟨y68, hy68, h⟩ := bind_some h
            apply awp_draw mix 12 2 1 [2, 3, 7, 8, 9, 10, 172] (by kernel_rfl)
            rw [evK_succ]; simp +decide only [go_sem, Nat.reduceAdd, hb4, hb44, hx49d, hx50d, hf53, hb57, hb63, hx66d, hx67d]
            have hs := And.intro hx66d hs
            have hs := And.intro hx67d hs
            (repeat' apply And.intro) <;> first | refine callK_p _ (r4_Equal_at w0 n _ _ _ x66 x67 _ hy68) (hv hs) ?_ | exact cl
            rw [evK_succ]; simp +decide only [go_sem, Nat.reduceAdd, hb4, hb44, hx49d, hx50d, hf53, hb57, hb63, hx66d, hx67d]
            (repeat' with_reducible apply And.intro) <;> first | (rw [evK_succ]; simp +decide only [go_sem, Nat.reduceAdd, hb4, hb44, hx49d, hx50d, hf53, hb57, hb63, hx66d, hx67d]) | exact cl
            (repeat' apply And.intro) <;> first | refine hK65 _ _ ?_ | exact cl
            clear hK65
            refine cnd h hs (fun hs h => ?_) (fun hs h => ?_)
            · skip
              have hb69 := hs.1
              refine rg [4] hs ?_
              exact rt h hs hcalm hO
            have hb69 := hs.1
            refine sk [2, 3, 7, 8, 9, 10] hs hK64 ?_
            clear hK64
            obtain ⟨hg71, h⟩ := guard_some h
            apply awp_region 1 [2, 3, 7, 8, 9, 10]
            rw [evK_succ]; simp +decide only [go_sem, Nat.reduceAdd, hb4, hb44, hx49d, hx50d, hf53, hb57, hb63, hx66d, hx67d, hb69]
            (repeat' apply And.intro) <;> first | refine hKR_l60 m_l60 _ _ (Nat.lt_succ_self m_l60) ⟨(x10_l60 + 1), ([]), rows_l60, ef hs, ef hs, hO, h⟩ | exact cl
        · clear h; rintro e st ⟨X_k46, rows_k46, rfl, rfl, hO, h⟩
          rw [r6_Equal_k46] at h
          refine td hN hNR hNL hcalm hO ?_
          obtain ⟨hg72, h⟩ := guard_some h
          apply awp_region 1 [2, 3, 7]
          rw [evK_succ]; simp +decide only [go_sem, Nat.reduceAdd, hb4, hb44]
          (repeat' apply And.intro) <;> first | refine hKR_l41 m_l41 _ _ (Nat.lt_succ_self m_l41) ⟨(x7_l41 + 1), ([]), rows_k46, ef hs, ef hs, hO, h⟩ | exact cl
      · clear h; rintro e st ⟨X_k38, rows_k38, rfl, rfl, hO, h⟩
        rw [r6_Equal_k38] at h
        refine td hN hNR hNL hcalm hO ?_
        refine rg [4] hs ?_
        exact rt h hs hcalm hO
theorem r6_Equal_at (w0 : World) : ∀ (n : Nat) (B : List (List AV)) (Rw : List RowA) (L : List LoopA) (a0 : Ty) (a1 : Ty) (r : Bool) (h : r6_Equal_F n a0 a1 = some r), ACalls Tryz.prog w0 30 [.agg (a0.cs), .agg (a1.cs)] ⟨B, Rw, L⟩ fun x st => x = .val (.bool r) ∧ st = ⟨B, Rw, L⟩
  | 0, _, _, _, _, _, _, h => (nomatch h)
  | n + 1, B, Rw, L, a0, a1, r, h => r6_Equal_step w0 (r6_Equal_F n) (r6_Equal_at w0 n) n B Rw L a0 a1 r (by rw [r6_Equal_F] at h; exact h)
end Go.Proofs.YtggimoedcamonaaGreatDoor
namespace Go.Proofs.YtggimoedcamonaaGreatDoor
open Go Go.RowKit Go.Ev
set_option linter.unusedSimpArgs false
set_option linter.unusedVariables false
def sl_EqualFunc_Value_k7 (n : Nat)  : Option Bool :=
  some (true)
def sl_EqualFunc_Value_l10 (n : Nat) (a0 : List Vl) (a1 : List Vl) (a2 : Vl → Vl → Option Bool) : Nat → Int → Option Bool
  | 0, _ => none
  | m + 1, x17_l10 =>
    if decide (x17_l10 < ((a0.length : Int))) then
      (idx a0 x17_l10).bind fun x16 =>
      (idx a1 x17_l10).bind fun x18 =>
      (a2 x16 x18).bind fun y20 =>
      if !y20 then
        some (false)
      else
        if I64 (x17_l10 + 1) then
          (sl_EqualFunc_Value_l10 n a0 a1 a2 m) (x17_l10 + 1)
        else none
    else
      sl_EqualFunc_Value_k7 n 
def sl_EqualFunc_Value_F (n : Nat) (a0 : List Vl) (a1 : List Vl) (a2 : Vl → Vl → Option Bool) : Option Bool :=
  if !(decide (((a0.length : Int)) = ((a1.length : Int)))) then
    some (false)
  else
    sl_EqualFunc_Value_l10 n a0 a1 a2 n 0
set_option maxRecDepth 100000 in
set_option maxHeartbeats 4000000 in
theorem sl_EqualFunc_Value_at (w0 : World) (n : Nat) (B : List (List AV)) (Rw : List RowA) (L : List LoopA) (a0 : List Vl) (a1 : List Vl) (fa2 : FuncId) (ca2 : List AV) (a2 : Vl → Vl → Option Bool) (ha2 : ∀ (x0 : Vl) (x1 : Vl) r, a2 x0 x1 = some r → ∀ B' rows, B <+: B' → Rw <+: rows → ACalls Tryz.prog w0 fa2 ([.agg (x0.cs), .agg (x1.cs)] ++ ca2) ⟨B', rows, L⟩ fun v s => v = .val (.bool r) ∧ s = ⟨B', rows, L⟩) (r : Bool) (h : sl_EqualFunc_Value_F n a0 a1 a2 = some r) :
    ACalls Tryz.prog w0 86 [.list (a0.map avV) .none, .list (a1.map avV) .none, .clo fa2 ca2] ⟨B, Rw, L⟩ fun x st => x = .val (.bool r) ∧ st = ⟨B, Rw, L⟩ := by
  rw [sl_EqualFunc_Value_F] at h
  refine ACalls.finP (acalls_of (rs := [.tmp 6]) Tryz.func86 rfl rfl Tryz.ntmps86 (enters_some Tryz.func86 rfl (by decide)) (Nat.le_of_ble_eq_true rfl) ?_)
  intro M0 W0 hN hNR hNL hcalm hu
  dsimp only at hN hNR hNL hcalm hu
  simp only [argsE]
  have hO := Owns.none Rw
  have hs := fact0
  have hU_a2 := under_caps (hu (.clo fa2 ca2) (by simp))
  refine rg [0, 1, 2] hs ?_
  apply awp_seq; intro K2 hK2
  refine rg [0, 1, 2, 14] hs ?_
  refine cnd h hs (fun hs h => ?_) (fun hs h => ?_)
  · skip
    have hb4 := hs.1
    refine rg [6] hs ?_
    exact rt h hs hcalm hO
  have hb4 := hs.1
  refine sk [0, 1, 2] hs hK2 ?_
  clear hK2
  refine awp_mid (fun e st => ∃ (X_k7 : List (List AV)) (rows_k7 : List RowA), e = [] ∧ st = ⟨B ++ ([] ++ X_k7), rows_k7, L⟩ ∧ Owns Rw rows_k7 [] ∧ sl_EqualFunc_Value_k7 n  = some r) ?_ ?_
  · intro K8 hK8
    refine rg [1, 2, 15, 16, 17] hs ?_
    apply awp_block
    refine awp_loop (fun m e st => ∃ (x17_l10 : Int) (X_l10 : List (List AV)) (rows_l10 : List RowA), e = [(1, true, .list (a1.map avV) .none), (2, true, .clo fa2 ca2), (15, true, .list (a0.map avV) .none), (16, true, .val (.int .i64 ((a0.length : Int)))), (17, true, .val (.int .i64 x17_l10))] ∧ st = ⟨B ++ ([] ++ X_l10), rows_l10, L⟩ ∧ Owns Rw rows_l10 [] ∧ sl_EqualFunc_Value_l10 n a0 a1 a2 m x17_l10 = some r) n ⟨0, ([]), Rw, ef hs, ef hs, hO, h⟩ ?_
    rintro m_l10 e st ⟨x17_l10, X_l10, rows_l10, rfl, rfl, hO, h⟩ KR_l10 hKR_l10
    cases m_l10 with
    | zero => cases h
    | succ m_l10 =>
    rw [sl_EqualFunc_Value_l10] at h
    refine awp_tidy hN hNR hNL rfl hcalm hO (by (simp +decide only [go_sem, Nat.reduceAdd]) <;> (try (repeat' apply And.intro)) <;> first | omega | assumption | exact hU_a2 _ _ _ (by omega) (by have := hO.len; omega) (by omega)) (by (simp +decide only [go_sem, Nat.reduceAdd, calmE]) <;> (try (repeat' apply And.intro)) <;> first | omega | assumption | exact hU_a2 _ _ _ (by omega) (by have := hO.len; omega) (by omega)) ?_
    refine rg [1, 2, 15, 16, 17, 18] hs ?_
    apply awp_seq; intro K12 hK12
    refine cnd h hs (fun hs h => ?_) (fun hs h => ?_)
    rotate_left
    · skip
      have hb13 := hs.1
      refine sx [] hs hK8 ?_
      exact ⟨([]), rows_l10, ef hs, ef hs, hO, h⟩
    have hb13 := hs.1
    refine sk [1, 2, 15, 16, 17] hs hK12 ?_
    clear hK12
    apply awp_seq; intro K14 hK14
    apply awp_block
    obtain ⟨x16, hx16, h⟩ := bind_some h
    obtain ⟨hx16a, hx16b, hx16c⟩ := idx_some hx16
    have hx16d := getD_map (f := avV) hx16c
    have hs := And.intro hx16d hs
    refine rg [1, 2, 7, 8, 15, 16, 17] hs ?_
    obtain ⟨x18, hx18, h⟩ := bind_some h
    obtain ⟨hx18a, hx18b, hx18c⟩ := idx_some hx18
    have hx18d := getD_map (f := avV) hx18c
    have hs := And.intro hx18d hs
    refine rg [1, 2, 8, 9, 15, 16, 17] hs ?_
    obtain ⟨y20, hy20, h⟩ := bind_some h
    refine rc 2 [1, 2, 15, 16, 17, 30] hs ?_; intro K19 hK19
    refine callK_q _ (ha2 x16 x18 _ hy20 _ _ (by first | exact List.prefix_append _ _ | exact List.prefix_refl _) hO.pre) (hv hs) ?_
    refine ne hs hK19 ?_
    clear hK19
    refine cnd h hs (fun hs h => ?_) (fun hs h => ?_)
    · skip
      have hb21 := hs.1
      refine rg [6] hs ?_
      exact rt h hs hcalm hO
    have hb21 := hs.1
    refine sk [1, 2, 15, 16, 17] hs hK14 ?_
    clear hK14
    obtain ⟨hg23, h⟩ := guard_some h
    apply awp_region 1 [1, 2, 15, 16, 17]
    rw [evK_succ]; simp +decide only [go_sem, Nat.reduceAdd, hb4, hb13, hx16d, hx18d, hb21]
    (repeat' apply And.intro) <;> first | refine hKR_l10 m_l10 _ _ (Nat.lt_succ_self m_l10) ⟨(x17_l10 + 1), ([x16.cs, x18.cs]), rows_l10, ef hs, ef hs, hO, h⟩ | exact cl
  · clear h; rintro e st ⟨X_k7, rows_k7, rfl, rfl, hO, h⟩
    rw [sl_EqualFunc_Value_k7] at h
    refine awp_tidy hN hNR hNL rfl hcalm hO (by (simp +decide only [go_sem, Nat.reduceAdd]) <;> (try (repeat' apply And.intro)) <;> first | omega | assumption | exact hU_a2 _ _ _ (by omega) (by have := hO.len; omega) (by omega)) (by (simp +decide only [go_sem, Nat.reduceAdd, calmE]) <;> (try (repeat' apply And.intro)) <;> first | omega | assumption | exact hU_a2 _ _ _ (by omega) (by have := hO.len; omega) (by omega)) ?_
    refine rg [6] hs ?_
    exact rt h hs hcalm hO
end Go.Proofs.YtggimoedcamonaaGreatDoor
namespace Go.Proofs.YtggimoedcamonaaGreatDoor
open Go Go.RowKit Go.Ev
set_option linter.unusedSimpArgs false
set_option linter.unusedVariables false
def cmp_Or_int_k4 (n : Nat)  : Option Int :=
  some (0)
def cmp_Or_int_l7 (n : Nat) (a0 : List Int) : Nat → Int → Option Int
  | 0, _ => none
  | m + 1, x8_l7 =>
    if decide (x8_l7 < ((a0.length : Int))) then
      (idx a0 x8_l7).bind fun x13 =>
      if !(decide (x13 = 0)) then
        some (x13)
      else
        if I64 (x8_l7 + 1) then
          (cmp_Or_int_l7 n a0 m) (x8_l7 + 1)
        else none
    else
      cmp_Or_int_k4 n 
def cmp_Or_int_F (n : Nat) (a0 : List Int) : Option Int :=
  cmp_Or_int_l7 n a0 n 0
set_option maxRecDepth 100000 in
set_option maxHeartbeats 4000000 in
theorem cmp_Or_int_at (w0 : World) (n : Nat) (B : List (List AV)) (Rw : List RowA) (L : List LoopA) (a0 : List Int) (r : Int) (h : cmp_Or_int_F n a0 = some r) :
    ACalls Tryz.prog w0 172 [.list (a0.map avI) .none] ⟨B, Rw, L⟩ fun x st => x = .val (.int .i64 r) ∧ st = ⟨B, Rw, L⟩ := by
  rw [cmp_Or_int_F] at h
  refine ACalls.finP (acalls_of (rs := [.tmp 2]) Tryz.func172 rfl rfl Tryz.ntmps172 (enters_some Tryz.func172 rfl (by decide)) (Nat.le_of_ble_eq_true rfl) ?_)
  intro M0 W0 hN hNR hNL hcalm hu
  dsimp only at hN hNR hNL hcalm hu
  simp only [argsE]
  have hO := Owns.none Rw
  have hs := fact0
  refine rg [0] hs ?_
  refine rg [0, 3] hs ?_
  refine awp_mid (fun e st => ∃ (X_k4 : List (List AV)) (rows_k4 : List RowA), e = [(3, true, .val (.int .i64 0))] ∧ st = ⟨B ++ ([] ++ X_k4), rows_k4, L⟩ ∧ Owns Rw rows_k4 [] ∧ cmp_Or_int_k4 n  = some r) ?_ ?_
  · intro K5 hK5
    refine rg [3, 6, 7, 8] hs ?_
    apply awp_block
    refine awp_loop (fun m e st => ∃ (x8_l7 : Int) (X_l7 : List (List AV)) (rows_l7 : List RowA), e = [(3, true, .val (.int .i64 0)), (6, true, .list (a0.map avI) .none), (7, true, .val (.int .i64 ((a0.length : Int)))), (8, true, .val (.int .i64 x8_l7))] ∧ st = ⟨B ++ ([] ++ X_l7), rows_l7, L⟩ ∧ Owns Rw rows_l7 [] ∧ cmp_Or_int_l7 n a0 m x8_l7 = some r) n ⟨0, ([]), Rw, ef hs, ef hs, hO, h⟩ ?_
    rintro m_l7 e st ⟨x8_l7, X_l7, rows_l7, rfl, rfl, hO, h⟩ KR_l7 hKR_l7
    cases m_l7 with
    | zero => cases h
    | succ m_l7 =>
    rw [cmp_Or_int_l7] at h
    refine td hN hNR hNL hcalm hO ?_
    refine rg [3, 6, 7, 8, 9] hs ?_
    apply awp_seq; intro K9 hK9
    refine cnd h hs (fun hs h => ?_) (fun hs h => ?_)
    rotate_left
    · skip
      have hb10 := hs.1
      refine sx [3] hs hK5 ?_
      exact ⟨([]), rows_l7, ef hs, ef hs, hO, h⟩
    have hb10 := hs.1
    refine sk [3, 6, 7, 8] hs hK9 ?_
    clear hK9
    apply awp_seq; intro K11 hK11
    apply awp_block
    obtain ⟨x13, hx13, h⟩ := bind_some h
    obtain ⟨hx13a, hx13b, hx13c⟩ := idx_some hx13
    have hx13d := getD_map (f := avI) hx13c
    have hs := And.intro hx13d hs
    refine rg [3, 5, 6, 7, 8] hs ?_
    refine rg [3, 5, 6, 7, 8, 14] hs ?_
    refine cnd h hs (fun hs h => ?_) (fun hs h => ?_)
    · skip
      have hb15 := hs.1
      refine rg [2] hs ?_
      exact rt h hs hcalm hO
    have hb15 := hs.1
    refine sk [3, 6, 7, 8] hs hK11 ?_
    clear hK11
    obtain ⟨hg17, h⟩ := guard_some h
    apply awp_region 1 [3, 6, 7, 8]
    rw [evK_succ]; simp +decide only [go_sem, Nat.reduceAdd, hb10, hx13d, hb15]
    (repeat' apply And.intro) <;> first | refine hKR_l7 m_l7 _ _ (Nat.lt_succ_self m_l7) ⟨(x8_l7 + 1), ([]), rows_l7, ef hs, ef hs, hO, h⟩ | exact cl
  · clear h; rintro e st ⟨X_k4, rows_k4, rfl, rfl, hO, h⟩
    rw [cmp_Or_int_k4] at h
    refine td hN hNR hNL hcalm hO ?_
    refine rg [2] hs ?_
    exact rt h hs hcalm hO
end Go.Proofs.YtggimoedcamonaaGreatDoor
namespace Go.Proofs.YtggimoedcamonaaGreatDoor
open Go Go.RowKit Go.Ev
set_option linter.unusedSimpArgs false
set_option linter.unusedVariables false
def sl_CompareFunc_Field_k3 (n : Nat) (a0 : List (ByteArray × Vl)) (a1 : List (ByteArray × Vl)) : Option Int :=
  if decide (((a0.length : Int)) < ((a1.length : Int))) then
    some ((-1))
  else
    some (0)
def sl_CompareFunc_Field_l6 (n : Nat) (a0 : List (ByteArray × Vl)) (a1 : List (ByteArray × Vl)) (a2 : (ByteArray × Vl) → (ByteArray × Vl) → Option Int) : Nat → Int → Option Int
  | 0, _ => none
  | m + 1, x13_l6 =>
    if decide (x13_l6 < ((a0.length : Int))) then
      (idx a0 x13_l6).bind fun x12 =>
      if decide (((a1.length : Int)) ≤ x13_l6) then
        some (1)
      else
        (idx a1 x13_l6).bind fun x18 =>
        (a2 x12 x18).bind fun y20 =>
        if !(decide (y20 = 0)) then
          some (y20)
        else
          if I64 (x13_l6 + 1) then
            (sl_CompareFunc_Field_l6 n a0 a1 a2 m) (x13_l6 + 1)
          else none
    else
      sl_CompareFunc_Field_k3 n a0 a1 
def sl_CompareFunc_Field_F (n : Nat) (a0 : List (ByteArray × Vl)) (a1 : List (ByteArray × Vl)) (a2 : (ByteArray × Vl) → (ByteArray × Vl) → Option Int) : Option Int :=
  sl_CompareFunc_Field_l6 n a0 a1 a2 n 0
set_option maxRecDepth 100000 in
set_option maxHeartbeats 4000000 in
theorem sl_CompareFunc_Field_at (w0 : World) (n : Nat) (B : List (List AV)) (Rw : List RowA) (L : List LoopA) (a0 : List (ByteArray × Vl)) (a1 : List (ByteArray × Vl)) (fa2 : FuncId) (ca2 : List AV) (a2 : (ByteArray × Vl) → (ByteArray × Vl) → Option Int) (ha2 : ∀ (x0 : ByteArray × Vl) (x1 : ByteArray × Vl) r, a2 x0 x1 = some r → ∀ B' rows, B <+: B' → Rw <+: rows → ACalls Tryz.prog w0 fa2 ([.agg (.val (.string x0.1) :: (x0.2.cs)), .agg (.val (.string x1.1) :: (x1.2.cs))] ++ ca2) ⟨B', rows, L⟩ fun v s => v = .val (.int .i64 r) ∧ s = ⟨B', rows, L⟩) (r : Int) (h : sl_CompareFunc_Field_F n a0 a1 a2 = some r) :
    ACalls Tryz.prog w0 175 [.list (a0.map avF) .none, .list (a1.map avF) .none, .clo fa2 ca2] ⟨B, Rw, L⟩ fun x st => x = .val (.int .i64 r) ∧ st = ⟨B, Rw, L⟩ := by
  rw [sl_CompareFunc_Field_F] at h
  refine ACalls.finP (acalls_of (rs := [.tmp 6]) Tryz.func175 rfl rfl Tryz.ntmps175 (enters_some Tryz.func175 rfl (by decide)) (Nat.le_of_ble_eq_true rfl) ?_)
  intro M0 W0 hN hNR hNL hcalm hu
  dsimp only at hN hNR hNL hcalm hu
  simp only [argsE]
  have hO := Owns.none Rw
  have hs := fact0
  have hU_a2 := under_caps (hu (.clo fa2 ca2) (by simp))
  refine rg [0, 1, 2] hs ?_
  refine awp_mid (fun e st => ∃ (X_k3 : List (List AV)) (rows_k3 : List RowA), e = [(0, true, .list (a0.map avF) .none), (1, true, .list (a1.map avF) .none)] ∧ st = ⟨B ++ ([] ++ X_k3), rows_k3, L⟩ ∧ Owns Rw rows_k3 [] ∧ sl_CompareFunc_Field_k3 n a0 a1  = some r) ?_ ?_
  · intro K4 hK4
    refine rg [0, 1, 2, 11, 12, 13] hs ?_
    apply awp_block
    refine awp_loop (fun m e st => ∃ (x13_l6 : Int) (X_l6 : List (List AV)) (rows_l6 : List RowA), e = [(0, true, .list (a0.map avF) .none), (1, true, .list (a1.map avF) .none), (2, true, .clo fa2 ca2), (11, true, .list (a0.map avF) .none), (12, true, .val (.int .i64 ((a0.length : Int)))), (13, true, .val (.int .i64 x13_l6))] ∧ st = ⟨B ++ ([] ++ X_l6), rows_l6, L⟩ ∧ Owns Rw rows_l6 [] ∧ sl_CompareFunc_Field_l6 n a0 a1 a2 m x13_l6 = some r) n ⟨0, ([]), Rw, ef hs, ef hs, hO, h⟩ ?_
    rintro m_l6 e st ⟨x13_l6, X_l6, rows_l6, rfl, rfl, hO, h⟩ KR_l6 hKR_l6
    cases m_l6 with
    | zero => cases h
    | succ m_l6 =>
    rw [sl_CompareFunc_Field_l6] at h
    refine awp_tidy hN hNR hNL rfl hcalm hO (by (simp +decide only [go_sem, Nat.reduceAdd]) <;> (try (repeat' apply And.intro)) <;> first | omega | assumption | exact hU_a2 _ _ _ (by omega) (by have := hO.len; omega) (by omega)) (by (simp +decide only [go_sem, Nat.reduceAdd, calmE]) <;> (try (repeat' apply And.intro)) <;> first | omega | assumption | exact hU_a2 _ _ _ (by omega) (by have := hO.len; omega) (by omega)) ?_
    refine rg [0, 1, 2, 11, 12, 13, 14] hs ?_
    apply awp_seq; intro K8 hK8
    refine cnd h hs (fun hs h => ?_) (fun hs h => ?_)
    rotate_left
    · skip
      have hb9 := hs.1
      refine sx [0, 1] hs hK4 ?_
      exact ⟨([]), rows_l6, ef hs, ef hs, hO, h⟩
    have hb9 := hs.1
    refine sk [0, 1, 2, 11, 12, 13] hs hK8 ?_
    clear hK8
    apply awp_seq; intro K10 hK10
    apply awp_block
    obtain ⟨x12, hx12, h⟩ := bind_some h
    obtain ⟨hx12a, hx12b, hx12c⟩ := idx_some hx12
    have hx12d := getD_map (f := avF) hx12c
    have hs := And.intro hx12d hs
    refine rg [0, 1, 2, 7, 8, 11, 12, 13] hs ?_
    apply awp_seq; intro K13 hK13
    refine rg [0, 1, 2, 7, 8, 11, 12, 13, 21] hs ?_
    refine cnd h hs (fun hs h => ?_) (fun hs h => ?_)
    · skip
      have hb15 := hs.1
      refine rg [6] hs ?_
      exact rt h hs hcalm hO
    have hb15 := hs.1
    refine sk [0, 1, 2, 7, 8, 11, 12, 13] hs hK13 ?_
    clear hK13
    obtain ⟨x18, hx18, h⟩ := bind_some h
    obtain ⟨hx18a, hx18b, hx18c⟩ := idx_some hx18
    have hx18d := getD_map (f := avF) hx18c
    have hs := And.intro hx18d hs
    refine rg [0, 1, 2, 8, 9, 11, 12, 13] hs ?_
    obtain ⟨y20, hy20, h⟩ := bind_some h
    refine rc 2 [0, 1, 2, 10, 11, 12, 13] hs ?_; intro K19 hK19
    refine callK_q _ (ha2 x12 x18 _ hy20 _ _ (by first | exact List.prefix_append _ _ | exact List.prefix_refl _) hO.pre) (hv hs) ?_
    refine ne hs hK19 ?_
    clear hK19
    refine rg [0, 1, 2, 10, 11, 12, 13, 31] hs ?_
    refine cnd h hs (fun hs h => ?_) (fun hs h => ?_)
    · skip
      have hb22 := hs.1
      refine rg [6] hs ?_
      exact rt h hs hcalm hO
    have hb22 := hs.1
    refine sk [0, 1, 2, 11, 12, 13] hs hK10 ?_
    clear hK10
    obtain ⟨hg24, h⟩ := guard_some h
    apply awp_region 1 [0, 1, 2, 11, 12, 13]
    rw [evK_succ]; simp +decide only [go_sem, Nat.reduceAdd, hb9, hx12d, hb15, hx18d, hb22]
    (repeat' apply And.intro) <;> first | refine hKR_l6 m_l6 _ _ (Nat.lt_succ_self m_l6) ⟨(x13_l6 + 1), ([.val (.string x12.1) :: (x12.2.cs), .val (.string x18.1) :: (x18.2.cs)]), rows_l6, ef hs, ef hs, hO, h⟩ | exact cl
  · clear h; rintro e st ⟨X_k3, rows_k3, rfl, rfl, hO, h⟩
    rw [sl_CompareFunc_Field_k3] at h
    refine awp_tidy hN hNR hNL rfl hcalm hO (by (simp +decide only [go_sem, Nat.reduceAdd]) <;> (try (repeat' apply And.intro)) <;> first | omega | assumption | exact hU_a2 _ _ _ (by omega) (by have := hO.len; omega) (by omega)) (by (simp +decide only [go_sem, Nat.reduceAdd, calmE]) <;> (try (repeat' apply And.intro)) <;> first | omega | assumption | exact hU_a2 _ _ _ (by omega) (by have := hO.len; omega) (by omega)) ?_
    apply awp_seq; intro K25 hK25
    refine rg [38] hs ?_
    refine cnd h hs (fun hs h => ?_) (fun hs h => ?_)
    · skip
      refine rg [6] hs ?_
      exact rt h hs hcalm hO
    refine sk [] hs hK25 ?_
    clear hK25
    refine rg [6] hs ?_
    exact rt h hs hcalm hO
end Go.Proofs.YtggimoedcamonaaGreatDoor
namespace Go.Proofs.YtggimoedcamonaaGreatDoor
open Go Go.RowKit Go.Ev
set_option linter.unusedSimpArgs false
set_option linter.unusedVariables false
def sl_CompareFunc_Value_k3 (n : Nat) (a0 : List Vl) (a1 : List Vl) : Option Int :=
  if decide (((a0.length : Int)) < ((a1.length : Int))) then
    some ((-1))
  else
    some (0)
def sl_CompareFunc_Value_l6 (n : Nat) (a0 : List Vl) (a1 : List Vl) (a2 : Vl → Vl → Option Int) : Nat → Int → Option Int
  | 0, _ => none
  | m + 1, x13_l6 =>
    if decide (x13_l6 < ((a0.length : Int))) then
      (idx a0 x13_l6).bind fun x12 =>
      if decide (((a1.length : Int)) ≤ x13_l6) then
        some (1)
      else
        (idx a1 x13_l6).bind fun x18 =>
        (a2 x12 x18).bind fun y20 =>
        if !(decide (y20 = 0)) then
          some (y20)
        else
          if I64 (x13_l6 + 1) then
            (sl_CompareFunc_Value_l6 n a0 a1 a2 m) (x13_l6 + 1)
          else none
    else
      sl_CompareFunc_Value_k3 n a0 a1 
def sl_CompareFunc_Value_F (n : Nat) (a0 : List Vl) (a1 : List Vl) (a2 : Vl → Vl → Option Int) : Option Int :=
  sl_CompareFunc_Value_l6 n a0 a1 a2 n 0
set_option maxRecDepth 100000 in
set_option maxHeartbeats 4000000 in
theorem sl_CompareFunc_Value_at (w0 : World) (n : Nat) (B : List (List AV)) (Rw : List RowA) (L : List LoopA) (a0 : List Vl) (a1 : List Vl) (fa2 : FuncId) (ca2 : List AV) (a2 : Vl → Vl → Option Int) (ha2 : ∀ (x0 : Vl) (x1 : Vl) r, a2 x0 x1 = some r → ∀ B' rows, B <+: B' → Rw <+: rows → ACalls Tryz.prog w0 fa2 ([.agg (x0.cs), .agg (x1.cs)] ++ ca2) ⟨B', rows, L⟩ fun v s => v = .val (.int .i64 r) ∧ s = ⟨B', rows, L⟩) (r : Int) (h : sl_CompareFunc_Value_F n a0 a1 a2 = some r) :
    ACalls Tryz.prog w0 174 [.list (a0.map avV) .none, .list (a1.map avV) .none, .clo fa2 ca2] ⟨B, Rw, L⟩ fun x st => x = .val (.int .i64 r) ∧ st = ⟨B, Rw, L⟩ := by
  rw [sl_CompareFunc_Value_F] at h
  refine ACalls.finP (acalls_of (rs := [.tmp 6]) Tryz.func174 rfl rfl Tryz.ntmps174 (enters_some Tryz.func174 rfl (by decide)) (Nat.le_of_ble_eq_true rfl) ?_)
  intro M0 W0 hN hNR hNL hcalm hu
  dsimp only at hN hNR hNL hcalm hu
  simp only [argsE]
  have hO := Owns.none Rw
  have hs := fact0
  have hU_a2 := under_caps (hu (.clo fa2 ca2) (by simp))
  refine rg [0, 1, 2] hs ?_
  refine awp_mid (fun e st => ∃ (X_k3 : List (List AV)) (rows_k3 : List RowA), e = [(0, true, .list (a0.map avV) .none), (1, true, .list (a1.map avV) .none)] ∧ st = ⟨B ++ ([] ++ X_k3), rows_k3, L⟩ ∧ Owns Rw rows_k3 [] ∧ sl_CompareFunc_Value_k3 n a0 a1  = some r) ?_ ?_
  · intro K4 hK4
    refine rg [0, 1, 2, 11, 12, 13] hs ?_
    apply awp_block
    refine awp_loop (fun m e st => ∃ (x13_l6 : Int) (X_l6 : List (List AV)) (rows_l6 : List RowA), e = [(0, true, .list (a0.map avV) .none), (1, true, .list (a1.map avV) .none), (2, true, .clo fa2 ca2), (11, true, .list (a0.map avV) .none), (12, true, .val (.int .i64 ((a0.length : Int)))), (13, true, .val (.int .i64 x13_l6))] ∧ st = ⟨B ++ ([] ++ X_l6), rows_l6, L⟩ ∧ Owns Rw rows_l6 [] ∧ sl_CompareFunc_Value_l6 n a0 a1 a2 m x13_l6 = some r) n ⟨0, ([]), Rw, ef hs, ef hs, hO, h⟩ ?_
    rintro m_l6 e st ⟨x13_l6, X_l6, rows_l6, rfl, rfl, hO, h⟩ KR_l6 hKR_l6
    cases m_l6 with
    | zero => cases h
    | succ m_l6 =>
    rw [sl_CompareFunc_Value_l6] at h
    refine awp_tidy hN hNR hNL rfl hcalm hO (by (simp +decide only [go_sem, Nat.reduceAdd]) <;> (try (repeat' apply And.intro)) <;> first | omega | assumption | exact hU_a2 _ _ _ (by omega) (by have := hO.len; omega) (by omega)) (by (simp +decide only [go_sem, Nat.reduceAdd, calmE]) <;> (try (repeat' apply And.intro)) <;> first | omega | assumption | exact hU_a2 _ _ _ (by omega) (by have := hO.len; omega) (by omega)) ?_
    refine rg [0, 1, 2, 11, 12, 13, 14] hs ?_
    apply awp_seq; intro K8 hK8
    refine cnd h hs (fun hs h => ?_) (fun hs h => ?_)
    rotate_left
    · skip
      have hb9 := hs.1
      refine sx [0, 1] hs hK4 ?_
      exact ⟨([]), rows_l6, ef hs, ef hs, hO, h⟩
    have hb9 := hs.1
    refine sk [0, 1, 2, 11, 12, 13] hs hK8 ?_
    clear hK8
    apply awp_seq; intro K10 hK10
    apply awp_block
    obtain ⟨x12, hx12, h⟩ := bind_some h
    obtain ⟨hx12a, hx12b, hx12c⟩ := idx_some hx12
    have hx12d := getD_map (f := avV) hx12c
    have hs := And.intro hx12d hs
    refine rg [0, 1, 2, 7, 8, 11, 12, 13] hs ?_
    apply awp_seq; intro K13 hK13
    refine rg [0, 1, 2, 7, 8, 11, 12, 13, 21] hs ?_
    refine cnd h hs (fun hs h => ?_) (fun hs h => ?_)
    · skip
      have hb15 := hs.1
      refine rg [6] hs ?_
      exact rt h hs hcalm hO
    have hb15 := hs.1
    refine sk [0, 1, 2, 7, 8, 11, 12, 13] hs hK13 ?_
    clear hK13
    obtain ⟨x18, hx18, h⟩ := bind_some h
    obtain ⟨hx18a, hx18b, hx18c⟩ := idx_some hx18
    have hx18d := getD_map (f := avV) hx18c
    have hs := And.intro hx18d hs
    refine rg [0, 1, 2, 8, 9, 11, 12, 13] hs ?_
    obtain ⟨y20, hy20, h⟩ := bind_some h
    refine rc 2 [0, 1, 2, 10, 11, 12, 13] hs ?_; intro K19 hK19
    refine callK_q _ (ha2 x12 x18 _ hy20 _ _ (by first | exact List.prefix_append _ _ | exact List.prefix_refl _) hO.pre) (hv hs) ?_
    refine ne hs hK19 ?_
    clear hK19
    refine rg [0, 1, 2, 10, 11, 12, 13, 31] hs ?_
    refine cnd h hs (fun hs h => ?_) (fun hs h => ?_)
    · skip
      have hb22 := hs.1
      refine rg [6] hs ?_
      exact rt h hs hcalm hO
    have hb22 := hs.1
    refine sk [0, 1, 2, 11, 12, 13] hs hK10 ?_
    clear hK10
    obtain ⟨hg24, h⟩ := guard_some h
    apply awp_region 1 [0, 1, 2, 11, 12, 13]
    rw [evK_succ]; simp +decide only [go_sem, Nat.reduceAdd, hb9, hx12d, hb15, hx18d, hb22]
    (repeat' apply And.intro) <;> first | refine hKR_l6 m_l6 _ _ (Nat.lt_succ_self m_l6) ⟨(x13_l6 + 1), ([x12.cs, x18.cs]), rows_l6, ef hs, ef hs, hO, h⟩ | exact cl
  · clear h; rintro e st ⟨X_k3, rows_k3, rfl, rfl, hO, h⟩
    rw [sl_CompareFunc_Value_k3] at h
    refine awp_tidy hN hNR hNL rfl hcalm hO (by (simp +decide only [go_sem, Nat.reduceAdd]) <;> (try (repeat' apply And.intro)) <;> first | omega | assumption | exact hU_a2 _ _ _ (by omega) (by have := hO.len; omega) (by omega)) (by (simp +decide only [go_sem, Nat.reduceAdd, calmE]) <;> (try (repeat' apply And.intro)) <;> first | omega | assumption | exact hU_a2 _ _ _ (by omega) (by have := hO.len; omega) (by omega)) ?_
    apply awp_seq; intro K25 hK25
    refine rg [38] hs ?_
    refine cnd h hs (fun hs h => ?_) (fun hs h => ?_)
    · skip
      refine rg [6] hs ?_
      exact rt h hs hcalm hO
    refine sk [] hs hK25 ?_
    clear hK25
    refine rg [6] hs ?_
    exact rt h hs hcalm hO
end Go.Proofs.YtggimoedcamonaaGreatDoor
namespace Go.Proofs.YtggimoedcamonaaGreatDoor
open Go Go.RowKit Go.Ev
set_option linter.unusedSimpArgs false
set_option linter.unusedVariables false
def v_Compare_1_F (rec : Vl → Vl → Option Int) (n : Nat) (a0 : ByteArray × Vl) (a1 : ByteArray × Vl) : Option Int :=
  (rec a0.2 a1.2).bind fun y3 =>
  (cmp_Or_int_F n ([cmpS a0.1 a1.1, y3])).bind fun y4 =>
  some (y4)
set_option maxRecDepth 100000 in
set_option maxHeartbeats 4000000 in
theorem v_Compare_1_at (w0 : World) (rec : Vl → Vl → Option Int) (ih : ∀ (B : List (List AV)) (Rw : List RowA) (L : List LoopA) (a0 : Vl) (a1 : Vl) (r : Int) (h : rec a0 a1 = some r), ACalls Tryz.prog w0 121 [.agg (a0.cs), .agg (a1.cs)] ⟨B, Rw, L⟩ fun x st => x = .val (.int .i64 r) ∧ st = ⟨B, Rw, L⟩) (n : Nat) (B : List (List AV)) (Rw : List RowA) (L : List LoopA) (a0 : ByteArray × Vl) (a1 : ByteArray × Vl) (r : Int) (h : v_Compare_1_F rec n a0 a1 = some r) :
    ACalls Tryz.prog w0 176 [.agg (.val (.string a0.1) :: (a0.2.cs)), .agg (.val (.string a1.1) :: (a1.2.cs))] ⟨B, Rw, L⟩ fun x st => x = .val (.int .i64 r) ∧ st = ⟨B, Rw, L⟩ := by
  rw [v_Compare_1_F] at h
  refine ACalls.finP (acalls_of (rs := [.tmp 4]) Tryz.func176 rfl rfl Tryz.ntmps176 (enters_some Tryz.func176 rfl (by decide)) (Nat.le_of_ble_eq_true rfl) ?_)
  intro M0 W0 hN hNR hNL hcalm hu
  dsimp only at hN hNR hNL hcalm hu
  simp only [argsE]
  have hO := Owns.none Rw
  have hs := fact0
  refine rg [2, 3] hs ?_
  apply awp_seq; intro K2 hK2
  obtain ⟨y3, hy3, h⟩ := bind_some h
  obtain ⟨y4, hy4, h⟩ := bind_some h
  apply awp_draw mix 13 4 1 [4] (by kernel_rfl)
  rw [evK_succ]; simp +decide only [go_sem, Nat.reduceAdd]
  (repeat' apply And.intro) <;> first | refine callK_p _ (sCompare_at2 w0 _ _ _ a0.1 a1.1) (hv hs) ?_ | exact cl
  rw [evK_succ]; simp +decide only [go_sem, Nat.reduceAdd]
  (repeat' apply And.intro) <;> first | refine callK_p _ (ih _ _ _ a0.2 a1.2 _ hy3) (hv hs) ?_ | exact cl
  rw [evK_succ]; simp +decide only [go_sem, Nat.reduceAdd]
  (repeat' apply And.intro) <;> first | refine callK_p _ (cmp_Or_int_at w0 n _ _ _ ([cmpS a0.1 a1.1, y3]) _ hy4) (hv hs) ?_ | exact cl
  rw [evK_succ]; simp +decide only [go_sem, Nat.reduceAdd]
  (repeat' with_reducible apply And.intro) <;> first | (rw [evK_succ]; simp +decide only [go_sem, Nat.reduceAdd]) | exact cl
  (repeat' apply And.intro) <;> first | refine hK2 _ _ ?_ | exact cl
  clear hK2
  exact rt h hs hcalm hO
end Go.Proofs.YtggimoedcamonaaGreatDoor
namespace Go.Proofs.YtggimoedcamonaaGreatDoor
open Go Go.RowKit Go.Ev
set_option linter.unusedSimpArgs false
set_option linter.unusedVariables false
def v_Compare_B (rec : Vl → Vl → Option Int) (n : Nat) (a0 : Vl) (a1 : Vl) : Option Int :=
  (sl_CompareFunc_Value_F n a0.list a1.list (fun (x0 : Vl) (x1 : Vl) => rec x0 x1)).bind fun y3 =>
  (sl_CompareFunc_Field_F n a0.fields a1.fields (fun (x0 : ByteArray × Vl) (x1 : ByteArray × Vl) => v_Compare_1_F rec n x0 x1)).bind fun y4 =>
  (cmp_Or_int_F n ([if a0.kind < a1.kind then -1 else if a0.kind = a1.kind then 0 else 1, if a0.int < a1.int then -1 else if a0.int = a1.int then 0 else 1, if a0.scale < a1.scale then -1 else if a0.scale = a1.scale then 0 else 1, cmpS a0.text a1.text, y3, y4])).bind fun y5 =>
  some (y5)
def v_Compare_F : Nat → Vl → Vl → Option Int
  | 0, _, _ => none
  | n + 1, a0, a1 => v_Compare_B (v_Compare_F n) n a0 a1
set_option maxRecDepth 100000 in
set_option maxHeartbeats 4000000 in
theorem v_Compare_step (w0 : World) (rec : Vl → Vl → Option Int) (ih : ∀ (B : List (List AV)) (Rw : List RowA) (L : List LoopA) (a0 : Vl) (a1 : Vl) (r : Int) (h : rec a0 a1 = some r), ACalls Tryz.prog w0 121 [.agg (a0.cs), .agg (a1.cs)] ⟨B, Rw, L⟩ fun x st => x = .val (.int .i64 r) ∧ st = ⟨B, Rw, L⟩) (n : Nat) (B : List (List AV)) (Rw : List RowA) (L : List LoopA) (a0 : Vl) (a1 : Vl) (r : Int) (h : v_Compare_B rec n a0 a1 = some r) :
    ACalls Tryz.prog w0 121 [.agg (a0.cs), .agg (a1.cs)] ⟨B, Rw, L⟩ fun x st => x = .val (.int .i64 r) ∧ st = ⟨B, Rw, L⟩ := by
  rw [v_Compare_B] at h
  refine ACalls.finP (acalls_of (rs := [.tmp 4]) Tryz.func121 rfl rfl Tryz.ntmps121 (enters_some Tryz.func121 rfl (by decide)) (Nat.le_of_ble_eq_true rfl) ?_)
  intro M0 W0 hN hNR hNL hcalm hu
  dsimp only at hN hNR hNL hcalm hu
  simp only [argsE]
  have hO := Owns.none Rw
  have hs := fact0
  refine rg [2, 3] hs ?_
  apply awp_seq; intro K2 hK2
  obtain ⟨y3, hy3, h⟩ := bind_some h
  obtain ⟨y4, hy4, h⟩ := bind_some h
  obtain ⟨y5, hy5, h⟩ := bind_some h
  apply awp_draw mix 33 8 1 [4] (by kernel_rfl)
  rw [evK_succ]; simp +decide only [go_sem, Nat.reduceAdd]
  (repeat' apply And.intro) <;> first | refine callK_p _ (Compare_at w0 _ _ _ a0.kind a1.kind) (hv hs) ?_ | exact cl
  rw [evK_succ]; simp +decide only [go_sem, Nat.reduceAdd]
  (repeat' apply And.intro) <;> first | refine callK_p _ (Compare_at w0 _ _ _ a0.int a1.int) (hv hs) ?_ | exact cl
  rw [evK_succ]; simp +decide only [go_sem, Nat.reduceAdd]
  (repeat' apply And.intro) <;> first | refine callK_p _ (Compare_at w0 _ _ _ a0.scale a1.scale) (hv hs) ?_ | exact cl
  rw [evK_succ]; simp +decide only [go_sem, Nat.reduceAdd]
  (repeat' apply And.intro) <;> first | refine callK_p _ (sCompare_at2 w0 _ _ _ a0.text a1.text) (hv hs) ?_ | exact cl
  rw [evK_succ]; simp +decide only [go_sem, Nat.reduceAdd]
  (repeat' apply And.intro) <;> first | refine callK_p _ (sl_CompareFunc_Value_at w0 n _ _ _ a0.list a1.list 121 [] (fun (x0 : Vl) (x1 : Vl) => rec x0 x1) (fun x0 x1 r hx B' rows' hB' hR' => by exact ih _ _ _ x0 x1 _ hx) _ hy3) (hv hs) ?_ | exact cl
  rw [evK_succ]; simp +decide only [go_sem, Nat.reduceAdd]
  (repeat' apply And.intro) <;> first | refine callK_p _ (sl_CompareFunc_Field_at w0 n _ _ _ a0.fields a1.fields 176 [] (fun (x0 : ByteArray × Vl) (x1 : ByteArray × Vl) => v_Compare_1_F rec n x0 x1) (fun x0 x1 r hx B' rows' hB' hR' => by exact v_Compare_1_at w0 rec ih n _ _ _ x0 x1 _ hx) _ hy4) (hv hs) ?_ | exact cl
  rw [evK_succ]; simp +decide only [go_sem, Nat.reduceAdd]
  (repeat' apply And.intro) <;> first | refine callK_p _ (cmp_Or_int_at w0 n _ _ _ ([if a0.kind < a1.kind then -1 else if a0.kind = a1.kind then 0 else 1, if a0.int < a1.int then -1 else if a0.int = a1.int then 0 else 1, if a0.scale < a1.scale then -1 else if a0.scale = a1.scale then 0 else 1, cmpS a0.text a1.text, y3, y4]) _ hy5) (hv hs) ?_ | exact cl
  rw [evK_succ]; simp +decide only [go_sem, Nat.reduceAdd]
  (repeat' with_reducible apply And.intro) <;> first | (rw [evK_succ]; simp +decide only [go_sem, Nat.reduceAdd]) | exact cl
  (repeat' apply And.intro) <;> first | refine hK2 _ _ ?_ | exact cl
  clear hK2
  exact rt h hs hcalm hO
theorem v_Compare_at (w0 : World) : ∀ (n : Nat) (B : List (List AV)) (Rw : List RowA) (L : List LoopA) (a0 : Vl) (a1 : Vl) (r : Int) (h : v_Compare_F n a0 a1 = some r), ACalls Tryz.prog w0 121 [.agg (a0.cs), .agg (a1.cs)] ⟨B, Rw, L⟩ fun x st => x = .val (.int .i64 r) ∧ st = ⟨B, Rw, L⟩
  | 0, _, _, _, _, _, _, h => (nomatch h)
  | n + 1, B, Rw, L, a0, a1, r, h => v_Compare_step w0 (v_Compare_F n) (v_Compare_at w0 n) n B Rw L a0 a1 r (by rw [v_Compare_F] at h; exact h)
end Go.Proofs.YtggimoedcamonaaGreatDoor
namespace Go.Proofs.YtggimoedcamonaaGreatDoor
open Go Go.RowKit Go.Ev
set_option linter.unusedSimpArgs false
set_option linter.unusedVariables false
def v_Equal_F (n : Nat) (a0 : Vl) (a1 : Vl) : Option Bool :=
  (v_Compare_F n a0 a1).bind fun y3 =>
  some (decide (y3 = 0))
set_option maxRecDepth 100000 in
set_option maxHeartbeats 4000000 in
theorem v_Equal_at (w0 : World) (n : Nat) (B : List (List AV)) (Rw : List RowA) (L : List LoopA) (a0 : Vl) (a1 : Vl) (r : Bool) (h : v_Equal_F n a0 a1 = some r) :
    ACalls Tryz.prog w0 87 [.agg (a0.cs), .agg (a1.cs)] ⟨B, Rw, L⟩ fun x st => x = .val (.bool r) ∧ st = ⟨B, Rw, L⟩ := by
  rw [v_Equal_F] at h
  refine ACalls.finP (acalls_of (rs := [.tmp 4]) Tryz.func87 rfl rfl Tryz.ntmps87 (enters_some Tryz.func87 rfl (by decide)) (Nat.le_of_ble_eq_true rfl) ?_)
  intro M0 W0 hN hNR hNL hcalm hu
  dsimp only at hN hNR hNL hcalm hu
  simp only [argsE]
  have hO := Owns.none Rw
  have hs := fact0
  refine rg [2, 3] hs ?_
  obtain ⟨y3, hy3, h⟩ := bind_some h
  refine rc 2 [4] hs ?_; intro K2 hK2
  refine callK_p _ (v_Compare_at w0 n _ _ _ a0 a1 _ hy3) (hv hs) ?_
  refine ne hs hK2 ?_
  clear hK2
  exact rt h hs hcalm hO
end Go.Proofs.YtggimoedcamonaaGreatDoor
namespace Go.Proofs.YtggimoedcamonaaGreatDoor
open Go Go.RowKit Go.Ev
set_option linter.unusedSimpArgs false
set_option linter.unusedVariables false
def s_Equal_1_F (rec : Ty → Ty → Option Bool) (n : Nat) (a0 : Int × ByteArray × Int × Ty × List Vl) (a1 : Int × ByteArray × Int × Ty × List Vl) : Option Bool :=
  if ((decide (a0.1 = a1.1)) && (sEq a0.2.1 a1.2.1)) && (decide (a0.2.2.1 = a1.2.2.1)) then
    (rec a0.2.2.2.1 a1.2.2.2.1).bind fun y4 =>
    if y4 then
      (sl_EqualFunc_Value_F n a0.2.2.2.2 a1.2.2.2.2 (fun (x0 : Vl) (x1 : Vl) => v_Equal_F n x0 x1)).bind fun y6 =>
      some (y6)
    else
      some (false)
  else
    some (false)
set_option maxRecDepth 100000 in
set_option maxHeartbeats 4000000 in
theorem s_Equal_1_at (w0 : World) (rec : Ty → Ty → Option Bool) (ih : ∀ (B : List (List AV)) (Rw : List RowA) (L : List LoopA) (a0 : Ty) (a1 : Ty) (r : Bool) (h : rec a0 a1 = some r), ACalls Tryz.prog w0 46 [.agg (a0.cs), .agg (a1.cs)] ⟨B, Rw, L⟩ fun x st => x = .val (.bool r) ∧ st = ⟨B, Rw, L⟩) (n : Nat) (B : List (List AV)) (Rw : List RowA) (L : List LoopA) (a0 : Int × ByteArray × Int × Ty × List Vl) (a1 : Int × ByteArray × Int × Ty × List Vl) (r : Bool) (h : s_Equal_1_F rec n a0 a1 = some r) :
    ACalls Tryz.prog w0 85 [.agg (.val (.int .i64 a0.1) :: (.val (.string a0.2.1) :: (.val (.int .i64 a0.2.2.1) :: ((a0.2.2.2.1.cs) ++ ([.list (a0.2.2.2.2.map avV) .none]))))), .agg (.val (.int .i64 a1.1) :: (.val (.string a1.2.1) :: (.val (.int .i64 a1.2.2.1) :: ((a1.2.2.2.1.cs) ++ ([.list (a1.2.2.2.2.map avV) .none])))))] ⟨B, Rw, L⟩ fun x st => x = .val (.bool r) ∧ st = ⟨B, Rw, L⟩ := by
  rw [s_Equal_1_F] at h
  refine ACalls.finP (acalls_of (rs := [.tmp 4]) Tryz.func85 rfl rfl Tryz.ntmps85 (enters_some Tryz.func85 rfl (by decide)) (Nat.le_of_ble_eq_true rfl) ?_)
  intro M0 W0 hN hNR hNL hcalm hu
  dsimp only at hN hNR hNL hcalm hu
  simp only [argsE]
  have hO := Owns.none Rw
  have hs := fact0
  refine rg [2, 3] hs ?_
  apply awp_seq; intro K2 hK2
  rcases Bool.eq_false_or_eq_true (((decide (a0.1 = a1.1)) && (sEq a0.2.1 a1.2.1)) && (decide (a0.2.2.1 = a1.2.2.1))) with hf3 | hf3
  · replace h := ite_tt h hf3
    obtain ⟨y4, hy4, h⟩ := bind_some h
    rcases Bool.eq_false_or_eq_true (y4) with hf5 | hf5
    · replace h := ite_tt h hf5
      obtain ⟨y6, hy6, h⟩ := bind_some h
      apply awp_region 3 [4]
      rw [evK_succ]; simp +decide only [go_sem, Nat.reduceAdd, hf3, hf5]
      have hs := And.intro hf3 hs
      have hs := And.intro hf5 hs
      (repeat' apply And.intro) <;> first | refine callK_p _ (ih _ _ _ a0.2.2.2.1 a1.2.2.2.1 _ hy4) (hv hs) ?_ | exact cl
      rw [evK_succ]; simp +decide only [go_sem, Nat.reduceAdd, hf3, hf5]
      (repeat' apply And.intro) <;> first | refine callK_p _ (sl_EqualFunc_Value_at w0 n _ _ _ a0.2.2.2.2 a1.2.2.2.2 87 [] (fun (x0 : Vl) (x1 : Vl) => v_Equal_F n x0 x1) (fun x0 x1 r hx B' rows' hB' hR' => by exact v_Equal_at w0 n _ _ _ x0 x1 _ hx) _ hy6) (hv hs) ?_ | exact cl
      rw [evK_succ]; simp +decide only [go_sem, Nat.reduceAdd, hf3, hf5]
      (repeat' apply And.intro) <;> first | refine hK2 _ _ ?_ | exact cl
      clear hK2
      exact rt h hs hcalm hO
    · replace h := ite_ff h hf5
      apply awp_region 3 [4]
      rw [evK_succ]; simp +decide only [go_sem, Nat.reduceAdd, hf3, hf5]
      have hs := And.intro hf3 hs
      have hs := And.intro hf5 hs
      (repeat' apply And.intro) <;> first | refine callK_p _ (ih _ _ _ a0.2.2.2.1 a1.2.2.2.1 _ hy4) (hv hs) ?_ | exact cl
      rw [evK_succ]; simp +decide only [go_sem, Nat.reduceAdd, hf3, hf5]
      (repeat' apply And.intro) <;> first | refine callK_skip ?_ | exact cl
      rw [evK_succ]; simp +decide only [go_sem, Nat.reduceAdd, hf3, hf5]
      (repeat' apply And.intro) <;> first | refine hK2 _ _ ?_ | exact cl
      clear hK2
      exact rt h hs hcalm hO
  · replace h := ite_ff h hf3
    apply awp_region 3 [4]
    rw [evK_succ]; simp +decide only [go_sem, Nat.reduceAdd, hf3]
    (repeat' apply And.intro) <;> first | refine callK_skip ?_ | exact cl
    rw [evK_succ]; simp +decide only [go_sem, Nat.reduceAdd, hf3]
    (repeat' apply And.intro) <;> first | refine callK_skip ?_ | exact cl
    rw [evK_succ]; simp +decide only [go_sem, Nat.reduceAdd, hf3]
    (repeat' apply And.intro) <;> first | refine hK2 _ _ ?_ | exact cl
    clear hK2
    have hs := And.intro hf3 hs
    exact rt h hs hcalm hO
end Go.Proofs.YtggimoedcamonaaGreatDoor
namespace Go.Proofs.YtggimoedcamonaaGreatDoor
open Go Go.RowKit Go.Ev
set_option linter.unusedSimpArgs false
set_option linter.unusedVariables false
def sl_EqualFunc_Type_k7 (n : Nat)  : Option Bool :=
  some (true)
def sl_EqualFunc_Type_l10 (n : Nat) (a0 : List Ty) (a1 : List Ty) (a2 : Ty → Ty → Option Bool) : Nat → Int → Option Bool
  | 0, _ => none
  | m + 1, x17_l10 =>
    if decide (x17_l10 < ((a0.length : Int))) then
      (idx a0 x17_l10).bind fun x16 =>
      (idx a1 x17_l10).bind fun x18 =>
      (a2 x16 x18).bind fun y20 =>
      if !y20 then
        some (false)
      else
        if I64 (x17_l10 + 1) then
          (sl_EqualFunc_Type_l10 n a0 a1 a2 m) (x17_l10 + 1)
        else none
    else
      sl_EqualFunc_Type_k7 n 
def sl_EqualFunc_Type_F (n : Nat) (a0 : List Ty) (a1 : List Ty) (a2 : Ty → Ty → Option Bool) : Option Bool :=
  if !(decide (((a0.length : Int)) = ((a1.length : Int)))) then
    some (false)
  else
    sl_EqualFunc_Type_l10 n a0 a1 a2 n 0
set_option maxRecDepth 100000 in
set_option maxHeartbeats 4000000 in
theorem sl_EqualFunc_Type_at (w0 : World) (n : Nat) (B : List (List AV)) (Rw : List RowA) (L : List LoopA) (a0 : List Ty) (a1 : List Ty) (fa2 : FuncId) (ca2 : List AV) (a2 : Ty → Ty → Option Bool) (ha2 : ∀ (x0 : Ty) (x1 : Ty) r, a2 x0 x1 = some r → ∀ B' rows, B <+: B' → Rw <+: rows → ACalls Tryz.prog w0 fa2 ([.agg (x0.cs), .agg (x1.cs)] ++ ca2) ⟨B', rows, L⟩ fun v s => v = .val (.bool r) ∧ s = ⟨B', rows, L⟩) (r : Bool) (h : sl_EqualFunc_Type_F n a0 a1 a2 = some r) :
    ACalls Tryz.prog w0 83 [.list (a0.map avT) .none, .list (a1.map avT) .none, .clo fa2 ca2] ⟨B, Rw, L⟩ fun x st => x = .val (.bool r) ∧ st = ⟨B, Rw, L⟩ := by
  rw [sl_EqualFunc_Type_F] at h
  refine ACalls.finP (acalls_of (rs := [.tmp 6]) Tryz.func83 rfl rfl Tryz.ntmps83 (enters_some Tryz.func83 rfl (by decide)) (Nat.le_of_ble_eq_true rfl) ?_)
  intro M0 W0 hN hNR hNL hcalm hu
  dsimp only at hN hNR hNL hcalm hu
  simp only [argsE]
  have hO := Owns.none Rw
  have hs := fact0
  have hU_a2 := under_caps (hu (.clo fa2 ca2) (by simp))
  refine rg [0, 1, 2] hs ?_
  apply awp_seq; intro K2 hK2
  refine rg [0, 1, 2, 14] hs ?_
  refine cnd h hs (fun hs h => ?_) (fun hs h => ?_)
  · skip
    have hb4 := hs.1
    refine rg [6] hs ?_
    exact rt h hs hcalm hO
  have hb4 := hs.1
  refine sk [0, 1, 2] hs hK2 ?_
  clear hK2
  refine awp_mid (fun e st => ∃ (X_k7 : List (List AV)) (rows_k7 : List RowA), e = [] ∧ st = ⟨B ++ ([] ++ X_k7), rows_k7, L⟩ ∧ Owns Rw rows_k7 [] ∧ sl_EqualFunc_Type_k7 n  = some r) ?_ ?_
  · intro K8 hK8
    refine rg [1, 2, 15, 16, 17] hs ?_
    apply awp_block
    refine awp_loop (fun m e st => ∃ (x17_l10 : Int) (X_l10 : List (List AV)) (rows_l10 : List RowA), e = [(1, true, .list (a1.map avT) .none), (2, true, .clo fa2 ca2), (15, true, .list (a0.map avT) .none), (16, true, .val (.int .i64 ((a0.length : Int)))), (17, true, .val (.int .i64 x17_l10))] ∧ st = ⟨B ++ ([] ++ X_l10), rows_l10, L⟩ ∧ Owns Rw rows_l10 [] ∧ sl_EqualFunc_Type_l10 n a0 a1 a2 m x17_l10 = some r) n ⟨0, ([]), Rw, ef hs, ef hs, hO, h⟩ ?_
    rintro m_l10 e st ⟨x17_l10, X_l10, rows_l10, rfl, rfl, hO, h⟩ KR_l10 hKR_l10
    cases m_l10 with
    | zero => cases h
    | succ m_l10 =>
    rw [sl_EqualFunc_Type_l10] at h
    refine awp_tidy hN hNR hNL rfl hcalm hO (by (simp +decide only [go_sem, Nat.reduceAdd]) <;> (try (repeat' apply And.intro)) <;> first | omega | assumption | exact hU_a2 _ _ _ (by omega) (by have := hO.len; omega) (by omega)) (by (simp +decide only [go_sem, Nat.reduceAdd, calmE]) <;> (try (repeat' apply And.intro)) <;> first | omega | assumption | exact hU_a2 _ _ _ (by omega) (by have := hO.len; omega) (by omega)) ?_
    refine rg [1, 2, 15, 16, 17, 18] hs ?_
    apply awp_seq; intro K12 hK12
    refine cnd h hs (fun hs h => ?_) (fun hs h => ?_)
    rotate_left
    · skip
      have hb13 := hs.1
      refine sx [] hs hK8 ?_
      exact ⟨([]), rows_l10, ef hs, ef hs, hO, h⟩
    have hb13 := hs.1
    refine sk [1, 2, 15, 16, 17] hs hK12 ?_
    clear hK12
    apply awp_seq; intro K14 hK14
    apply awp_block
    obtain ⟨x16, hx16, h⟩ := bind_some h
    obtain ⟨hx16a, hx16b, hx16c⟩ := idx_some hx16
    have hx16d := getD_map (f := avT) hx16c
    have hs := And.intro hx16d hs
    refine rg [1, 2, 7, 8, 15, 16, 17] hs ?_
    obtain ⟨x18, hx18, h⟩ := bind_some h
    obtain ⟨hx18a, hx18b, hx18c⟩ := idx_some hx18
    have hx18d := getD_map (f := avT) hx18c
    have hs := And.intro hx18d hs
    refine rg [1, 2, 8, 9, 15, 16, 17] hs ?_
    obtain ⟨y20, hy20, h⟩ := bind_some h
    refine rc 2 [1, 2, 15, 16, 17, 30] hs ?_; intro K19 hK19
    refine callK_q _ (ha2 x16 x18 _ hy20 _ _ (by first | exact List.prefix_append _ _ | exact List.prefix_refl _) hO.pre) (hv hs) ?_
    refine ne hs hK19 ?_
    clear hK19
    refine cnd h hs (fun hs h => ?_) (fun hs h => ?_)
    · skip
      have hb21 := hs.1
      refine rg [6] hs ?_
      exact rt h hs hcalm hO
    have hb21 := hs.1
    refine sk [1, 2, 15, 16, 17] hs hK14 ?_
    clear hK14
    obtain ⟨hg23, h⟩ := guard_some h
    apply awp_region 1 [1, 2, 15, 16, 17]
    rw [evK_succ]; simp +decide only [go_sem, Nat.reduceAdd, hb4, hb13, hx16d, hx18d, hb21]
    (repeat' apply And.intro) <;> first | refine hKR_l10 m_l10 _ _ (Nat.lt_succ_self m_l10) ⟨(x17_l10 + 1), ([x16.cs, x18.cs]), rows_l10, ef hs, ef hs, hO, h⟩ | exact cl
  · clear h; rintro e st ⟨X_k7, rows_k7, rfl, rfl, hO, h⟩
    rw [sl_EqualFunc_Type_k7] at h
    refine awp_tidy hN hNR hNL rfl hcalm hO (by (simp +decide only [go_sem, Nat.reduceAdd]) <;> (try (repeat' apply And.intro)) <;> first | omega | assumption | exact hU_a2 _ _ _ (by omega) (by have := hO.len; omega) (by omega)) (by (simp +decide only [go_sem, Nat.reduceAdd, calmE]) <;> (try (repeat' apply And.intro)) <;> first | omega | assumption | exact hU_a2 _ _ _ (by omega) (by have := hO.len; omega) (by omega)) ?_
    refine rg [6] hs ?_
    exact rt h hs hcalm hO
end Go.Proofs.YtggimoedcamonaaGreatDoor
