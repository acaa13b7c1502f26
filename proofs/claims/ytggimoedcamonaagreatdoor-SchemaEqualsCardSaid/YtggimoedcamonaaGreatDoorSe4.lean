/-
  Part 4 of the proof: rules and walks that the claim's last text uses.
-/
import Derived.Test.YtggimoedcamonaaGreatDoorSe3
namespace Go.Proofs.YtggimoedcamonaaGreatDoor
open Go Go.RowKit Go.Ev
set_option linter.unusedSimpArgs false
set_option linter.unusedVariables false
def v_index_F (n : Nat) (a0 : Vl) (a1 : ByteArray) : Option Int :=
  (sl_IndexFunc_Field_F n a0.fields (fun (x0 : ByteArray × Vl) => some (v_index_1_F x0 a1))).bind fun y3 =>
  some (y3)
set_option maxRecDepth 100000 in
set_option maxHeartbeats 4000000 in
theorem v_index_at (w0 : World) (n : Nat) (B : List (List AV)) (Rw : List RowA) (L : List LoopA) (a0 : Vl) (a1 : ByteArray) (r : Int) (h : v_index_F n a0 a1 = some r) :
    ACalls Tryz.prog w0 92 [.agg (a0.cs), .val (.string a1)] ⟨B, Rw, L⟩ fun x st => x = .val (.int .i64 r) ∧ st = ⟨B, Rw, L⟩ := by
  rw [v_index_F] at h
  refine ACalls.finP (acalls_of (rs := [.tmp 4]) Tryz.func92 rfl rfl Tryz.ntmps92 (enters_some Tryz.func92 rfl (by decide)) (Nat.le_of_ble_eq_true rfl) ?_)
  intro M0 W0 hN hNR hNL hcalm hu
  dsimp only at hN hNR hNL hcalm hu
  simp only [argsE]
  have hO := Owns.none Rw
  have hs := fact0
  refine rg [2, 3] hs ?_
  obtain ⟨y3, hy3, h⟩ := bind_some h
  refine rc 2 [4] hs ?_; intro K2 hK2
  refine callK_p _ (sl_IndexFunc_Field_at w0 n _ _ _ a0.fields 138 [.box (B.length + 1) 0] (fun (x0 : ByteArray × Vl) => some (v_index_1_F x0 a1)) (fun x0 r hx B' rows' hB' hR' => by cases hx; exact v_index_1_at' w0 _ _ _ x0 _ a1 (prefix_get hB' ev)) _ hy3) (hv hs) ?_
  refine ne hs hK2 ?_
  clear hK2
  exact rt h hs hcalm hO
end Go.Proofs.YtggimoedcamonaaGreatDoor
namespace Go.Proofs.YtggimoedcamonaaGreatDoor
open Go Go.RowKit Go.Ev
set_option linter.unusedSimpArgs false
set_option linter.unusedVariables false
def v_Field_F (n : Nat) (a0 : Vl) (a1 : ByteArray) : Option (Vl × Bool) :=
  (v_index_F n a0 a1).bind fun y3 =>
  if (!(decide (a0.kind = 9))) || (decide (y3 < 0)) then
    some ((Vl.mk 0 0 0 ((⟨#[]⟩ : ByteArray)) ([]) ([]), false))
  else
    (idx a0.fields y3).bind fun x9 =>
    (v_Clone_F n x9.2).bind fun y10 =>
    some ((y10, true))
set_option maxRecDepth 100000 in
set_option maxHeartbeats 4000000 in
theorem v_Field_at (w0 : World) (n : Nat) (B : List (List AV)) (Rw : List RowA) (L : List LoopA) (a0 : Vl) (a1 : ByteArray) (r : Vl × Bool) (h : v_Field_F n a0 a1 = some r) :
    ACalls Tryz.prog w0 156 [.agg (a0.cs), .val (.string a1)] ⟨B, Rw, L⟩ fun x st => x = .tup [.agg (r.1.cs), .val (.bool r.2)] ∧ st = ⟨B, Rw, L⟩ := by
  rw [v_Field_F] at h
  refine ACalls.finP (acalls_of (rs := [.cell 4 34, .tmp 5]) Tryz.func156 rfl rfl Tryz.ntmps156 (enters_some Tryz.func156 rfl (by decide)) (Nat.le_of_ble_eq_true rfl) ?_)
  intro M0 W0 hN hNR hNL hcalm hu
  dsimp only at hN hNR hNL hcalm hu
  simp only [argsE]
  have hO := Owns.none Rw
  have hs := fact0
  refine rg [1, 2, 4] hs ?_
  obtain ⟨y3, hy3, h⟩ := bind_some h
  refine rc 2 [2, 4, 6] hs ?_; intro K2 hK2
  refine callK_p _ (v_index_at w0 n _ _ _ a0 a1 _ hy3) (hv hs) ?_
  refine ne hs hK2 ?_
  clear hK2
  apply awp_seq; intro K4 hK4
  refine rg [2, 4, 6, 16] hs ?_
  refine cnd h hs (fun hs h => ?_) (fun hs h => ?_)
  · skip
    have hb6 := hs.1
    apply awp_seq; intro K7 hK7
    apply awp_region 1 [4, 5]
    rw [evK_succ]; simp +decide only [go_sem, Nat.reduceAdd, hb6, fillA, fillOk, placeT]
    (repeat' apply And.intro) <;> first | refine hK7 _ _ ?_ | exact cl
    clear hK7
    exact rt h hs hcalm hO
  have hb6 := hs.1
  refine sk [2, 4, 6] hs hK4 ?_
  clear hK4
  obtain ⟨x9, hx9, h⟩ := bind_some h
  obtain ⟨hx9a, hx9b, hx9c⟩ := idx_some hx9
  have hx9d := getD_map (f := avF) hx9c
  obtain ⟨y10, hy10, h⟩ := bind_some h
  have hs := And.intro hx9d hs
  refine rc 2 [4, 5] hs ?_; intro K8 hK8
  refine callK_p _ (v_Clone_at w0 n _ _ _ x9.2 _ hy10) (hv hs) ?_
  refine ne hs hK8 ?_
  clear hK8
  exact rt h hs hcalm hO
end Go.Proofs.YtggimoedcamonaaGreatDoor
namespace Go.Proofs.YtggimoedcamonaaGreatDoor
open Go Go.RowKit Go.Ev
set_option linter.unusedSimpArgs false
set_option linter.unusedVariables false
def s_has_2_F (n : Nat) (a0 : Int × ByteArray × Int × Ty × List Vl) (a1 : Vl) : Option Bool :=
  (v_Field_F n a1 a0.2.1).bind fun y3 =>
  some ((!y3.2) && (!(decide (a0.2.2.1 = 2))))
set_option maxRecDepth 100000 in
set_option maxHeartbeats 4000000 in
theorem s_has_2_at (w0 : World) (n : Nat) (B : List (List AV)) (Rw : List RowA) (L : List LoopA) (a0 : Int × ByteArray × Int × Ty × List Vl) (la1 : Nat) (a1 : Vl) (hla1 : B[la1]? = some (a1.cs)) (r : Bool) (h : s_has_2_F n a0 a1 = some r) :
    ACalls Tryz.prog w0 155 [.agg (.val (.int .i64 a0.1) :: (.val (.string a0.2.1) :: (.val (.int .i64 a0.2.2.1) :: ((a0.2.2.2.1.cs) ++ ([.list (a0.2.2.2.2.map avV) .none]))))), .box la1 0] ⟨B, Rw, L⟩ fun x st => x = .val (.bool r) ∧ st = ⟨B, Rw, L⟩ := by
  rw [s_has_2_F] at h
  refine ACalls.finP (acalls_of (rs := [.tmp 3]) Tryz.func155 rfl rfl Tryz.ntmps155 (enters_some Tryz.func155 rfl (by decide)) (Nat.le_of_ble_eq_true rfl) ?_)
  intro M0 W0 hN hNR hNL hcalm hu
  dsimp only at hN hNR hNL hcalm hu
  simp only [argsE]
  have hO := Owns.none Rw
  have hs := fact0
  have hltla1 := (List.getElem?_eq_some_iff.1 hla1).1
  have hs := And.intro (ptr_of hla1) hs
  refine rg [1, 2] hs ?_
  obtain ⟨y3, hy3, h⟩ := bind_some h
  refine rc 2 [2, 5] hs ?_; intro K2 hK2
  refine callK_p _ (v_Field_at w0 n _ _ _ a1 a0.2.1 _ hy3) (hv hs) ?_
  refine ne hs hK2 ?_
  clear hK2
  refine rg [3] hs ?_
  exact rt h hs hcalm hO
end Go.Proofs.YtggimoedcamonaaGreatDoor
namespace Go.Proofs.YtggimoedcamonaaGreatDoor
open Go Go.RowKit Go.Ev
set_option linter.unusedSimpArgs false
set_option linter.unusedVariables false
def sl_ContainsFunc_TypeField_F (n : Nat) (a0 : List (Int × ByteArray × Int × Ty × List Vl)) (a1 : (Int × ByteArray × Int × Ty × List Vl) → Option Bool) : Option Bool :=
  (sl_IndexFunc_TypeField_F n a0 a1).bind fun y3 =>
  some (decide (0 ≤ y3))
set_option maxRecDepth 100000 in
set_option maxHeartbeats 4000000 in
theorem sl_ContainsFunc_TypeField_at (w0 : World) (n : Nat) (B : List (List AV)) (Rw : List RowA) (L : List LoopA) (a0 : List (Int × ByteArray × Int × Ty × List Vl)) (fa1 : FuncId) (ca1 : List AV) (a1 : (Int × ByteArray × Int × Ty × List Vl) → Option Bool) (ha1 : ∀ (x0 : Int × ByteArray × Int × Ty × List Vl) r, a1 x0 = some r → ∀ B' rows, B <+: B' → Rw <+: rows → ACalls Tryz.prog w0 fa1 ([.agg (.val (.int .i64 x0.1) :: (.val (.string x0.2.1) :: (.val (.int .i64 x0.2.2.1) :: ((x0.2.2.2.1.cs) ++ ([.list (x0.2.2.2.2.map avV) .none])))))] ++ ca1) ⟨B', rows, L⟩ fun v s => v = .val (.bool r) ∧ s = ⟨B', rows, L⟩) (r : Bool) (h : sl_ContainsFunc_TypeField_F n a0 a1 = some r) :
    ACalls Tryz.prog w0 154 [.list (a0.map avTF) .none, .clo fa1 ca1] ⟨B, Rw, L⟩ fun x st => x = .val (.bool r) ∧ st = ⟨B, Rw, L⟩ := by
  rw [sl_ContainsFunc_TypeField_F] at h
  refine ACalls.finP (acalls_of (rs := [.tmp 4]) Tryz.func154 rfl rfl Tryz.ntmps154 (enters_some Tryz.func154 rfl (by decide)) (Nat.le_of_ble_eq_true rfl) ?_)
  intro M0 W0 hN hNR hNL hcalm hu
  dsimp only at hN hNR hNL hcalm hu
  simp only [argsE]
  have hO := Owns.none Rw
  have hs := fact0
  have hU_a1 := under_caps (hu (.clo fa1 ca1) (by simp))
  refine rg [0, 1] hs ?_
  obtain ⟨y3, hy3, h⟩ := bind_some h
  refine rc 2 [4] hs ?_; intro K2 hK2
  refine callK_p _ (sl_IndexFunc_TypeField_at w0 n _ _ _ a0 fa1 ca1 a1 (fun x0 r hx B'' rows'' q1 q2 => ha1 x0 r hx B'' rows'' (List.IsPrefix.trans (by first | exact List.prefix_append _ _ | exact List.prefix_refl _) q1) (hO.pre.trans q2)) _ hy3) (hv hs) ?_
  refine ne hs hK2 ?_
  clear hK2
  exact rt h hs hcalm hO
end Go.Proofs.YtggimoedcamonaaGreatDoor
namespace Go.Proofs.YtggimoedcamonaaGreatDoor
open Go Go.RowKit Go.Ev
set_option linter.unusedSimpArgs false
set_option linter.unusedVariables false
def sl_IndexFunc_Value_k3 (n : Nat)  : Option Int :=
  some ((-1))
def sl_IndexFunc_Value_l6 (n : Nat) (a0 : List Vl) (a1 : Vl → Option Bool) : Nat → Int → Option Int
  | 0, _ => none
  | m + 1, x8_l6 =>
    if decide (x8_l6 < ((a0.length : Int))) then
      (idx a0 x8_l6).bind fun x13 =>
      (a1 x13).bind fun y14 =>
      if y14 then
        some (x8_l6)
      else
        if I64 (x8_l6 + 1) then
          (sl_IndexFunc_Value_l6 n a0 a1 m) (x8_l6 + 1)
        else none
    else
      sl_IndexFunc_Value_k3 n 
def sl_IndexFunc_Value_F (n : Nat) (a0 : List Vl) (a1 : Vl → Option Bool) : Option Int :=
  sl_IndexFunc_Value_l6 n a0 a1 n 0
set_option maxRecDepth 100000 in
set_option maxHeartbeats 4000000 in
theorem sl_IndexFunc_Value_at (w0 : World) (n : Nat) (B : List (List AV)) (Rw : List RowA) (L : List LoopA) (a0 : List Vl) (fa1 : FuncId) (ca1 : List AV) (a1 : Vl → Option Bool) (ha1 : ∀ (x0 : Vl) r, a1 x0 = some r → ∀ B' rows, B <+: B' → Rw <+: rows → ACalls Tryz.prog w0 fa1 ([.agg (x0.cs)] ++ ca1) ⟨B', rows, L⟩ fun v s => v = .val (.bool r) ∧ s = ⟨B', rows, L⟩) (r : Int) (h : sl_IndexFunc_Value_F n a0 a1 = some r) :
    ACalls Tryz.prog w0 182 [.list (a0.map avV) .none, .clo fa1 ca1] ⟨B, Rw, L⟩ fun x st => x = .val (.int .i64 r) ∧ st = ⟨B, Rw, L⟩ := by
  rw [sl_IndexFunc_Value_F] at h
  refine ACalls.finP (acalls_of (rs := [.tmp 4]) Tryz.func182 rfl rfl Tryz.ntmps182 (enters_some Tryz.func182 rfl (by decide)) (Nat.le_of_ble_eq_true rfl) ?_)
  intro M0 W0 hN hNR hNL hcalm hu
  dsimp only at hN hNR hNL hcalm hu
  simp only [argsE]
  have hO := Owns.none Rw
  have hs := fact0
  have hU_a1 := under_caps (hu (.clo fa1 ca1) (by simp))
  refine rg [0, 1] hs ?_
  refine awp_mid (fun e st => ∃ (X_k3 : List (List AV)) (rows_k3 : List RowA), e = [] ∧ st = ⟨B ++ ([] ++ X_k3), rows_k3, L⟩ ∧ Owns Rw rows_k3 [] ∧ sl_IndexFunc_Value_k3 n  = some r) ?_ ?_
  · intro K4 hK4
    refine rg [0, 1, 7, 8] hs ?_
    apply awp_block
    refine awp_loop (fun m e st => ∃ (x8_l6 : Int) (X_l6 : List (List AV)) (rows_l6 : List RowA), e = [(0, true, .list (a0.map avV) .none), (1, true, .clo fa1 ca1), (7, true, .val (.int .i64 ((a0.length : Int)))), (8, true, .val (.int .i64 x8_l6))] ∧ st = ⟨B ++ ([] ++ X_l6), rows_l6, L⟩ ∧ Owns Rw rows_l6 [] ∧ sl_IndexFunc_Value_l6 n a0 a1 m x8_l6 = some r) n ⟨0, ([]), Rw, ef hs, ef hs, hO, h⟩ ?_
    rintro m_l6 e st ⟨x8_l6, X_l6, rows_l6, rfl, rfl, hO, h⟩ KR_l6 hKR_l6
    cases m_l6 with
    | zero => cases h
    | succ m_l6 =>
    rw [sl_IndexFunc_Value_l6] at h
    refine awp_tidy hN hNR hNL rfl hcalm hO (by (simp +decide only [go_sem, Nat.reduceAdd]) <;> (try (repeat' apply And.intro)) <;> first | omega | assumption | exact hU_a1 _ _ _ (by omega) (by have := hO.len; omega) (by omega)) (by (simp +decide only [go_sem, Nat.reduceAdd, calmE]) <;> (try (repeat' apply And.intro)) <;> first | omega | assumption | exact hU_a1 _ _ _ (by omega) (by have := hO.len; omega) (by omega)) ?_
    refine rg [0, 1, 7, 8, 9] hs ?_
    apply awp_seq; intro K8 hK8
    refine cnd h hs (fun hs h => ?_) (fun hs h => ?_)
    rotate_left
    · skip
      have hb9 := hs.1
      refine sx [] hs hK4 ?_
      exact ⟨([]), rows_l6, ef hs, ef hs, hO, h⟩
    have hb9 := hs.1
    refine sk [0, 1, 7, 8] hs hK8 ?_
    clear hK8
    apply awp_seq; intro K10 hK10
    apply awp_block
    refine rg [0, 1, 5, 7, 8] hs ?_
    obtain ⟨x13, hx13, h⟩ := bind_some h
    obtain ⟨hx13a, hx13b, hx13c⟩ := idx_some hx13
    have hx13d := getD_map (f := avV) hx13c
    obtain ⟨y14, hy14, h⟩ := bind_some h
    have hs := And.intro hx13d hs
    refine rc 2 [0, 1, 5, 7, 8, 16] hs ?_; intro K12 hK12
    refine callK_q _ (ha1 x13 _ hy14 _ _ (by first | exact List.prefix_append _ _ | exact List.prefix_refl _) hO.pre) (hv hs) ?_
    refine ne hs hK12 ?_
    clear hK12
    refine cnd h hs (fun hs h => ?_) (fun hs h => ?_)
    · skip
      have hb15 := hs.1
      refine rg [4] hs ?_
      exact rt h hs hcalm hO
    have hb15 := hs.1
    refine sk [0, 1, 7, 8] hs hK10 ?_
    clear hK10
    obtain ⟨hg17, h⟩ := guard_some h
    apply awp_region 1 [0, 1, 7, 8]
    rw [evK_succ]; simp +decide only [go_sem, Nat.reduceAdd, hb9, hx13d, hb15]
    (repeat' apply And.intro) <;> first | refine hKR_l6 m_l6 _ _ (Nat.lt_succ_self m_l6) ⟨(x8_l6 + 1), ([]), rows_l6, ef hs, ef hs, hO, h⟩ | exact cl
  · clear h; rintro e st ⟨X_k3, rows_k3, rfl, rfl, hO, h⟩
    rw [sl_IndexFunc_Value_k3] at h
    refine awp_tidy hN hNR hNL rfl hcalm hO (by (simp +decide only [go_sem, Nat.reduceAdd]) <;> (try (repeat' apply And.intro)) <;> first | omega | assumption | exact hU_a1 _ _ _ (by omega) (by have := hO.len; omega) (by omega)) (by (simp +decide only [go_sem, Nat.reduceAdd, calmE]) <;> (try (repeat' apply And.intro)) <;> first | omega | assumption | exact hU_a1 _ _ _ (by omega) (by have := hO.len; omega) (by omega)) ?_
    refine rg [4] hs ?_
    exact rt h hs hcalm hO
end Go.Proofs.YtggimoedcamonaaGreatDoor
namespace Go.Proofs.YtggimoedcamonaaGreatDoor
open Go Go.RowKit Go.Ev
set_option linter.unusedSimpArgs false
set_option linter.unusedVariables false
def sl_ContainsFunc_Value_F (n : Nat) (a0 : List Vl) (a1 : Vl → Option Bool) : Option Bool :=
  (sl_IndexFunc_Value_F n a0 a1).bind fun y3 =>
  some (decide (0 ≤ y3))
set_option maxRecDepth 100000 in
set_option maxHeartbeats 4000000 in
theorem sl_ContainsFunc_Value_at (w0 : World) (n : Nat) (B : List (List AV)) (Rw : List RowA) (L : List LoopA) (a0 : List Vl) (fa1 : FuncId) (ca1 : List AV) (a1 : Vl → Option Bool) (ha1 : ∀ (x0 : Vl) r, a1 x0 = some r → ∀ B' rows, B <+: B' → Rw <+: rows → ACalls Tryz.prog w0 fa1 ([.agg (x0.cs)] ++ ca1) ⟨B', rows, L⟩ fun v s => v = .val (.bool r) ∧ s = ⟨B', rows, L⟩) (r : Bool) (h : sl_ContainsFunc_Value_F n a0 a1 = some r) :
    ACalls Tryz.prog w0 152 [.list (a0.map avV) .none, .clo fa1 ca1] ⟨B, Rw, L⟩ fun x st => x = .val (.bool r) ∧ st = ⟨B, Rw, L⟩ := by
  rw [sl_ContainsFunc_Value_F] at h
  refine ACalls.finP (acalls_of (rs := [.tmp 4]) Tryz.func152 rfl rfl Tryz.ntmps152 (enters_some Tryz.func152 rfl (by decide)) (Nat.le_of_ble_eq_true rfl) ?_)
  intro M0 W0 hN hNR hNL hcalm hu
  dsimp only at hN hNR hNL hcalm hu
  simp only [argsE]
  have hO := Owns.none Rw
  have hs := fact0
  have hU_a1 := under_caps (hu (.clo fa1 ca1) (by simp))
  refine rg [0, 1] hs ?_
  obtain ⟨y3, hy3, h⟩ := bind_some h
  refine rc 2 [4] hs ?_; intro K2 hK2
  refine callK_p _ (sl_IndexFunc_Value_at w0 n _ _ _ a0 fa1 ca1 a1 (fun x0 r hx B'' rows'' q1 q2 => ha1 x0 r hx B'' rows'' (List.IsPrefix.trans (by first | exact List.prefix_append _ _ | exact List.prefix_refl _) q1) (hO.pre.trans q2)) _ hy3) (hv hs) ?_
  refine ne hs hK2 ?_
  clear hK2
  exact rt h hs hcalm hO
end Go.Proofs.YtggimoedcamonaaGreatDoor
namespace Go.Proofs.YtggimoedcamonaaGreatDoor
open Go Go.RowKit Go.Ev
set_option linter.unusedSimpArgs false
set_option linter.unusedVariables false
def sl_Index_string_k3 (n : Nat)  : Option Int :=
  some ((-1))
def sl_Index_string_l6 (n : Nat) (a0 : List ByteArray) (a1 : ByteArray) : Nat → Int → Option Int
  | 0, _ => none
  | m + 1, x8_l6 =>
    if decide (x8_l6 < ((a0.length : Int))) then
      (idx a0 x8_l6).bind fun x13 =>
      if sEq a1 x13 then
        some (x8_l6)
      else
        if I64 (x8_l6 + 1) then
          (sl_Index_string_l6 n a0 a1 m) (x8_l6 + 1)
        else none
    else
      sl_Index_string_k3 n 
def sl_Index_string_F (n : Nat) (a0 : List ByteArray) (a1 : ByteArray) : Option Int :=
  sl_Index_string_l6 n a0 a1 n 0
set_option maxRecDepth 100000 in
set_option maxHeartbeats 4000000 in
theorem sl_Index_string_at (w0 : World) (n : Nat) (B : List (List AV)) (Rw : List RowA) (L : List LoopA) (a0 : List ByteArray) (a1 : ByteArray) (r : Int) (h : sl_Index_string_F n a0 a1 = some r) :
    ACalls Tryz.prog w0 181 [.list (a0.map avS) .none, .val (.string a1)] ⟨B, Rw, L⟩ fun x st => x = .val (.int .i64 r) ∧ st = ⟨B, Rw, L⟩ := by
  rw [sl_Index_string_F] at h
  refine ACalls.finP (acalls_of (rs := [.tmp 4]) Tryz.func181 rfl rfl Tryz.ntmps181 (enters_some Tryz.func181 rfl (by decide)) (Nat.le_of_ble_eq_true rfl) ?_)
  intro M0 W0 hN hNR hNL hcalm hu
  dsimp only at hN hNR hNL hcalm hu
  simp only [argsE]
  have hO := Owns.none Rw
  have hs := fact0
  refine rg [0, 1] hs ?_
  refine awp_mid (fun e st => ∃ (X_k3 : List (List AV)) (rows_k3 : List RowA), e = [] ∧ st = ⟨B ++ ([] ++ X_k3), rows_k3, L⟩ ∧ Owns Rw rows_k3 [] ∧ sl_Index_string_k3 n  = some r) ?_ ?_
  · intro K4 hK4
    refine rg [0, 1, 7, 8] hs ?_
    apply awp_block
    refine awp_loop (fun m e st => ∃ (x8_l6 : Int) (X_l6 : List (List AV)) (rows_l6 : List RowA), e = [(0, true, .list (a0.map avS) .none), (1, true, .val (.string a1)), (7, true, .val (.int .i64 ((a0.length : Int)))), (8, true, .val (.int .i64 x8_l6))] ∧ st = ⟨B ++ ([] ++ X_l6), rows_l6, L⟩ ∧ Owns Rw rows_l6 [] ∧ sl_Index_string_l6 n a0 a1 m x8_l6 = some r) n ⟨0, ([]), Rw, ef hs, ef hs, hO, h⟩ ?_
    rintro m_l6 e st ⟨x8_l6, X_l6, rows_l6, rfl, rfl, hO, h⟩ KR_l6 hKR_l6
    cases m_l6 with
    | zero => cases h
    | succ m_l6 =>
    rw [sl_Index_string_l6] at h
    refine td hN hNR hNL hcalm hO ?_
    refine rg [0, 1, 7, 8, 9] hs ?_
    apply awp_seq; intro K8 hK8
    refine cnd h hs (fun hs h => ?_) (fun hs h => ?_)
    rotate_left
    · skip
      have hb9 := hs.1
      refine sx [] hs hK4 ?_
      exact ⟨([]), rows_l6, ef hs, ef hs, hO, h⟩
    have hb9 := hs.1
    refine sk [0, 1, 7, 8] hs hK8 ?_
    clear hK8
    apply awp_seq; intro K10 hK10
    apply awp_block
    refine rg [0, 1, 5, 7, 8] hs ?_
    obtain ⟨x13, hx13, h⟩ := bind_some h
    obtain ⟨hx13a, hx13b, hx13c⟩ := idx_some hx13
    have hx13d := getD_map (f := avS) hx13c
    have hs := And.intro hx13d hs
    refine rg [0, 1, 5, 7, 8, 16] hs ?_
    refine cnd h hs (fun hs h => ?_) (fun hs h => ?_)
    · skip
      have hb14 := hs.1
      refine rg [4] hs ?_
      exact rt h hs hcalm hO
    have hb14 := hs.1
    refine sk [0, 1, 7, 8] hs hK10 ?_
    clear hK10
    obtain ⟨hg16, h⟩ := guard_some h
    apply awp_region 1 [0, 1, 7, 8]
    rw [evK_succ]; simp +decide only [go_sem, Nat.reduceAdd, hb9, hx13d, hb14]
    (repeat' apply And.intro) <;> first | refine hKR_l6 m_l6 _ _ (Nat.lt_succ_self m_l6) ⟨(x8_l6 + 1), ([]), rows_l6, ef hs, ef hs, hO, h⟩ | exact cl
  · clear h; rintro e st ⟨X_k3, rows_k3, rfl, rfl, hO, h⟩
    rw [sl_Index_string_k3] at h
    refine td hN hNR hNL hcalm hO ?_
    refine rg [4] hs ?_
    exact rt h hs hcalm hO
end Go.Proofs.YtggimoedcamonaaGreatDoor
namespace Go.Proofs.YtggimoedcamonaaGreatDoor
open Go Go.RowKit Go.Ev
set_option linter.unusedSimpArgs false
set_option linter.unusedVariables false
def sl_Contains_string_F (n : Nat) (a0 : List ByteArray) (a1 : ByteArray) : Option Bool :=
  (sl_Index_string_F n a0 a1).bind fun y3 =>
  some (decide (0 ≤ y3))
set_option maxRecDepth 100000 in
set_option maxHeartbeats 4000000 in
theorem sl_Contains_string_at (w0 : World) (n : Nat) (B : List (List AV)) (Rw : List RowA) (L : List LoopA) (a0 : List ByteArray) (a1 : ByteArray) (r : Bool) (h : sl_Contains_string_F n a0 a1 = some r) :
    ACalls Tryz.prog w0 151 [.list (a0.map avS) .none, .val (.string a1)] ⟨B, Rw, L⟩ fun x st => x = .val (.bool r) ∧ st = ⟨B, Rw, L⟩ := by
  rw [sl_Contains_string_F] at h
  refine ACalls.finP (acalls_of (rs := [.tmp 4]) Tryz.func151 rfl rfl Tryz.ntmps151 (enters_some Tryz.func151 rfl (by decide)) (Nat.le_of_ble_eq_true rfl) ?_)
  intro M0 W0 hN hNR hNL hcalm hu
  dsimp only at hN hNR hNL hcalm hu
  simp only [argsE]
  have hO := Owns.none Rw
  have hs := fact0
  refine rg [0, 1] hs ?_
  obtain ⟨y3, hy3, h⟩ := bind_some h
  refine rc 2 [4] hs ?_; intro K2 hK2
  refine callK_p _ (sl_Index_string_at w0 n _ _ _ a0 a1 _ hy3) (hv hs) ?_
  refine ne hs hK2 ?_
  clear hK2
  exact rt h hs hcalm hO
end Go.Proofs.YtggimoedcamonaaGreatDoor
namespace Go.Proofs.YtggimoedcamonaaGreatDoor
open Go Go.RowKit Go.Ev
set_option linter.unusedSimpArgs false
set_option linter.unusedVariables false
def s_has_k48 (rec : Ty → Vl → Option Bool) (n : Nat) (a0 : Ty) (a1 : Vl) : Option Bool :=
  (sl_ContainsFunc_TypeField_F n a0.fields (fun (x0 : Int × ByteArray × Int × Ty × List Vl) => s_has_2_F n x0 a1)).bind fun y69 =>
  some (!y69)
def s_has_k7 (rec : Ty → Vl → Option Bool) (n : Nat)  : Option Bool :=
  some (true)
def s_has_l51 (rec : Ty → Vl → Option Bool) (n : Nat) (a0 : Ty) (a1 : Vl) : Nat → Int → Option Bool
  | 0, _ => none
  | m + 1, x107_l51 =>
    if decide (x107_l51 < ((a1.fields.length : Int))) then
      (idx a1.fields x107_l51).bind fun x57 =>
      (s_Field_F n a0 x57.1).bind fun y59 =>
      if !y59.2 then
        some (false)
      else
        (rec y59.1.2.2.2.1 x57.2).bind fun y64 =>
        if !y64 then
          some (false)
        else
          if I64 (x107_l51 + 1) then
            (s_has_l51 rec n a0 a1 m) (x107_l51 + 1)
          else none
    else
      s_has_k48 rec n a0 a1 
def s_has_k11 (rec : Ty → Vl → Option Bool) (n : Nat) (a0 : Ty) (a1 : Vl) (x18_k11 : Bool) : Option Bool :=
  if x18_k11 then
    some ((decide (a0.min ≤ a1.int) && decide (a1.int ≤ a0.max)) && (decide (a1.scale = a0.scale)))
  else
    if decide (a0.kind = 4) then
      if decide (0 < ((a0.words.length : Int))) then
        (sl_Contains_string_F n a0.words a1.text).bind fun y27 =>
        some (y27)
      else
        some (decide (a0.min ≤ ((a1.text.size : Int))) && decide (((a1.text.size : Int)) ≤ a0.max))
    else
      if decide (a0.kind = 5) then
        some (decide (a0.min ≤ ((a1.text.size : Int))) && decide (((a1.text.size : Int)) ≤ a0.max))
      else
        if decide (a0.kind = 8) then
          if decide (a0.min ≤ ((a1.list.length : Int))) && decide (((a1.list.length : Int)) ≤ a0.max) then
            (sl_ContainsFunc_Value_F n a1.list (fun (x0 : Vl) => s_has_1_F rec x0 a0)).bind fun y36 =>
            some (!y36)
          else
            some (false)
        else
          if decide (a0.kind = 10) then
            (s_Field_F n a0 a1.text).bind fun y40 =>
            if y40.2 then
              (idx a1.list 0).bind fun x43 =>
              (rec y40.1.2.2.2.1 x43).bind fun y44 =>
              some (y44)
            else
              some (false)
          else
            if decide (a0.kind = 9) then
              s_has_l51 rec n a0 a1 n 0
            else
              s_has_k7 rec n 
def s_has_B (rec : Ty → Vl → Option Bool) (n : Nat) (a0 : Ty) (a1 : Vl) : Option Bool :=
  if !(decide (a1.kind = a0.kind)) then
    some (false)
  else
    if decide (a0.kind = 2) then
      s_has_k11 rec n a0 a1 true
    else
      if decide (a0.kind = 6) then
        s_has_k11 rec n a0 a1 true
      else
        if decide (a0.kind = 7) then
          s_has_k11 rec n a0 a1 true
        else
          s_has_k11 rec n a0 a1 (decide (a0.kind = 3))
def s_has_F : Nat → Ty → Vl → Option Bool
  | 0, _, _ => none
  | n + 1, a0, a1 => s_has_B (s_has_F n) n a0 a1
set_option maxRecDepth 100000 in
set_option maxHeartbeats 4000000 in
theorem s_has_step (w0 : World) (rec : Ty → Vl → Option Bool) (ih : ∀ (B : List (List AV)) (Rw : List RowA) (L : List LoopA) (a0 : Ty) (a1 : Vl) (r : Bool) (h : rec a0 a1 = some r), ACalls Tryz.prog w0 101 [.agg (a0.cs), .agg (a1.cs)] ⟨B, Rw, L⟩ fun x st => x = .val (.bool r) ∧ st = ⟨B, Rw, L⟩) (n : Nat) (B : List (List AV)) (Rw : List RowA) (L : List LoopA) (a0 : Ty) (a1 : Vl) (r : Bool) (h : s_has_B rec n a0 a1 = some r) :
    ACalls Tryz.prog w0 101 [.agg (a0.cs), .agg (a1.cs)] ⟨B, Rw, L⟩ fun x st => x = .val (.bool r) ∧ st = ⟨B, Rw, L⟩ := by
  rw [s_has_B] at h
  refine ACalls.finP (acalls_of (rs := [.tmp 4]) Tryz.func101 rfl rfl Tryz.ntmps101 (enters_some Tryz.func101 rfl (by decide)) (Nat.le_of_ble_eq_true rfl) ?_)
  intro M0 W0 hN hNR hNL hcalm hu
  dsimp only at hN hNR hNL hcalm hu
  simp only [argsE]
  have hO := Owns.none Rw
  have hs := fact0
  refine rg [2, 3] hs ?_
  apply awp_seq; intro K2 hK2
  refine rg [2, 3, 15] hs ?_
  refine cnd h hs (fun hs h => ?_) (fun hs h => ?_)
  · skip
    have hb4 := hs.1
    refine rg [4] hs ?_
    exact rt h hs hcalm hO
  have hb4 := hs.1
  refine sk [2, 3] hs hK2 ?_
  clear hK2
  refine awp_mid (fun e st => ∃ (X_k7 : List (List AV)) (rows_k7 : List RowA), e = [] ∧ st = ⟨B ++ ([a0.cs, a1.cs] ++ X_k7), rows_k7, L⟩ ∧ Owns Rw rows_k7 [] ∧ s_has_k7 rec n  = some r) ?_ ?_
  · intro K8 hK8
    refine rg [2, 3, 17] hs ?_
    apply awp_block
    refine awp_mid (fun e st => ∃ (x18_k11 : Bool) (X_k11 : List (List AV)) (rows_k11 : List RowA), e = [(2, true, .box B.length 0), (3, true, .box (B.length + 1) 0), (17, true, .val (.int .i64 a0.kind)), (18, true, .val (.bool x18_k11))] ∧ st = ⟨B ++ ([a0.cs, a1.cs] ++ X_k11), rows_k11, L⟩ ∧ Owns Rw rows_k11 [] ∧ s_has_k11 rec n a0 a1 x18_k11 = some r) ?_ ?_
    · intro K12 hK12
      refine rg [2, 3, 17, 18] hs ?_
      refine cnd h hs (fun hs h => ?_) (fun hs h => ?_)
      · skip
        have hb14 := hs.1
        refine sk [2, 3, 17, 18] hs hK12 ?_
        exact ⟨true, ([]), Rw, ef hs, ef hs, hO, h⟩
      have hb14 := hs.1
      refine rg [2, 3, 17, 18] hs ?_
      refine cnd h hs (fun hs h => ?_) (fun hs h => ?_)
      · skip
        have hb16 := hs.1
        refine sk [2, 3, 17, 18] hs hK12 ?_
        exact ⟨true, ([]), Rw, ef hs, ef hs, hO, h⟩
      have hb16 := hs.1
      refine rg [2, 3, 17, 18] hs ?_
      refine cnd h hs (fun hs h => ?_) (fun hs h => ?_)
      · skip
        have hb18 := hs.1
        refine sk [2, 3, 17, 18] hs hK12 ?_
        exact ⟨true, ([]), Rw, ef hs, ef hs, hO, h⟩
      have hb18 := hs.1
      apply awp_region 1 [2, 3, 17, 18]
      rw [evK_succ]; simp +decide only [go_sem, Nat.reduceAdd, hb4, hb14, hb16, hb18]
      (repeat' apply And.intro) <;> first | refine hK12 _ _ ⟨(decide (a0.kind = 3)), ([]), Rw, ef hs, ef hs, hO, h⟩ | exact cl
    · clear h; rintro e st ⟨x18_k11, X_k11, rows_k11, rfl, rfl, hO, h⟩
      rw [s_has_k11] at h
      refine td hN hNR hNL hcalm hO ?_
      refine cnd h hs (fun hs h => ?_) (fun hs h => ?_)
      · skip
        have hb19 := hs.1
        refine rc 2 [4] hs ?_; intro K20 hK20
        refine callK_p _ (in_at w0 _ _ _ a1.int a0.min a0.max) (hv hs) ?_
        refine ne hs hK20 ?_
        clear hK20
        exact rt h hs hcalm hO
      have hb19 := hs.1
      refine rg [2, 3, 17, 37] hs ?_
      refine cnd h hs (fun hs h => ?_) (fun hs h => ?_)
      · skip
        have hb22 := hs.1
        apply awp_seq; intro K23 hK23
        refine rg [2, 3, 42] hs ?_
        refine cnd h hs (fun hs h => ?_) (fun hs h => ?_)
        · skip
          obtain ⟨y27, hy27, h⟩ := bind_some h
          refine rc 2 [4] hs ?_; intro K26 hK26
          refine callK_p _ (sl_Contains_string_at w0 n _ _ _ a0.words a1.text _ hy27) (hv hs) ?_
          refine ne hs hK26 ?_
          clear hK26
          exact rt h hs hcalm hO
        refine sk [2, 3] hs hK23 ?_
        clear hK23
        refine rc 2 [4] hs ?_; intro K28 hK28
        refine callK_p _ (in_at w0 _ _ _ ((a1.text.size : Int)) a0.min a0.max) (hv hs) ?_
        refine ne hs hK28 ?_
        clear hK28
        exact rt h hs hcalm hO
      have hb22 := hs.1
      refine rg [2, 3, 17, 56] hs ?_
      refine cnd h hs (fun hs h => ?_) (fun hs h => ?_)
      · skip
        have hb30 := hs.1
        refine rc 2 [4] hs ?_; intro K31 hK31
        refine callK_p _ (in_at w0 _ _ _ ((a1.text.size : Int)) a0.min a0.max) (hv hs) ?_
        refine ne hs hK31 ?_
        clear hK31
        exact rt h hs hcalm hO
      have hb30 := hs.1
      refine rg [2, 3, 17, 66] hs ?_
      refine cnd h hs (fun hs h => ?_) (fun hs h => ?_)
      · skip
        have hb33 := hs.1
        apply awp_seq; intro K34 hK34
        rcases Bool.eq_false_or_eq_true (decide (a0.min ≤ ((a1.list.length : Int))) && decide (((a1.list.length : Int)) ≤ a0.max)) with hf35 | hf35
        · replace h := ite_tt h hf35
          obtain ⟨y36, hy36, h⟩ := bind_some h
          apply awp_region 3 [4]
          rw [evK_succ]; simp +decide only [go_sem, Nat.reduceAdd, hb4, hb19, hb22, hb30, hb33, hf35]
          have hs := And.intro hf35 hs
          (repeat' apply And.intro) <;> first | refine callK_p _ (in_at w0 _ _ _ ((a1.list.length : Int)) a0.min a0.max) (hv hs) ?_ | exact cl
          rw [evK_succ]; simp +decide only [go_sem, Nat.reduceAdd, hb4, hb19, hb22, hb30, hb33, hf35]
          (repeat' apply And.intro) <;> first | refine callK_p _ (sl_ContainsFunc_Value_at w0 n _ _ _ a1.list 153 [.box B.length 0] (fun (x0 : Vl) => s_has_1_F rec x0 a0) (fun x0 r hx B' rows' hB' hR' => by exact s_has_1_at w0 rec ih _ _ _ x0 _ a0 (prefix_get hB' (ef hs)) _ hx) _ hy36) (hv hs) ?_ | exact cl
          rw [evK_succ]; simp +decide only [go_sem, Nat.reduceAdd, hb4, hb19, hb22, hb30, hb33, hf35]
          (repeat' apply And.intro) <;> first | refine hK34 _ _ ?_ | exact cl
          clear hK34
          exact rt h hs hcalm hO
        · replace h := ite_ff h hf35
          apply awp_region 3 [4]
          rw [evK_succ]; simp +decide only [go_sem, Nat.reduceAdd, hb4, hb19, hb22, hb30, hb33, hf35]
          have hs := And.intro hf35 hs
          (repeat' apply And.intro) <;> first | refine callK_p _ (in_at w0 _ _ _ ((a1.list.length : Int)) a0.min a0.max) (hv hs) ?_ | exact cl
          rw [evK_succ]; simp +decide only [go_sem, Nat.reduceAdd, hb4, hb19, hb22, hb30, hb33, hf35]
          (repeat' apply And.intro) <;> first | refine callK_skip ?_ | exact cl
          rw [evK_succ]; simp +decide only [go_sem, Nat.reduceAdd, hb4, hb19, hb22, hb30, hb33, hf35]
          (repeat' apply And.intro) <;> first | refine hK34 _ _ ?_ | exact cl
          clear hK34
          exact rt h hs hcalm hO
      have hb33 := hs.1
      refine rg [2, 3, 17, 83] hs ?_
      refine cnd h hs (fun hs h => ?_) (fun hs h => ?_)
      · skip
        have hb38 := hs.1
        obtain ⟨y40, hy40, h⟩ := bind_some h
        refine rc 2 [3, 5, 6] hs ?_; intro K39 hK39
        refine callK_p _ (s_Field_at w0 n _ _ _ a0 a1.text _ hy40) (hv hs) ?_
        refine ne hs hK39 ?_
        clear hK39
        apply awp_seq; intro K41 hK41
        rcases Bool.eq_false_or_eq_true (y40.2) with hf42 | hf42
        · replace h := ite_tt h hf42
          obtain ⟨x43, hx43, h⟩ := bind_some h
          obtain ⟨hx43a, hx43b, hx43c⟩ := idx_some hx43
          have hx43d := getD_map (f := avV) hx43c
          have hx43e : (a1.list.map avV).getD 0 .junk = _ := hx43d
          obtain ⟨y44, hy44, h⟩ := bind_some h
          apply awp_draw mix 11 2 1 [4] (by kernel_rfl)
          rw [evK_succ]; simp +decide only [go_sem, Nat.reduceAdd, hb4, hb19, hb22, hb30, hb33, hb38, hf42, hx43d, hx43e]
          have hs := And.intro hf42 hs
          have hs := And.intro hx43d hs
          have hs := And.intro hx43e hs
          (repeat' apply And.intro) <;> first | refine callK_p _ (ih _ _ _ y40.1.2.2.2.1 x43 _ hy44) (hv hs) ?_ | exact cl
          rw [evK_succ]; simp +decide only [go_sem, Nat.reduceAdd, hb4, hb19, hb22, hb30, hb33, hb38, hf42, hx43d, hx43e]
          (repeat' with_reducible apply And.intro) <;> first | (rw [evK_succ]; simp +decide only [go_sem, Nat.reduceAdd, hb4, hb19, hb22, hb30, hb33, hb38, hf42, hx43d, hx43e]) | exact cl
          (repeat' apply And.intro) <;> first | refine hK41 _ _ ?_ | exact cl
          clear hK41
          exact rt h hs hcalm hO
        · replace h := ite_ff h hf42
          apply awp_draw mix 11 2 1 [4] (by kernel_rfl)
          rw [evK_succ]; simp +decide only [go_sem, Nat.reduceAdd, hb4, hb19, hb22, hb30, hb33, hb38, hf42]
          (repeat' apply And.intro) <;> first | refine callK_skip ?_ | exact cl
          rw [evK_succ]; simp +decide only [go_sem, Nat.reduceAdd, hb4, hb19, hb22, hb30, hb33, hb38, hf42]
          (repeat' with_reducible apply And.intro) <;> first | (rw [evK_succ]; simp +decide only [go_sem, Nat.reduceAdd, hb4, hb19, hb22, hb30, hb33, hb38, hf42]) | exact cl
          (repeat' apply And.intro) <;> first | refine hK41 _ _ ?_ | exact cl
          clear hK41
          have hs := And.intro hf42 hs
          exact rt h hs hcalm hO
      have hb38 := hs.1
      refine rg [2, 3, 102] hs ?_
      refine cnd h hs (fun hs h => ?_) (fun hs h => ?_)
      · skip
        have hb46 := hs.1
        refine awp_mid (fun e st => ∃ (X_k48 : List (List AV)) (rows_k48 : List RowA), e = [(2, true, .box B.length 0), (3, true, .box (B.length + 1) 0)] ∧ st = ⟨B ++ ([a0.cs, a1.cs] ++ X_k48), rows_k48, L⟩ ∧ Owns Rw rows_k48 [] ∧ s_has_k48 rec n a0 a1  = some r) ?_ ?_
        · intro K49 hK49
          refine rg [2, 3, 105, 106, 107] hs ?_
          apply awp_block
          refine awp_loop (fun m e st => ∃ (x107_l51 : Int) (X_l51 : List (List AV)) (rows_l51 : List RowA), e = [(2, true, .box B.length 0), (3, true, .box (B.length + 1) 0), (105, true, .list (a1.fields.map avF) .none), (106, true, .val (.int .i64 ((a1.fields.length : Int)))), (107, true, .val (.int .i64 x107_l51))] ∧ st = ⟨B ++ ([a0.cs, a1.cs] ++ X_l51), rows_l51, L⟩ ∧ Owns Rw rows_l51 [] ∧ s_has_l51 rec n a0 a1 m x107_l51 = some r) n ⟨0, ([]), rows_k11, ef hs, ef hs, hO, h⟩ ?_
          rintro m_l51 e st ⟨x107_l51, X_l51, rows_l51, rfl, rfl, hO, h⟩ KR_l51 hKR_l51
          cases m_l51 with
          | zero => cases h
          | succ m_l51 =>
          rw [s_has_l51] at h
          refine td hN hNR hNL hcalm hO ?_
          refine rg [2, 3, 105, 106, 107, 108] hs ?_
          apply awp_seq; intro K53 hK53
          refine cnd h hs (fun hs h => ?_) (fun hs h => ?_)
          rotate_left
          · skip
            have hb54 := hs.1
            refine sx [2, 3] hs hK49 ?_
            exact ⟨([]), rows_l51, ef hs, ef hs, hO, h⟩
          have hb54 := hs.1
          refine sk [2, 3, 105, 106, 107] hs hK53 ?_
          clear hK53
          apply awp_seq; intro K55 hK55
          apply awp_block
          obtain ⟨x57, hx57, h⟩ := bind_some h
          obtain ⟨hx57a, hx57b, hx57c⟩ := idx_some hx57
          have hx57d := getD_map (f := avF) hx57c
          have hs := And.intro hx57d hs
          refine rg [2, 3, 8, 105, 106, 107] hs ?_
          obtain ⟨y59, hy59, h⟩ := bind_some h
          refine rc 2 [2, 3, 8, 9, 10, 105, 106, 107] hs ?_; intro K58 hK58
          refine callK_p _ (s_Field_at w0 n _ _ _ a0 x57.1 _ hy59) (hv hs) ?_
          refine ne hs hK58 ?_
          clear hK58
          apply awp_seq; intro K60 hK60
          rcases Bool.eq_false_or_eq_true (!y59.2) with hf61 | hf61
          · replace h := ite_tt h hf61
            apply awp_region 2 [2, 3, 105, 106, 107, 127]
            rw [evK_succ]; simp +decide only [go_sem, Nat.reduceAdd, hb4, hb19, hb22, hb30, hb33, hb38, hb46, hb54, hx57d, hf61]
            (repeat' apply And.intro) <;> first | refine callK_skip ?_ | exact cl
            rw [evK_succ]; simp +decide only [go_sem, Nat.reduceAdd, hb4, hb19, hb22, hb30, hb33, hb38, hb46, hb54, hx57d, hf61]
            (repeat' apply And.intro) <;> first | refine hK60 _ _ ?_ | exact cl
            clear hK60
            have hs := And.intro hf61 hs
            refine awp_cond true ev (ef hs) (fun hb62 => ?_) (fun hb62 => by cases hb62)
            refine rg [4] hs ?_
            exact rt h hs hcalm hO
          · replace h := ite_ff h hf61
            obtain ⟨y64, hy64, h⟩ := bind_some h
            apply awp_region 2 [2, 3, 105, 106, 107, 127]
            rw [evK_succ]; simp +decide only [go_sem, Nat.reduceAdd, hb4, hb19, hb22, hb30, hb33, hb38, hb46, hb54, hx57d, hf61]
            have hs := And.intro hf61 hs
            (repeat' apply And.intro) <;> first | refine callK_p _ (ih _ _ _ y59.1.2.2.2.1 x57.2 _ hy64) (hv hs) ?_ | exact cl
            rw [evK_succ]; simp +decide only [go_sem, Nat.reduceAdd, hb4, hb19, hb22, hb30, hb33, hb38, hb46, hb54, hx57d, hf61]
            (repeat' apply And.intro) <;> first | refine hK60 _ _ ?_ | exact cl
            clear hK60
            refine cnd h hs (fun hs h => ?_) (fun hs h => ?_)
            · skip
              have hb65 := hs.1
              refine rg [4] hs ?_
              exact rt h hs hcalm hO
            have hb65 := hs.1
            refine sk [2, 3, 105, 106, 107] hs hK55 ?_
            clear hK55
            obtain ⟨hg67, h⟩ := guard_some h
            apply awp_region 1 [2, 3, 105, 106, 107]
            rw [evK_succ]; simp +decide only [go_sem, Nat.reduceAdd, hb4, hb19, hb22, hb30, hb33, hb38, hb46, hb54, hx57d, hf61, hb65]
            (repeat' apply And.intro) <;> first | refine hKR_l51 m_l51 _ _ (Nat.lt_succ_self m_l51) ⟨(x107_l51 + 1), ([.val (.string x57.1) :: (x57.2.cs), .val (.int .i64 y59.1.1) :: (.val (.string y59.1.2.1) :: (.val (.int .i64 y59.1.2.2.1) :: ((y59.1.2.2.2.1.cs) ++ ([.list (y59.1.2.2.2.2.map avV) .none]))))]), rows_l51, ef hs, ef hs, hO, h⟩ | exact cl
        · clear h; rintro e st ⟨X_k48, rows_k48, rfl, rfl, hO, h⟩
          rw [s_has_k48] at h
          refine td hN hNR hNL hcalm hO ?_
          obtain ⟨y69, hy69, h⟩ := bind_some h
          refine rc 2 [4] hs ?_; intro K68 hK68
          refine callK_p _ (sl_ContainsFunc_TypeField_at w0 n _ _ _ a0.fields 155 [.box (B.length + 1) 0] (fun (x0 : Int × ByteArray × Int × Ty × List Vl) => s_has_2_F n x0 a1) (fun x0 r hx B' rows' hB' hR' => by exact s_has_2_at w0 n _ _ _ x0 _ a1 (prefix_get hB' (ef hs)) _ hx) _ hy69) (hv hs) ?_
          refine ne hs hK68 ?_
          clear hK68
          exact rt h hs hcalm hO
      have hb46 := hs.1
      refine sk [] hs hK8 ?_
      exact ⟨([]), rows_k11, ef hs, ef hs, hO, h⟩
  · clear h; rintro e st ⟨X_k7, rows_k7, rfl, rfl, hO, h⟩
    rw [s_has_k7] at h
    refine td hN hNR hNL hcalm hO ?_
    refine rg [4] hs ?_
    exact rt h hs hcalm hO
theorem s_has_at (w0 : World) : ∀ (n : Nat) (B : List (List AV)) (Rw : List RowA) (L : List LoopA) (a0 : Ty) (a1 : Vl) (r : Bool) (h : s_has_F n a0 a1 = some r), ACalls Tryz.prog w0 101 [.agg (a0.cs), .agg (a1.cs)] ⟨B, Rw, L⟩ fun x st => x = .val (.bool r) ∧ st = ⟨B, Rw, L⟩
  | 0, _, _, _, _, _, _, h => (nomatch h)
  | n + 1, B, Rw, L, a0, a1, r, h => s_has_step w0 (s_has_F n) (s_has_at w0 n) n B Rw L a0 a1 r (by rw [s_has_F] at h; exact h)
end Go.Proofs.YtggimoedcamonaaGreatDoor
namespace Go.Proofs.YtggimoedcamonaaGreatDoor
open Go Go.RowKit Go.Ev
set_option linter.unusedSimpArgs false
set_option linter.unusedVariables false
def v_IsNull_F (a0 : Vl) : Bool :=
  (((((decide (a0.kind = 0)) && (decide (a0.int = 0))) && (decide (a0.scale = 0))) && (sEq a0.text ((⟨#[]⟩ : ByteArray)))) && (decide (((a0.list.length : Int)) = 0))) && (decide (((a0.fields.length : Int)) = 0))
set_option maxRecDepth 100000 in
set_option maxHeartbeats 4000000 in
theorem v_IsNull_at (w0 : World) (B : List (List AV)) (Rw : List RowA) (L : List LoopA) (a0 : Vl) (r : Bool) (h : v_IsNull_F a0 = r) :
    ACalls Tryz.prog w0 90 [.agg (a0.cs)] ⟨B, Rw, L⟩ fun x st => x = .val (.bool r) ∧ st = ⟨B, Rw, L⟩ := by
  rw [v_IsNull_F] at h
  refine ACalls.finP (acalls_of (rs := [.tmp 2]) Tryz.func90 rfl rfl Tryz.ntmps90 (enters_some Tryz.func90 rfl (by decide)) (Nat.le_of_ble_eq_true rfl) ?_)
  intro M0 W0 hN hNR hNL hcalm hu
  dsimp only at hN hNR hNL hcalm hu
  simp only [argsE]
  have hO := Owns.none Rw
  have hs := fact0
  refine rg [1] hs ?_
  refine rg [2] hs ?_
  apply awp_ret; simp +decide only [go_sem, Nat.reduceAdd]
  subst h
  first | refine fin_q0 hcalm rfl hO.pre ev ⟨?_, rfl⟩ | refine fin_q hcalm rfl hO.pre ev ⟨?_, rfl⟩
  first | rfl | (simp +decide only [go_sem, Nat.reduceAdd]; done) | (simp +decide only [go_sem, Nat.reduceAdd, Vl.cs, Ty.cs]; done)
theorem v_IsNull_at' (w0 : World) (B : List (List AV)) (Rw : List RowA) (L : List LoopA) (a0 : Vl) :
    ACalls Tryz.prog w0 90 [.agg (a0.cs)] ⟨B, Rw, L⟩ fun x st => x = .val (.bool (v_IsNull_F a0)) ∧ st = ⟨B, Rw, L⟩ := v_IsNull_at w0 B Rw L a0 _ rfl
end Go.Proofs.YtggimoedcamonaaGreatDoor
namespace Go.Proofs.YtggimoedcamonaaGreatDoor
open Go Go.RowKit Go.Ev
set_option linter.unusedSimpArgs false
set_option linter.unusedVariables false
def v_between_F (a0 : Int) (a1 : Int) (a2 : Int) : Int :=
  if (decide (a0 < a1)) || (decide (a2 < a0)) then
    2
  else
    0
set_option maxRecDepth 100000 in
set_option maxHeartbeats 4000000 in
theorem v_between_at (w0 : World) (B : List (List AV)) (Rw : List RowA) (L : List LoopA) (a0 : Int) (a1 : Int) (a2 : Int) (r : Int) (h : v_between_F a0 a1 a2 = r) :
    ACalls Tryz.prog w0 123 [.val (.int .i64 a0), .val (.int .i64 a1), .val (.int .i64 a2)] ⟨B, Rw, L⟩ fun x st => x = .val (.int .i64 r) ∧ st = ⟨B, Rw, L⟩ := by
  rw [v_between_F] at h
  refine ACalls.finP (acalls_of (rs := [.tmp 6]) Tryz.func123 rfl rfl Tryz.ntmps123 (enters_some Tryz.func123 rfl (by decide)) (Nat.le_of_ble_eq_true rfl) ?_)
  intro M0 W0 hN hNR hNL hcalm hu
  dsimp only at hN hNR hNL hcalm hu
  simp only [argsE]
  have hO := Owns.none Rw
  have hs := fact0
  refine rg [0, 1, 2] hs ?_
  apply awp_seq; intro K2 hK2
  refine rg [14] hs ?_
  refine cnd h hs (fun hs h => ?_) (fun hs h => ?_)
  · skip
    have hb4 := hs.1
    refine rg [6] hs ?_
    apply awp_ret; simp +decide only [go_sem, Nat.reduceAdd, hb4]
    subst h
    first | refine fin_q0 hcalm rfl hO.pre ev ⟨?_, rfl⟩ | refine fin_q hcalm rfl hO.pre ev ⟨?_, rfl⟩
    first | rfl | (simp +decide only [go_sem, Nat.reduceAdd, hb4]; done) | (simp +decide only [go_sem, Nat.reduceAdd, Vl.cs, Ty.cs, hb4]; done)
  have hb4 := hs.1
  refine sk [] hs hK2 ?_
  clear hK2
  refine rg [6] hs ?_
  apply awp_ret; simp +decide only [go_sem, Nat.reduceAdd, hb4]
  subst h
  first | refine fin_q0 hcalm rfl hO.pre ev ⟨?_, rfl⟩ | refine fin_q hcalm rfl hO.pre ev ⟨?_, rfl⟩
  first | rfl | (simp +decide only [go_sem, Nat.reduceAdd, hb4]; done) | (simp +decide only [go_sem, Nat.reduceAdd, Vl.cs, Ty.cs, hb4]; done)
theorem v_between_at' (w0 : World) (B : List (List AV)) (Rw : List RowA) (L : List LoopA) (a0 : Int) (a1 : Int) (a2 : Int) :
    ACalls Tryz.prog w0 123 [.val (.int .i64 a0), .val (.int .i64 a1), .val (.int .i64 a2)] ⟨B, Rw, L⟩ fun x st => x = .val (.int .i64 (v_between_F a0 a1 a2)) ∧ st = ⟨B, Rw, L⟩ := v_between_at w0 B Rw L a0 a1 a2 _ rfl
end Go.Proofs.YtggimoedcamonaaGreatDoor
namespace Go.Proofs.YtggimoedcamonaaGreatDoor
open Go Go.RowKit Go.Ev
set_option linter.unusedSimpArgs false
set_option linter.unusedVariables false
def v_rules_1_F (a0 : Vl) : Int :=
  v_between_F a0.int 0 1
set_option maxRecDepth 100000 in
set_option maxHeartbeats 4000000 in
theorem v_rules_1_at (w0 : World) (B : List (List AV)) (Rw : List RowA) (L : List LoopA) (a0 : Vl) (r : Int) (h : v_rules_1_F a0 = r) :
    ACalls Tryz.prog w0 122 [.agg (a0.cs)] ⟨B, Rw, L⟩ fun x st => x = .val (.int .i64 r) ∧ st = ⟨B, Rw, L⟩ := by
  rw [v_rules_1_F] at h
  refine ACalls.finP (acalls_of (rs := [.tmp 2]) Tryz.func122 rfl rfl Tryz.ntmps122 (enters_some Tryz.func122 rfl (by decide)) (Nat.le_of_ble_eq_true rfl) ?_)
  intro M0 W0 hN hNR hNL hcalm hu
  dsimp only at hN hNR hNL hcalm hu
  simp only [argsE]
  have hO := Owns.none Rw
  have hs := fact0
  refine rg [1] hs ?_
  refine rc 2 [2] hs ?_; intro K2 hK2
  refine callK_p _ (v_between_at' w0 _ _ _ a0.int 0 1) (hv hs) ?_
  refine ne hs hK2 ?_
  clear hK2
  apply awp_ret; simp +decide only [go_sem, Nat.reduceAdd]
  subst h
  first | refine fin_q0 hcalm rfl hO.pre ev ⟨?_, rfl⟩ | refine fin_q hcalm rfl hO.pre ev ⟨?_, rfl⟩
  first | rfl | (simp +decide only [go_sem, Nat.reduceAdd]; done) | (simp +decide only [go_sem, Nat.reduceAdd, Vl.cs, Ty.cs]; done)
theorem v_rules_1_at' (w0 : World) (B : List (List AV)) (Rw : List RowA) (L : List LoopA) (a0 : Vl) :
    ACalls Tryz.prog w0 122 [.agg (a0.cs)] ⟨B, Rw, L⟩ fun x st => x = .val (.int .i64 (v_rules_1_F a0)) ∧ st = ⟨B, Rw, L⟩ := v_rules_1_at w0 B Rw L a0 _ rfl
end Go.Proofs.YtggimoedcamonaaGreatDoor
namespace Go.Proofs.YtggimoedcamonaaGreatDoor
open Go Go.RowKit Go.Ev
set_option linter.unusedSimpArgs false
set_option linter.unusedVariables false
def v_size_F (a0 : Int) (a1 : Int) (a2 : Int) : Int :=
  if decide (a1 < a0) then
    a2
  else
    0
set_option maxRecDepth 100000 in
set_option maxHeartbeats 4000000 in
theorem v_size_at (w0 : World) (B : List (List AV)) (Rw : List RowA) (L : List LoopA) (a0 : Int) (a1 : Int) (a2 : Int) (r : Int) (h : v_size_F a0 a1 a2 = r) :
    ACalls Tryz.prog w0 128 [.val (.int .i64 a0), .val (.int .i64 a1), .val (.int .i64 a2)] ⟨B, Rw, L⟩ fun x st => x = .val (.int .i64 r) ∧ st = ⟨B, Rw, L⟩ := by
  rw [v_size_F] at h
  refine ACalls.finP (acalls_of (rs := [.tmp 6]) Tryz.func128 rfl rfl Tryz.ntmps128 (enters_some Tryz.func128 rfl (by decide)) (Nat.le_of_ble_eq_true rfl) ?_)
  intro M0 W0 hN hNR hNL hcalm hu
  dsimp only at hN hNR hNL hcalm hu
  simp only [argsE]
  have hO := Owns.none Rw
  have hs := fact0
  refine rg [0, 1, 2] hs ?_
  apply awp_seq; intro K2 hK2
  refine rg [2, 9] hs ?_
  refine cnd h hs (fun hs h => ?_) (fun hs h => ?_)
  · skip
    have hb4 := hs.1
    refine rg [6] hs ?_
    apply awp_ret; simp +decide only [go_sem, Nat.reduceAdd, hb4]
    subst h
    first | refine fin_q0 hcalm rfl hO.pre ev ⟨?_, rfl⟩ | refine fin_q hcalm rfl hO.pre ev ⟨?_, rfl⟩
    first | rfl | (simp +decide only [go_sem, Nat.reduceAdd, hb4]; done) | (simp +decide only [go_sem, Nat.reduceAdd, Vl.cs, Ty.cs, hb4]; done)
  have hb4 := hs.1
  refine sk [] hs hK2 ?_
  clear hK2
  refine rg [6] hs ?_
  apply awp_ret; simp +decide only [go_sem, Nat.reduceAdd, hb4]
  subst h
  first | refine fin_q0 hcalm rfl hO.pre ev ⟨?_, rfl⟩ | refine fin_q hcalm rfl hO.pre ev ⟨?_, rfl⟩
  first | rfl | (simp +decide only [go_sem, Nat.reduceAdd, hb4]; done) | (simp +decide only [go_sem, Nat.reduceAdd, Vl.cs, Ty.cs, hb4]; done)
theorem v_size_at' (w0 : World) (B : List (List AV)) (Rw : List RowA) (L : List LoopA) (a0 : Int) (a1 : Int) (a2 : Int) :
    ACalls Tryz.prog w0 128 [.val (.int .i64 a0), .val (.int .i64 a1), .val (.int .i64 a2)] ⟨B, Rw, L⟩ fun x st => x = .val (.int .i64 (v_size_F a0 a1 a2)) ∧ st = ⟨B, Rw, L⟩ := v_size_at w0 B Rw L a0 a1 a2 _ rfl
end Go.Proofs.YtggimoedcamonaaGreatDoor
namespace Go.Proofs.YtggimoedcamonaaGreatDoor
open Go Go.RowKit Go.Ev
set_option linter.unusedSimpArgs false
set_option linter.unusedVariables false
def v_rules_10_F (a0 : Vl) : Option Int :=
  if a0.text.size ≤ maxLen then
    if !(nameB a0.text) then
      some (12)
    else
      if decide (((a0.list.length : Int)) = 0) then
        some (4)
      else
        some (v_size_F ((a0.list.length : Int)) 1 3)
  else none
set_option maxRecDepth 100000 in
set_option maxHeartbeats 4000000 in
theorem v_rules_10_at (w0 : World) (B : List (List AV)) (Rw : List RowA) (L : List LoopA) (a0 : Vl) (r : Int) (h : v_rules_10_F a0 = some r) :
    ACalls Tryz.prog w0 135 [.agg (a0.cs)] ⟨B, Rw, L⟩ fun x st => x = .val (.int .i64 r) ∧ st = ⟨B, Rw, L⟩ := by
  rw [v_rules_10_F] at h
  refine ACalls.finP (acalls_of (rs := [.tmp 2]) Tryz.func135 rfl rfl Tryz.ntmps135 (enters_some Tryz.func135 rfl (by decide)) (Nat.le_of_ble_eq_true rfl) ?_)
  intro M0 W0 hN hNR hNL hcalm hu
  dsimp only at hN hNR hNL hcalm hu
  simp only [argsE]
  have hO := Owns.none Rw
  have hs := fact0
  refine rg [1] hs ?_
  apply awp_seq; intro K2 hK2
  apply awp_block
  obtain ⟨hg4, h⟩ := guard_some h
  refine rc 2 [1, 3] hs ?_; intro K3 hK3
  refine callK_p _ (IsName_at w0 _ _ _ a0.text hg4) (hv hs) ?_
  refine ne hs hK3 ?_
  clear hK3
  refine cnd h hs (fun hs h => ?_) (fun hs h => ?_)
  · skip
    refine rg [2] hs ?_
    exact rt h hs hcalm hO
  refine rg [1, 8] hs ?_
  refine cnd h hs (fun hs h => ?_) (fun hs h => ?_)
  · skip
    refine rg [2] hs ?_
    exact rt h hs hcalm hO
  refine sk [1] hs hK2 ?_
  clear hK2
  refine rc 2 [2] hs ?_; intro K10 hK10
  refine callK_p _ (v_size_at' w0 _ _ _ ((a0.list.length : Int)) 1 3) (hv hs) ?_
  refine ne hs hK10 ?_
  clear hK10
  exact rt h hs hcalm hO
end Go.Proofs.YtggimoedcamonaaGreatDoor
namespace Go.Proofs.YtggimoedcamonaaGreatDoor
open Go Go.RowKit Go.Ev
set_option linter.unusedSimpArgs false
set_option linter.unusedVariables false
def v_rules_2_F (a0 : Vl) : Int :=
  v_between_F a0.int ((-999999999999999)) 999999999999999
set_option maxRecDepth 100000 in
set_option maxHeartbeats 4000000 in
theorem v_rules_2_at (w0 : World) (B : List (List AV)) (Rw : List RowA) (L : List LoopA) (a0 : Vl) (r : Int) (h : v_rules_2_F a0 = r) :
    ACalls Tryz.prog w0 124 [.agg (a0.cs)] ⟨B, Rw, L⟩ fun x st => x = .val (.int .i64 r) ∧ st = ⟨B, Rw, L⟩ := by
  rw [v_rules_2_F] at h
  refine ACalls.finP (acalls_of (rs := [.tmp 2]) Tryz.func124 rfl rfl Tryz.ntmps124 (enters_some Tryz.func124 rfl (by decide)) (Nat.le_of_ble_eq_true rfl) ?_)
  intro M0 W0 hN hNR hNL hcalm hu
  dsimp only at hN hNR hNL hcalm hu
  simp only [argsE]
  have hO := Owns.none Rw
  have hs := fact0
  refine rg [1] hs ?_
  refine rc 2 [2] hs ?_; intro K2 hK2
  refine callK_p _ (v_between_at' w0 _ _ _ a0.int ((-999999999999999)) 999999999999999) (hv hs) ?_
  refine ne hs hK2 ?_
  clear hK2
  apply awp_ret; simp +decide only [go_sem, Nat.reduceAdd]
  subst h
  first | refine fin_q0 hcalm rfl hO.pre ev ⟨?_, rfl⟩ | refine fin_q hcalm rfl hO.pre ev ⟨?_, rfl⟩
  first | rfl | (simp +decide only [go_sem, Nat.reduceAdd]; done) | (simp +decide only [go_sem, Nat.reduceAdd, Vl.cs, Ty.cs]; done)
theorem v_rules_2_at' (w0 : World) (B : List (List AV)) (Rw : List RowA) (L : List LoopA) (a0 : Vl) :
    ACalls Tryz.prog w0 124 [.agg (a0.cs)] ⟨B, Rw, L⟩ fun x st => x = .val (.int .i64 (v_rules_2_F a0)) ∧ st = ⟨B, Rw, L⟩ := v_rules_2_at w0 B Rw L a0 _ rfl
end Go.Proofs.YtggimoedcamonaaGreatDoor
namespace Go.Proofs.YtggimoedcamonaaGreatDoor
open Go Go.RowKit Go.Ev
set_option linter.unusedSimpArgs false
set_option linter.unusedVariables false
def v_first_k3 (n : Nat)  : Option Int :=
  some (0)
def v_first_l6 (n : Nat) (a0 : List Int) : Nat → Int → Option Int
  | 0, _ => none
  | m + 1, x7_l6 =>
    if decide (x7_l6 < ((a0.length : Int))) then
      (idx a0 x7_l6).bind fun x12 =>
      if !(decide (x12 = 0)) then
        some (x12)
      else
        if I64 (x7_l6 + 1) then
          (v_first_l6 n a0 m) (x7_l6 + 1)
        else none
    else
      v_first_k3 n 
def v_first_F (n : Nat) (a0 : List Int) : Option Int :=
  v_first_l6 n a0 n 0
set_option maxRecDepth 100000 in
set_option maxHeartbeats 4000000 in
theorem v_first_at (w0 : World) (n : Nat) (B : List (List AV)) (Rw : List RowA) (L : List LoopA) (a0 : List Int) (r : Int) (h : v_first_F n a0 = some r) :
    ACalls Tryz.prog w0 126 [.list (a0.map avI) .none] ⟨B, Rw, L⟩ fun x st => x = .val (.int .i64 r) ∧ st = ⟨B, Rw, L⟩ := by
  rw [v_first_F] at h
  refine ACalls.finP (acalls_of (rs := [.tmp 2]) Tryz.func126 rfl rfl Tryz.ntmps126 (enters_some Tryz.func126 rfl (by decide)) (Nat.le_of_ble_eq_true rfl) ?_)
  intro M0 W0 hN hNR hNL hcalm hu
  dsimp only at hN hNR hNL hcalm hu
  simp only [argsE]
  have hO := Owns.none Rw
  have hs := fact0
  refine rg [0] hs ?_
  refine awp_mid (fun e st => ∃ (X_k3 : List (List AV)) (rows_k3 : List RowA), e = [] ∧ st = ⟨B ++ ([] ++ X_k3), rows_k3, L⟩ ∧ Owns Rw rows_k3 [] ∧ v_first_k3 n  = some r) ?_ ?_
  · intro K4 hK4
    refine rg [5, 6, 7] hs ?_
    apply awp_block
    refine awp_loop (fun m e st => ∃ (x7_l6 : Int) (X_l6 : List (List AV)) (rows_l6 : List RowA), e = [(5, true, .list (a0.map avI) .none), (6, true, .val (.int .i64 ((a0.length : Int)))), (7, true, .val (.int .i64 x7_l6))] ∧ st = ⟨B ++ ([] ++ X_l6), rows_l6, L⟩ ∧ Owns Rw rows_l6 [] ∧ v_first_l6 n a0 m x7_l6 = some r) n ⟨0, ([]), Rw, ef hs, ef hs, hO, h⟩ ?_
    rintro m_l6 e st ⟨x7_l6, X_l6, rows_l6, rfl, rfl, hO, h⟩ KR_l6 hKR_l6
    cases m_l6 with
    | zero => cases h
    | succ m_l6 =>
    rw [v_first_l6] at h
    refine td hN hNR hNL hcalm hO ?_
    refine rg [5, 6, 7, 8] hs ?_
    apply awp_seq; intro K8 hK8
    refine cnd h hs (fun hs h => ?_) (fun hs h => ?_)
    rotate_left
    · skip
      have hb9 := hs.1
      refine sx [] hs hK4 ?_
      exact ⟨([]), rows_l6, ef hs, ef hs, hO, h⟩
    have hb9 := hs.1
    refine sk [5, 6, 7] hs hK8 ?_
    clear hK8
    apply awp_seq; intro K10 hK10
    apply awp_block
    obtain ⟨x12, hx12, h⟩ := bind_some h
    obtain ⟨hx12a, hx12b, hx12c⟩ := idx_some hx12
    have hx12d := getD_map (f := avI) hx12c
    have hs := And.intro hx12d hs
    refine rg [4, 5, 6, 7] hs ?_
    refine rg [4, 5, 6, 7, 12] hs ?_
    refine cnd h hs (fun hs h => ?_) (fun hs h => ?_)
    · skip
      have hb14 := hs.1
      refine rg [2] hs ?_
      exact rt h hs hcalm hO
    have hb14 := hs.1
    refine sk [5, 6, 7] hs hK10 ?_
    clear hK10
    obtain ⟨hg16, h⟩ := guard_some h
    apply awp_region 1 [5, 6, 7]
    rw [evK_succ]; simp +decide only [go_sem, Nat.reduceAdd, hb9, hx12d, hb14]
    (repeat' apply And.intro) <;> first | refine hKR_l6 m_l6 _ _ (Nat.lt_succ_self m_l6) ⟨(x7_l6 + 1), ([]), rows_l6, ef hs, ef hs, hO, h⟩ | exact cl
  · clear h; rintro e st ⟨X_k3, rows_k3, rfl, rfl, hO, h⟩
    rw [v_first_k3] at h
    refine td hN hNR hNL hcalm hO ?_
    refine rg [2] hs ?_
    exact rt h hs hcalm hO
end Go.Proofs.YtggimoedcamonaaGreatDoor
namespace Go.Proofs.YtggimoedcamonaaGreatDoor
open Go Go.RowKit Go.Ev
set_option linter.unusedSimpArgs false
set_option linter.unusedVariables false
def v_rules_3_F (n : Nat) (a0 : Vl) : Option Int :=
  (v_first_F n ([v_between_F a0.int ((-999999999999999)) 999999999999999, v_between_F a0.scale 0 12])).bind fun y3 =>
  some (y3)
set_option maxRecDepth 100000 in
set_option maxHeartbeats 4000000 in
theorem v_rules_3_at (w0 : World) (n : Nat) (B : List (List AV)) (Rw : List RowA) (L : List LoopA) (a0 : Vl) (r : Int) (h : v_rules_3_F n a0 = some r) :
    ACalls Tryz.prog w0 125 [.agg (a0.cs)] ⟨B, Rw, L⟩ fun x st => x = .val (.int .i64 r) ∧ st = ⟨B, Rw, L⟩ := by
  rw [v_rules_3_F] at h
  refine ACalls.finP (acalls_of (rs := [.tmp 2]) Tryz.func125 rfl rfl Tryz.ntmps125 (enters_some Tryz.func125 rfl (by decide)) (Nat.le_of_ble_eq_true rfl) ?_)
  intro M0 W0 hN hNR hNL hcalm hu
  dsimp only at hN hNR hNL hcalm hu
  simp only [argsE]
  have hO := Owns.none Rw
  have hs := fact0
  refine rg [1] hs ?_
  apply awp_seq; intro K2 hK2
  obtain ⟨y3, hy3, h⟩ := bind_some h
  apply awp_draw mix 9 4 1 [2] (by kernel_rfl)
  rw [evK_succ]; simp +decide only [go_sem, Nat.reduceAdd]
  (repeat' apply And.intro) <;> first | refine callK_p _ (v_between_at' w0 _ _ _ a0.int ((-999999999999999)) 999999999999999) (hv hs) ?_ | exact cl
  rw [evK_succ]; simp +decide only [go_sem, Nat.reduceAdd]
  (repeat' apply And.intro) <;> first | refine callK_p _ (v_between_at' w0 _ _ _ a0.scale 0 12) (hv hs) ?_ | exact cl
  rw [evK_succ]; simp +decide only [go_sem, Nat.reduceAdd]
  (repeat' apply And.intro) <;> first | refine callK_p _ (v_first_at w0 n _ _ _ ([v_between_F a0.int ((-999999999999999)) 999999999999999, v_between_F a0.scale 0 12]) _ hy3) (hv hs) ?_ | exact cl
  rw [evK_succ]; simp +decide only [go_sem, Nat.reduceAdd]
  (repeat' with_reducible apply And.intro) <;> first | (rw [evK_succ]; simp +decide only [go_sem, Nat.reduceAdd]) | exact cl
  (repeat' apply And.intro) <;> first | refine hK2 _ _ ?_ | exact cl
  clear hK2
  exact rt h hs hcalm hO
end Go.Proofs.YtggimoedcamonaaGreatDoor
namespace Go.Proofs.YtggimoedcamonaaGreatDoor
open Go Go.RowKit Go.Ev
set_option linter.unusedSimpArgs false
set_option linter.unusedVariables false
def v_rules_4_k4  (x3_k4 : Int) : Option Int :=
  some (x3_k4)
def v_rules_4_F (a0 : Vl) : Option Int :=
  if decide ((v_size_F ((a0.text.size : Int)) 1024 5) = 0) then
    if a0.text.size ≤ maxLen then
      if !(Lib.validD a0.text.data.toList) then
        v_rules_4_k4  16
      else
        v_rules_4_k4  (v_size_F ((a0.text.size : Int)) 1024 5)
    else none
  else
    v_rules_4_k4  (v_size_F ((a0.text.size : Int)) 1024 5)
set_option maxRecDepth 100000 in
set_option maxHeartbeats 4000000 in
theorem v_rules_4_at (w0 : World) (hT : Lib.Utf8Tabs 0 1 w0) (B : List (List AV)) (Rw : List RowA) (L : List LoopA) (a0 : Vl) (r : Int) (h : v_rules_4_F a0 = some r) :
    ACalls Tryz.prog w0 127 [.agg (a0.cs)] ⟨B, Rw, L⟩ fun x st => x = .val (.int .i64 r) ∧ st = ⟨B, Rw, L⟩ := by
  rw [v_rules_4_F] at h
  refine ACalls.finP (acalls_of (rs := [.tmp 2]) Tryz.func127 rfl rfl Tryz.ntmps127 (enters_some Tryz.func127 rfl (by decide)) (Nat.le_of_ble_eq_true rfl) ?_)
  intro M0 W0 hN hNR hNL hcalm hu
  dsimp only at hN hNR hNL hcalm hu
  simp only [argsE]
  have hO := Owns.none Rw
  have hs := fact0
  refine rg [1] hs ?_
  refine rc 2 [1, 3] hs ?_; intro K2 hK2
  refine callK_p _ (v_size_at' w0 _ _ _ ((a0.text.size : Int)) 1024 5) (hv hs) ?_
  refine ne hs hK2 ?_
  clear hK2
  refine awp_mid (fun e st => ∃ (x3_k4 : Int) (X_k4 : List (List AV)) (rows_k4 : List RowA), e = [(3, true, .val (.int .i64 x3_k4))] ∧ st = ⟨B ++ ([a0.cs] ++ X_k4), rows_k4, L⟩ ∧ Owns Rw rows_k4 [] ∧ v_rules_4_k4  x3_k4 = some r) ?_ ?_
  · intro K5 hK5
    apply awp_seq; intro K6 hK6
    rcases Bool.eq_false_or_eq_true (decide ((v_size_F ((a0.text.size : Int)) 1024 5) = 0)) with hf7 | hf7
    · replace h := ite_tt h hf7
      obtain ⟨hg8, h⟩ := guard_some h
      apply awp_region 2 [3, 15]
      rw [evK_succ]; simp +decide only [go_sem, Nat.reduceAdd, hf7]
      have hs := And.intro hf7 hs
      (repeat' apply And.intro) <;> first | refine callK_p _ (sValid_at2 w0 _ _ _ hT a0.text hg8) (hv hs) ?_ | exact cl
      rw [evK_succ]; simp +decide only [go_sem, Nat.reduceAdd, hf7]
      (repeat' apply And.intro) <;> first | refine hK6 _ _ ?_ | exact cl
      clear hK6
      refine cnd h hs (fun hs h => ?_) (fun hs h => ?_)
      · skip
        have hb9 := hs.1
        apply awp_region 1 [3]
        rw [evK_succ]; simp +decide only [go_sem, Nat.reduceAdd, hf7, hb9]
        (repeat' apply And.intro) <;> first | refine hK5 _ _ ⟨16, ([]), Rw, ef hs, ef hs, hO, h⟩ | exact cl
      have hb9 := hs.1
      refine sk [3] hs hK5 ?_
      exact ⟨(v_size_F ((a0.text.size : Int)) 1024 5), ([]), Rw, ef hs, ef hs, hO, h⟩
    · replace h := ite_ff h hf7
      apply awp_region 2 [3, 15]
      rw [evK_succ]; simp +decide only [go_sem, Nat.reduceAdd, hf7]
      (repeat' apply And.intro) <;> first | refine callK_skip ?_ | exact cl
      rw [evK_succ]; simp +decide only [go_sem, Nat.reduceAdd, hf7]
      (repeat' apply And.intro) <;> first | refine hK6 _ _ ?_ | exact cl
      clear hK6
      have hs := And.intro hf7 hs
      refine awp_cond false ev (ef hs) (fun hb10 => by cases hb10) (fun hb10 => ?_)
      refine sk [3] hs hK5 ?_
      exact ⟨(v_size_F ((a0.text.size : Int)) 1024 5), ([]), Rw, ef hs, ef hs, hO, h⟩
  · clear h; rintro e st ⟨x3_k4, X_k4, rows_k4, rfl, rfl, hO, h⟩
    rw [v_rules_4_k4] at h
    refine td hN hNR hNL hcalm hO ?_
    refine rg [2] hs ?_
    exact rt h hs hcalm hO
end Go.Proofs.YtggimoedcamonaaGreatDoor
namespace Go.Proofs.YtggimoedcamonaaGreatDoor
open Go Go.RowKit Go.Ev
set_option linter.unusedSimpArgs false
set_option linter.unusedVariables false
def v_rules_5_F (a0 : Vl) : Int :=
  v_size_F ((a0.text.size : Int)) 1024 5
set_option maxRecDepth 100000 in
set_option maxHeartbeats 4000000 in
theorem v_rules_5_at (w0 : World) (B : List (List AV)) (Rw : List RowA) (L : List LoopA) (a0 : Vl) (r : Int) (h : v_rules_5_F a0 = r) :
    ACalls Tryz.prog w0 130 [.agg (a0.cs)] ⟨B, Rw, L⟩ fun x st => x = .val (.int .i64 r) ∧ st = ⟨B, Rw, L⟩ := by
  rw [v_rules_5_F] at h
  refine ACalls.finP (acalls_of (rs := [.tmp 2]) Tryz.func130 rfl rfl Tryz.ntmps130 (enters_some Tryz.func130 rfl (by decide)) (Nat.le_of_ble_eq_true rfl) ?_)
  intro M0 W0 hN hNR hNL hcalm hu
  dsimp only at hN hNR hNL hcalm hu
  simp only [argsE]
  have hO := Owns.none Rw
  have hs := fact0
  refine rg [1] hs ?_
  refine rc 2 [2] hs ?_; intro K2 hK2
  refine callK_p _ (v_size_at' w0 _ _ _ ((a0.text.size : Int)) 1024 5) (hv hs) ?_
  refine ne hs hK2 ?_
  clear hK2
  apply awp_ret; simp +decide only [go_sem, Nat.reduceAdd]
  subst h
  first | refine fin_q0 hcalm rfl hO.pre ev ⟨?_, rfl⟩ | refine fin_q hcalm rfl hO.pre ev ⟨?_, rfl⟩
  first | rfl | (simp +decide only [go_sem, Nat.reduceAdd]; done) | (simp +decide only [go_sem, Nat.reduceAdd, Vl.cs, Ty.cs]; done)
theorem v_rules_5_at' (w0 : World) (B : List (List AV)) (Rw : List RowA) (L : List LoopA) (a0 : Vl) :
    ACalls Tryz.prog w0 130 [.agg (a0.cs)] ⟨B, Rw, L⟩ fun x st => x = .val (.int .i64 (v_rules_5_F a0)) ∧ st = ⟨B, Rw, L⟩ := v_rules_5_at w0 B Rw L a0 _ rfl
end Go.Proofs.YtggimoedcamonaaGreatDoor
namespace Go.Proofs.YtggimoedcamonaaGreatDoor
open Go Go.RowKit Go.Ev
set_option linter.unusedSimpArgs false
set_option linter.unusedVariables false
def v_rules_6_F (a0 : Vl) : Int :=
  v_between_F a0.int ((-719162)) 2932896
set_option maxRecDepth 100000 in
set_option maxHeartbeats 4000000 in
theorem v_rules_6_at (w0 : World) (B : List (List AV)) (Rw : List RowA) (L : List LoopA) (a0 : Vl) (r : Int) (h : v_rules_6_F a0 = r) :
    ACalls Tryz.prog w0 131 [.agg (a0.cs)] ⟨B, Rw, L⟩ fun x st => x = .val (.int .i64 r) ∧ st = ⟨B, Rw, L⟩ := by
  rw [v_rules_6_F] at h
  refine ACalls.finP (acalls_of (rs := [.tmp 2]) Tryz.func131 rfl rfl Tryz.ntmps131 (enters_some Tryz.func131 rfl (by decide)) (Nat.le_of_ble_eq_true rfl) ?_)
  intro M0 W0 hN hNR hNL hcalm hu
  dsimp only at hN hNR hNL hcalm hu
  simp only [argsE]
  have hO := Owns.none Rw
  have hs := fact0
  refine rg [1] hs ?_
  refine rc 2 [2] hs ?_; intro K2 hK2
  refine callK_p _ (v_between_at' w0 _ _ _ a0.int ((-719162)) 2932896) (hv hs) ?_
  refine ne hs hK2 ?_
  clear hK2
  apply awp_ret; simp +decide only [go_sem, Nat.reduceAdd]
  subst h
  first | refine fin_q0 hcalm rfl hO.pre ev ⟨?_, rfl⟩ | refine fin_q hcalm rfl hO.pre ev ⟨?_, rfl⟩
  first | rfl | (simp +decide only [go_sem, Nat.reduceAdd]; done) | (simp +decide only [go_sem, Nat.reduceAdd, Vl.cs, Ty.cs]; done)
theorem v_rules_6_at' (w0 : World) (B : List (List AV)) (Rw : List RowA) (L : List LoopA) (a0 : Vl) :
    ACalls Tryz.prog w0 131 [.agg (a0.cs)] ⟨B, Rw, L⟩ fun x st => x = .val (.int .i64 (v_rules_6_F a0)) ∧ st = ⟨B, Rw, L⟩ := v_rules_6_at w0 B Rw L a0 _ rfl
end Go.Proofs.YtggimoedcamonaaGreatDoor
namespace Go.Proofs.YtggimoedcamonaaGreatDoor
open Go Go.RowKit Go.Ev
set_option linter.unusedSimpArgs false
set_option linter.unusedVariables false
def v_rules_7_F (a0 : Vl) : Int :=
  v_between_F a0.int ((-62135596800000)) 253402300799999
set_option maxRecDepth 100000 in
set_option maxHeartbeats 4000000 in
theorem v_rules_7_at (w0 : World) (B : List (List AV)) (Rw : List RowA) (L : List LoopA) (a0 : Vl) (r : Int) (h : v_rules_7_F a0 = r) :
    ACalls Tryz.prog w0 132 [.agg (a0.cs)] ⟨B, Rw, L⟩ fun x st => x = .val (.int .i64 r) ∧ st = ⟨B, Rw, L⟩ := by
  rw [v_rules_7_F] at h
  refine ACalls.finP (acalls_of (rs := [.tmp 2]) Tryz.func132 rfl rfl Tryz.ntmps132 (enters_some Tryz.func132 rfl (by decide)) (Nat.le_of_ble_eq_true rfl) ?_)
  intro M0 W0 hN hNR hNL hcalm hu
  dsimp only at hN hNR hNL hcalm hu
  simp only [argsE]
  have hO := Owns.none Rw
  have hs := fact0
  refine rg [1] hs ?_
  refine rc 2 [2] hs ?_; intro K2 hK2
  refine callK_p _ (v_between_at' w0 _ _ _ a0.int ((-62135596800000)) 253402300799999) (hv hs) ?_
  refine ne hs hK2 ?_
  clear hK2
  apply awp_ret; simp +decide only [go_sem, Nat.reduceAdd]
  subst h
  first | refine fin_q0 hcalm rfl hO.pre ev ⟨?_, rfl⟩ | refine fin_q hcalm rfl hO.pre ev ⟨?_, rfl⟩
  first | rfl | (simp +decide only [go_sem, Nat.reduceAdd]; done) | (simp +decide only [go_sem, Nat.reduceAdd, Vl.cs, Ty.cs]; done)
theorem v_rules_7_at' (w0 : World) (B : List (List AV)) (Rw : List RowA) (L : List LoopA) (a0 : Vl) :
    ACalls Tryz.prog w0 132 [.agg (a0.cs)] ⟨B, Rw, L⟩ fun x st => x = .val (.int .i64 (v_rules_7_F a0)) ∧ st = ⟨B, Rw, L⟩ := v_rules_7_at w0 B Rw L a0 _ rfl
end Go.Proofs.YtggimoedcamonaaGreatDoor
namespace Go.Proofs.YtggimoedcamonaaGreatDoor
open Go Go.RowKit Go.Ev
set_option linter.unusedSimpArgs false
set_option linter.unusedVariables false
def v_rules_8_F (a0 : Vl) : Int :=
  v_size_F ((a0.list.length : Int)) 256 9
set_option maxRecDepth 100000 in
set_option maxHeartbeats 4000000 in
theorem v_rules_8_at (w0 : World) (B : List (List AV)) (Rw : List RowA) (L : List LoopA) (a0 : Vl) (r : Int) (h : v_rules_8_F a0 = r) :
    ACalls Tryz.prog w0 133 [.agg (a0.cs)] ⟨B, Rw, L⟩ fun x st => x = .val (.int .i64 r) ∧ st = ⟨B, Rw, L⟩ := by
  rw [v_rules_8_F] at h
  refine ACalls.finP (acalls_of (rs := [.tmp 2]) Tryz.func133 rfl rfl Tryz.ntmps133 (enters_some Tryz.func133 rfl (by decide)) (Nat.le_of_ble_eq_true rfl) ?_)
  intro M0 W0 hN hNR hNL hcalm hu
  dsimp only at hN hNR hNL hcalm hu
  simp only [argsE]
  have hO := Owns.none Rw
  have hs := fact0
  refine rg [1] hs ?_
  refine rc 2 [2] hs ?_; intro K2 hK2
  refine callK_p _ (v_size_at' w0 _ _ _ ((a0.list.length : Int)) 256 9) (hv hs) ?_
  refine ne hs hK2 ?_
  clear hK2
  apply awp_ret; simp +decide only [go_sem, Nat.reduceAdd]
  subst h
  first | refine fin_q0 hcalm rfl hO.pre ev ⟨?_, rfl⟩ | refine fin_q hcalm rfl hO.pre ev ⟨?_, rfl⟩
  first | rfl | (simp +decide only [go_sem, Nat.reduceAdd]; done) | (simp +decide only [go_sem, Nat.reduceAdd, Vl.cs, Ty.cs]; done)
theorem v_rules_8_at' (w0 : World) (B : List (List AV)) (Rw : List RowA) (L : List LoopA) (a0 : Vl) :
    ACalls Tryz.prog w0 133 [.agg (a0.cs)] ⟨B, Rw, L⟩ fun x st => x = .val (.int .i64 (v_rules_8_F a0)) ∧ st = ⟨B, Rw, L⟩ := v_rules_8_at w0 B Rw L a0 _ rfl
end Go.Proofs.YtggimoedcamonaaGreatDoor
namespace Go.Proofs.YtggimoedcamonaaGreatDoor
open Go Go.RowKit Go.Ev
set_option linter.unusedSimpArgs false
set_option linter.unusedVariables false
def v_rules_9_k8 (n : Nat)  : Option Int :=
  some (0)
def v_rules_9_l11 (n : Nat) (a0 : Vl) : Nat → Int → Option Int
  | 0, _ => none
  | m + 1, x16_l11 =>
    if decide (x16_l11 < ((a0.fields.length : Int))) then
      (idx a0.fields x16_l11).bind fun x17 =>
      if x17.1.size ≤ maxLen then
        if !(nameB x17.1) then
          some (12)
        else
          if decide (0 < x16_l11) then
            if I64 (x16_l11 - 1) then
              (idx a0.fields (x16_l11 - 1)).bind fun x25 =>
              if sEq x17.1 x25.1 then
                some (7)
              else
                if I64 (x16_l11 - 1) then
                  if sLt x17.1 x25.1 then
                    some (24)
                  else
                    if I64 (x16_l11 + 1) then
                      (v_rules_9_l11 n a0 m) (x16_l11 + 1)
                    else none
                else none
            else none
          else
            if I64 (x16_l11 + 1) then
              (v_rules_9_l11 n a0 m) (x16_l11 + 1)
            else none
      else none
    else
      v_rules_9_k8 n 
def v_rules_9_F (n : Nat) (a0 : Vl) : Option Int :=
  if !(decide ((v_size_F ((a0.fields.length : Int)) 64 9) = 0)) then
    some (v_size_F ((a0.fields.length : Int)) 64 9)
  else
    v_rules_9_l11 n a0 n 0
set_option maxRecDepth 100000 in
set_option maxHeartbeats 4000000 in
theorem v_rules_9_at (w0 : World) (n : Nat) (B : List (List AV)) (Rw : List RowA) (L : List LoopA) (a0 : Vl) (r : Int) (h : v_rules_9_F n a0 = some r) :
    ACalls Tryz.prog w0 134 [.agg (a0.cs)] ⟨B, Rw, L⟩ fun x st => x = .val (.int .i64 r) ∧ st = ⟨B, Rw, L⟩ := by
  rw [v_rules_9_F] at h
  refine ACalls.finP (acalls_of (rs := [.tmp 2]) Tryz.func134 rfl rfl Tryz.ntmps134 (enters_some Tryz.func134 rfl (by decide)) (Nat.le_of_ble_eq_true rfl) ?_)
  intro M0 W0 hN hNR hNL hcalm hu
  dsimp only at hN hNR hNL hcalm hu
  simp only [argsE]
  have hO := Owns.none Rw
  have hs := fact0
  refine rg [1] hs ?_
  apply awp_seq; intro K2 hK2
  refine rc 2 [1, 3] hs ?_; intro K3 hK3
  refine callK_p _ (v_size_at' w0 _ _ _ ((a0.fields.length : Int)) 64 9) (hv hs) ?_
  refine ne hs hK3 ?_
  clear hK3
  refine rg [1, 3, 11] hs ?_
  refine cnd h hs (fun hs h => ?_) (fun hs h => ?_)
  · skip
    have hb5 := hs.1
    refine rg [2] hs ?_
    exact rt h hs hcalm hO
  have hb5 := hs.1
  refine sk [1] hs hK2 ?_
  clear hK2
  refine awp_mid (fun e st => ∃ (X_k8 : List (List AV)) (rows_k8 : List RowA), e = [] ∧ st = ⟨B ++ ([a0.cs] ++ X_k8), rows_k8, L⟩ ∧ Owns Rw rows_k8 [] ∧ v_rules_9_k8 n  = some r) ?_ ?_
  · intro K9 hK9
    refine rg [1, 14, 15, 16] hs ?_
    apply awp_block
    refine awp_loop (fun m e st => ∃ (x16_l11 : Int) (X_l11 : List (List AV)) (rows_l11 : List RowA), e = [(1, true, .box B.length 0), (14, true, .list (a0.fields.map avF) .none), (15, true, .val (.int .i64 ((a0.fields.length : Int)))), (16, true, .val (.int .i64 x16_l11))] ∧ st = ⟨B ++ ([a0.cs] ++ X_l11), rows_l11, L⟩ ∧ Owns Rw rows_l11 [] ∧ v_rules_9_l11 n a0 m x16_l11 = some r) n ⟨0, ([]), Rw, ef hs, ef hs, hO, h⟩ ?_
    rintro m_l11 e st ⟨x16_l11, X_l11, rows_l11, rfl, rfl, hO, h⟩ KR_l11 hKR_l11
    cases m_l11 with
    | zero => cases h
    | succ m_l11 =>
    rw [v_rules_9_l11] at h
    refine td hN hNR hNL hcalm hO ?_
    refine rg [1, 14, 15, 16, 17] hs ?_
    apply awp_seq; intro K13 hK13
    refine cnd h hs (fun hs h => ?_) (fun hs h => ?_)
    rotate_left
    · skip
      have hb14 := hs.1
      refine sx [] hs hK9 ?_
      exact ⟨([]), rows_l11, ef hs, ef hs, hO, h⟩
    have hb14 := hs.1
    refine sk [1, 14, 15, 16] hs hK13 ?_
    clear hK13
    apply awp_seq; intro K15 hK15
    apply awp_block
    obtain ⟨x17, hx17, h⟩ := bind_some h
    obtain ⟨hx17a, hx17b, hx17c⟩ := idx_some hx17
    have hx17d := getD_map (f := avF) hx17c
    have hs := And.intro hx17d hs
    refine rg [1, 4, 5, 14, 15, 16] hs ?_
    apply awp_block
    obtain ⟨hg19, h⟩ := guard_some h
    refine rc 2 [1, 4, 5, 14, 15, 16, 21] hs ?_; intro K18 hK18
    refine callK_p _ (IsName_at w0 _ _ _ x17.1 hg19) (hv hs) ?_
    refine ne hs hK18 ?_
    clear hK18
    refine cnd h hs (fun hs h => ?_) (fun hs h => ?_)
    · skip
      have hb20 := hs.1
      refine rg [2] hs ?_
      exact rt h hs hcalm hO
    have hb20 := hs.1
    apply awp_seq; intro K22 hK22
    rcases Bool.eq_false_or_eq_true (decide (0 < x16_l11)) with hf23 | hf23
    · replace h := ite_tt h hf23
      obtain ⟨hg24, h⟩ := guard_some h
      obtain ⟨x25, hx25, h⟩ := bind_some h
      obtain ⟨hx25a, hx25b, hx25c⟩ := idx_some hx25
      have hx25d := getD_map (f := avF) hx25c
      apply awp_draw mix 15 1 1 [1, 4, 5, 14, 15, 16, 26] (by kernel_rfl)
      rw [evK_succ]; simp +decide only [go_sem, Nat.reduceAdd, hb5, hb14, hx17d, hb20, hf23, hx25d]
      (repeat' with_reducible apply And.intro) <;> first | (rw [evK_succ]; simp +decide only [go_sem, Nat.reduceAdd, hb5, hb14, hx17d, hb20, hf23, hx25d]) | exact cl
      (repeat' apply And.intro) <;> first | refine hK22 _ _ ?_ | exact cl
      clear hK22
      have hs := And.intro hf23 hs
      have hs := And.intro hx25d hs
      refine cnd h hs (fun hs h => ?_) (fun hs h => ?_)
      · skip
        have hb26 := hs.1
        refine rg [2] hs ?_
        exact rt h hs hcalm hO
      have hb26 := hs.1
      obtain ⟨hg29, h⟩ := guard_some h
      refine dg 15 1 1 [1, 14, 15, 16, 41] hs mix ?_
      refine cnd h hs (fun hs h => ?_) (fun hs h => ?_)
      · skip
        have hb30 := hs.1
        refine rg [2] hs ?_
        exact rt h hs hcalm hO
      have hb30 := hs.1
      refine sk [1, 14, 15, 16] hs hK15 ?_
      clear hK15
      obtain ⟨hg32, h⟩ := guard_some h
      apply awp_region 1 [1, 14, 15, 16]
      rw [evK_succ]; simp +decide only [go_sem, Nat.reduceAdd, hb5, hb14, hx17d, hb20, hf23, hx25d, hb26, hb30]
      (repeat' apply And.intro) <;> first | refine hKR_l11 m_l11 _ _ (Nat.lt_succ_self m_l11) ⟨(x16_l11 + 1), ([.val (.string x17.1) :: (x17.2.cs)]), rows_l11, ef hs, ef hs, hO, h⟩ | exact cl
    · replace h := ite_ff h hf23
      apply awp_draw mix 15 1 1 [1, 4, 5, 14, 15, 16, 26] (by kernel_rfl)
      rw [evK_succ]; simp +decide only [go_sem, Nat.reduceAdd, hb5, hb14, hx17d, hb20, hf23]
      (repeat' with_reducible apply And.intro) <;> first | (rw [evK_succ]; simp +decide only [go_sem, Nat.reduceAdd, hb5, hb14, hx17d, hb20, hf23]) | exact cl
      (repeat' apply And.intro) <;> first | refine hK22 _ _ ?_ | exact cl
      clear hK22
      have hs := And.intro hf23 hs
      refine awp_cond false ev (ef hs) (fun hb33 => by cases hb33) (fun hb33 => ?_)
      refine dg 15 1 1 [1, 14, 15, 16, 41] hs mix ?_
      refine awp_cond false ev (ef hs) (fun hb35 => by cases hb35) (fun hb35 => ?_)
      refine sk [1, 14, 15, 16] hs hK15 ?_
      clear hK15
      obtain ⟨hg36, h⟩ := guard_some h
      apply awp_region 1 [1, 14, 15, 16]
      rw [evK_succ]; simp +decide only [go_sem, Nat.reduceAdd, hb5, hb14, hx17d, hb20, hf23]
      (repeat' apply And.intro) <;> first | refine hKR_l11 m_l11 _ _ (Nat.lt_succ_self m_l11) ⟨(x16_l11 + 1), ([.val (.string x17.1) :: (x17.2.cs)]), rows_l11, ef hs, ef hs, hO, h⟩ | exact cl
  · clear h; rintro e st ⟨X_k8, rows_k8, rfl, rfl, hO, h⟩
    rw [v_rules_9_k8] at h
    refine td hN hNR hNL hcalm hO ?_
    refine rg [2] hs ?_
    exact rt h hs hcalm hO
end Go.Proofs.YtggimoedcamonaaGreatDoor
namespace Go.Proofs.YtggimoedcamonaaGreatDoor
open Go Go.RowKit Go.Ev
set_option linter.unusedSimpArgs false
set_option linter.unusedVariables false
def v_uses_F (a0 : Vl) : Bool :=
  (((((((((decide (a0.kind = 1)) || (decide (a0.kind = 2))) || (decide (a0.kind = 6))) || (decide (a0.kind = 7))) || (decide (a0.kind = 3))) || (decide (a0.int = 0))) && ((decide (a0.kind = 3)) || (decide (a0.scale = 0)))) && ((((decide (a0.kind = 4)) || (decide (a0.kind = 5))) || (decide (a0.kind = 10))) || (sEq a0.text ((⟨#[]⟩ : ByteArray))))) && (((decide (a0.kind = 8)) || (decide (a0.kind = 10))) || (decide (((a0.list.length : Int)) = 0)))) && ((decide (a0.kind = 9)) || (decide (((a0.fields.length : Int)) = 0)))
set_option maxRecDepth 100000 in
set_option maxHeartbeats 4000000 in
theorem v_uses_at (w0 : World) (B : List (List AV)) (Rw : List RowA) (L : List LoopA) (a0 : Vl) (r : Bool) (h : v_uses_F a0 = r) :
    ACalls Tryz.prog w0 91 [.agg (a0.cs)] ⟨B, Rw, L⟩ fun x st => x = .val (.bool r) ∧ st = ⟨B, Rw, L⟩ := by
  rw [v_uses_F] at h
  refine ACalls.finP (acalls_of (rs := [.tmp 2]) Tryz.func91 rfl rfl Tryz.ntmps91 (enters_some Tryz.func91 rfl (by decide)) (Nat.le_of_ble_eq_true rfl) ?_)
  intro M0 W0 hN hNR hNL hcalm hu
  dsimp only at hN hNR hNL hcalm hu
  simp only [argsE]
  have hO := Owns.none Rw
  have hs := fact0
  refine rg [1] hs ?_
  refine rg [1, 3] hs ?_
  refine rg [1, 3, 4] hs ?_
  refine rg [1, 3, 4, 5] hs ?_
  refine rg [2] hs ?_
  apply awp_ret; simp +decide only [go_sem, Nat.reduceAdd]
  subst h
  first | refine fin_q0 hcalm rfl hO.pre ev ⟨?_, rfl⟩ | refine fin_q hcalm rfl hO.pre ev ⟨?_, rfl⟩
  first | rfl | (simp +decide only [go_sem, Nat.reduceAdd]; done) | (simp +decide only [go_sem, Nat.reduceAdd, Vl.cs, Ty.cs]; done)
theorem v_uses_at' (w0 : World) (B : List (List AV)) (Rw : List RowA) (L : List LoopA) (a0 : Vl) :
    ACalls Tryz.prog w0 91 [.agg (a0.cs)] ⟨B, Rw, L⟩ fun x st => x = .val (.bool (v_uses_F a0)) ∧ st = ⟨B, Rw, L⟩ := v_uses_at w0 B Rw L a0 _ rfl
end Go.Proofs.YtggimoedcamonaaGreatDoor
namespace Go.Proofs.YtggimoedcamonaaGreatDoor
open Go Go.RowKit Go.Ev
set_option linter.unusedSimpArgs false
set_option linter.unusedVariables false
def v_Check_r7 (n : Nat)  : List (Nat × Vl) → Int → Option Int
  | [], b3_r7 =>
    some (0)
  | p_r7 :: rest, b3_r7 =>
    if I64 (b3_r7 + 1) then
      if decide (4096 < (b3_r7 + 1)) then
        some (9)
      else
        if decide (8 < ((p_r7.1 : Int))) then
          some (23)
        else
          if v_IsNull_F p_r7.2 then
            some (19)
          else
            if (decide (p_r7.2.kind < 1)) || (decide (10 < p_r7.2.kind)) then
              some (11)
            else
              if !(v_uses_F p_r7.2) then
                some (3)
              else
                if decide (p_r7.2.kind = 0) then
                  none
                else
                  if decide (p_r7.2.kind = 1) then
                    if !(decide ((v_rules_1_F p_r7.2) = 0)) then
                      some (v_rules_1_F p_r7.2)
                    else
                      (v_Check_r7 n rest) (b3_r7 + 1)
                  else
                    if decide (p_r7.2.kind = 2) then
                      if !(decide ((v_rules_2_F p_r7.2) = 0)) then
                        some (v_rules_2_F p_r7.2)
                      else
                        (v_Check_r7 n rest) (b3_r7 + 1)
                    else
                      if decide (p_r7.2.kind = 3) then
                        (v_rules_3_F n p_r7.2).bind fun y42 =>
                        if !(decide (y42 = 0)) then
                          some (y42)
                        else
                          (v_Check_r7 n rest) (b3_r7 + 1)
                      else
                        if decide (p_r7.2.kind = 4) then
                          (v_rules_4_F p_r7.2).bind fun y48 =>
                          if !(decide (y48 = 0)) then
                            some (y48)
                          else
                            (v_Check_r7 n rest) (b3_r7 + 1)
                        else
                          if decide (p_r7.2.kind = 5) then
                            if !(decide ((v_rules_5_F p_r7.2) = 0)) then
                              some (v_rules_5_F p_r7.2)
                            else
                              (v_Check_r7 n rest) (b3_r7 + 1)
                          else
                            if decide (p_r7.2.kind = 6) then
                              if !(decide ((v_rules_6_F p_r7.2) = 0)) then
                                some (v_rules_6_F p_r7.2)
                              else
                                (v_Check_r7 n rest) (b3_r7 + 1)
                            else
                              if decide (p_r7.2.kind = 7) then
                                if !(decide ((v_rules_7_F p_r7.2) = 0)) then
                                  some (v_rules_7_F p_r7.2)
                                else
                                  (v_Check_r7 n rest) (b3_r7 + 1)
                              else
                                if decide (p_r7.2.kind = 8) then
                                  if !(decide ((v_rules_8_F p_r7.2) = 0)) then
                                    some (v_rules_8_F p_r7.2)
                                  else
                                    (v_Check_r7 n rest) (b3_r7 + 1)
                                else
                                  if decide (p_r7.2.kind = 9) then
                                    (v_rules_9_F n p_r7.2).bind fun y74 =>
                                    if !(decide (y74 = 0)) then
                                      some (y74)
                                    else
                                      (v_Check_r7 n rest) (b3_r7 + 1)
                                  else
                                    if decide (p_r7.2.kind = 10) then
                                      (v_rules_10_F p_r7.2).bind fun y80 =>
                                      if !(decide (y80 = 0)) then
                                        some (y80)
                                      else
                                        (v_Check_r7 n rest) (b3_r7 + 1)
                                    else
                                      none
    else none
def v_Check_F (n : Nat) (a0 : Vl) : Option Int :=
  if a0.size < 1048576 then
    v_Check_r7 n (preV 1 a0) 0
  else none
set_option maxRecDepth 100000 in
set_option maxHeartbeats 4000000 in
theorem v_Check_at (w0 : World) (hT : Lib.Utf8Tabs 0 1 w0) (n : Nat) (B : List (List AV)) (Rw : List RowA) (L : List LoopA) (a0 : Vl) (r : Int) (h : v_Check_F n a0 = some r) :
    ACalls Tryz.prog w0 48 [.agg (a0.cs)] ⟨B, Rw, L⟩ fun x st => x = .val (.int .i64 r) ∧ st = ⟨B, Rw, L⟩ := by
  rw [v_Check_F] at h
  refine ACalls.finP (acalls_of (rs := [.cell 2 29]) Tryz.func48 rfl rfl Tryz.ntmps48 (enters_some Tryz.func48 rfl (by decide)) (Nat.le_of_ble_eq_true rfl) ?_)
  intro M0 W0 hN hNR hNL hcalm hu
  dsimp only at hN hNR hNL hcalm hu
  simp only [argsE]
  have hO := Owns.none Rw
  have hs := fact0
  refine rg [1, 2] hs ?_
  apply awp_seq; intro K2 hK2
  apply awp_region 2 [1, 2, 3]
  rw [evK_succ]; simp +decide only [go_sem, Nat.reduceAdd, rulesA]
  (repeat' apply And.intro) <;> first | refine callK_p _ (rules_at w0 _ _ _ ) (by first | rfl | (simp +decide only [go_sem, Nat.reduceAdd, rulesA]; done) | (simp +decide only [go_sem, Nat.reduceAdd, Vl.cs, Ty.cs, rulesA]; done)) ?_ | exact cl
  rw [evK_succ]; simp +decide only [go_sem, Nat.reduceAdd, rulesA]
  (repeat' apply And.intro) <;> first | refine hK2 _ _ ?_ | exact cl
  clear hK2
  refine rg [1, 2, 3, 4] hs ?_
  apply awp_seq; intro K4 hK4
  refine rc 2 [2, 3, 4, 10] hs ?_; intro K5 hK5
  refine callK_pp _ (preorder_at w0 _ _ _ a0) (hv hs) ?_; rintro _ _ ⟨rfl, rfl⟩
  refine ne hs hK5 ?_
  clear hK5
  apply awp_block
  obtain ⟨hg6, h⟩ := guard_some h
  refine awp_range (itemsV a0) (fun st => st.boxes[(B.length + 4)]? = some a0.cs) (fun i st => ∃ (b3_r7 : Int) (rows_r7 : List RowA), st = ⟨B ++ ([a0.cs, [.val (.int .i64 0)], [.val .nilFunc, .clo 122 [], .clo 124 [], .clo 125 [], .clo 127 [], .clo 130 [], .clo 131 [], .clo 132 [], .clo 133 [], .clo 134 [], .clo 135 []], [.val (.int .i64 b3_r7)], a0.cs]), rows_r7, L⟩ ∧ Owns Rw rows_r7 [] ∧ v_Check_r7 n ((preV 1 a0).drop i) b3_r7 = some r) (fun ex st => ex = .ret ∧ ∃ (z0 : List AV) (z2 : List AV) (z3 : List AV) (z4 : List AV) (rows : List RowA), st = ⟨B ++ [z0, [.val (.int .i64 r)], z2, z3, z4], rows, L⟩ ∧ Owns Rw rows []) ev ev (preorder_iter w0 a0 hg6 _) (fun x hx => itemsV_two a0 x hx) (by decide) ?_ ⟨0, Rw, ef hs, hO, h⟩ (fun _ _ h => .inl h.1) ?_ ?_ ?_
  · rintro i st la ⟨b3_r7, rows_r7, rfl, hO, h⟩ _ _; simp +decide [St.push]
  · rintro i s1 ⟨XB, XR, XL⟩ x M1 W1 l la la' hX hI hlike hloops hx hra K hK
    obtain ⟨p_r7, hpi, rfl, hi⟩ := itemsV_get a0 i x hx
    (try simp only at hX)
    subst hX
    obtain ⟨b3_r7, rows_r7, rfl, hO, h⟩ := hI
    rw [drop_get hpi, v_Check_r7] at h
    have hra0_r7 := hO
    simp only [St.ext, St.push, List.append_assoc, List.append_nil]
    refine rg [2, 3, 4, 5, 12] hs ?_
    apply awp_region 1 [2, 3, 4, 5, 6]
    rw [evK_succ]; simp +decide only [go_sem, Nat.reduceAdd]
    (repeat' apply And.intro) <;> first | refine hK _ _ (by simp [St.ext, St.push]) (fun KQ hKQ => ?_) | exact cl
    clear hK
    dsimp only [St.ext, St.push]
    apply awp_block
    obtain ⟨hg10, h⟩ := guard_some h
    refine rg [2, 3, 4, 5, 6] hs ?_
    apply awp_seq; intro K11 hK11
    apply awp_block
    refine rg [2, 3, 5, 6, 15] hs ?_
    refine cnd h hs (fun hs h => ?_) (fun hs h => ?_)
    · skip
      have hb13 := hs.1
      refine rg [2] hs ?_
      apply awp_ret; simp +decide only [go_sem, Nat.reduceAdd, hb13]
      have hgt := Option.some.inj h; subst hgt
      refine hKQ _ _ _ ⟨⟨B ++ [a0.cs, [.val (.int .i64 9)], [.val .nilFunc, .clo 122 [], .clo 124 [], .clo 125 [], .clo 127 [], .clo 130 [], .clo 131 [], .clo 132 [], .clo 133 [], .clo 134 [], .clo 135 []], [.val (.int .i64 (b3_r7 + 1))], a0.cs], rows_r7, L⟩, [p_r7.2.cs], by first | rfl | (simp only [List.append_assoc, List.append_nil, List.cons_append, List.nil_append]; done), ⟨by simp, by first | exact Nat.le_refl _ | (have := hO.len; simp; omega), rfl⟩, rfl, ⟨rfl, _, _, _, _, rows_r7, ef hs, hO.sub (List.nil_sublist _)⟩, ?_⟩
      exact .inr (round_calm hra hra0_r7 hO rfl (by have := hO.len; have := hra0_r7.len; first | exact Nat.le_refl _ | omega) (by simp only [List.append_assoc, List.cons_append, List.nil_append]) (by (simp +decide only [go_sem, Nat.reduceAdd]) <;> (try (repeat' apply And.intro)) <;> first | omega | assumption))
    have hb13 := hs.1
    refine rg [2, 3, 6, 18] hs ?_
    refine cnd h hs (fun hs h => ?_) (fun hs h => ?_)
    · skip
      have hb16 := hs.1
      refine rg [2] hs ?_
      apply awp_ret; simp +decide only [go_sem, Nat.reduceAdd, hb13, hb16]
      have hgt := Option.some.inj h; subst hgt
      refine hKQ _ _ _ ⟨⟨B ++ [a0.cs, [.val (.int .i64 23)], [.val .nilFunc, .clo 122 [], .clo 124 [], .clo 125 [], .clo 127 [], .clo 130 [], .clo 131 [], .clo 132 [], .clo 133 [], .clo 134 [], .clo 135 []], [.val (.int .i64 (b3_r7 + 1))], a0.cs], rows_r7, L⟩, [p_r7.2.cs], by first | rfl | (simp only [List.append_assoc, List.append_nil, List.cons_append, List.nil_append]; done), ⟨by simp, by first | exact Nat.le_refl _ | (have := hO.len; simp; omega), rfl⟩, rfl, ⟨rfl, _, _, _, _, rows_r7, ef hs, hO.sub (List.nil_sublist _)⟩, ?_⟩
      exact .inr (round_calm hra hra0_r7 hO rfl (by have := hO.len; have := hra0_r7.len; first | exact Nat.le_refl _ | omega) (by simp only [List.append_assoc, List.cons_append, List.nil_append]) (by (simp +decide only [go_sem, Nat.reduceAdd]) <;> (try (repeat' apply And.intro)) <;> first | omega | assumption))
    have hb16 := hs.1
    refine rc 2 [2, 3, 6, 21] hs ?_; intro K18 hK18
    refine callK_p _ (v_IsNull_at' w0 _ _ _ p_r7.2) (hv hs) ?_
    refine ne hs hK18 ?_
    clear hK18
    refine cnd h hs (fun hs h => ?_) (fun hs h => ?_)
    · skip
      have hb19 := hs.1
      refine rg [2] hs ?_
      apply awp_ret; simp +decide only [go_sem, Nat.reduceAdd, hb13, hb16, hb19]
      have hgt := Option.some.inj h; subst hgt
      refine hKQ _ _ _ ⟨⟨B ++ [a0.cs, [.val (.int .i64 19)], [.val .nilFunc, .clo 122 [], .clo 124 [], .clo 125 [], .clo 127 [], .clo 130 [], .clo 131 [], .clo 132 [], .clo 133 [], .clo 134 [], .clo 135 []], [.val (.int .i64 (b3_r7 + 1))], a0.cs], rows_r7, L⟩, [p_r7.2.cs], by first | rfl | (simp only [List.append_assoc, List.append_nil, List.cons_append, List.nil_append]; done), ⟨by simp, by first | exact Nat.le_refl _ | (have := hO.len; simp; omega), rfl⟩, rfl, ⟨rfl, _, _, _, _, rows_r7, ef hs, hO.sub (List.nil_sublist _)⟩, ?_⟩
      exact .inr (round_calm hra hra0_r7 hO rfl (by have := hO.len; have := hra0_r7.len; first | exact Nat.le_refl _ | omega) (by simp only [List.append_assoc, List.cons_append, List.nil_append]) (by (simp +decide only [go_sem, Nat.reduceAdd]) <;> (try (repeat' apply And.intro)) <;> first | omega | assumption))
    have hb19 := hs.1
    refine rg [2, 3, 6, 24] hs ?_
    refine cnd h hs (fun hs h => ?_) (fun hs h => ?_)
    · skip
      have hb22 := hs.1
      refine rg [2] hs ?_
      apply awp_ret; simp +decide only [go_sem, Nat.reduceAdd, hb13, hb16, hb19, hb22]
      have hgt := Option.some.inj h; subst hgt
      refine hKQ _ _ _ ⟨⟨B ++ [a0.cs, [.val (.int .i64 11)], [.val .nilFunc, .clo 122 [], .clo 124 [], .clo 125 [], .clo 127 [], .clo 130 [], .clo 131 [], .clo 132 [], .clo 133 [], .clo 134 [], .clo 135 []], [.val (.int .i64 (b3_r7 + 1))], a0.cs], rows_r7, L⟩, [p_r7.2.cs], by first | rfl | (simp only [List.append_assoc, List.append_nil, List.cons_append, List.nil_append]; done), ⟨by simp, by first | exact Nat.le_refl _ | (have := hO.len; simp; omega), rfl⟩, rfl, ⟨rfl, _, _, _, _, rows_r7, ef hs, hO.sub (List.nil_sublist _)⟩, ?_⟩
      exact .inr (round_calm hra hra0_r7 hO rfl (by have := hO.len; have := hra0_r7.len; first | exact Nat.le_refl _ | omega) (by simp only [List.append_assoc, List.cons_append, List.nil_append]) (by (simp +decide only [go_sem, Nat.reduceAdd]) <;> (try (repeat' apply And.intro)) <;> first | omega | assumption))
    have hb22 := hs.1
    refine rc 2 [2, 3, 6, 33] hs ?_; intro K24 hK24
    refine callK_p _ (v_uses_at' w0 _ _ _ p_r7.2) (hv hs) ?_
    refine ne hs hK24 ?_
    clear hK24
    refine cnd h hs (fun hs h => ?_) (fun hs h => ?_)
    · skip
      have hb25 := hs.1
      refine rg [2] hs ?_
      apply awp_ret; simp +decide only [go_sem, Nat.reduceAdd, hb13, hb16, hb19, hb22, hb25]
      have hgt := Option.some.inj h; subst hgt
      refine hKQ _ _ _ ⟨⟨B ++ [a0.cs, [.val (.int .i64 3)], [.val .nilFunc, .clo 122 [], .clo 124 [], .clo 125 [], .clo 127 [], .clo 130 [], .clo 131 [], .clo 132 [], .clo 133 [], .clo 134 [], .clo 135 []], [.val (.int .i64 (b3_r7 + 1))], a0.cs], rows_r7, L⟩, [p_r7.2.cs], by first | rfl | (simp only [List.append_assoc, List.append_nil, List.cons_append, List.nil_append]; done), ⟨by simp, by first | exact Nat.le_refl _ | (have := hO.len; simp; omega), rfl⟩, rfl, ⟨rfl, _, _, _, _, rows_r7, ef hs, hO.sub (List.nil_sublist _)⟩, ?_⟩
      exact .inr (round_calm hra hra0_r7 hO rfl (by have := hO.len; have := hra0_r7.len; first | exact Nat.le_refl _ | omega) (by simp only [List.append_assoc, List.cons_append, List.nil_append]) (by (simp +decide only [go_sem, Nat.reduceAdd]) <;> (try (repeat' apply And.intro)) <;> first | omega | assumption))
    have hb25 := hs.1
    refine sk [2, 3, 6] hs hK11 ?_
    clear hK11
    apply awp_seq; intro K27 hK27
    rcases Bool.eq_false_or_eq_true (decide (p_r7.2.kind = 0)) with hf28 | hf28
    · replace h := ite_tt h hf28
      have hk29 : p_r7.2.kind = 0 := of_decide_eq_true hf28
      cases h
    · replace h := ite_ff h hf28
      rcases Bool.eq_false_or_eq_true (decide (p_r7.2.kind = 1)) with hf30 | hf30
      · replace h := ite_tt h hf30
        have hk31 : p_r7.2.kind = 1 := of_decide_eq_true hf30
        apply awp_draw mix 7 2 1 [2, 7] (by kernel_rfl)
        rw [evK_succ]; simp +decide only [go_sem, Nat.reduceAdd, hb13, hb16, hb19, hb22, hb25, hf28, hf30, hk31]
        have hs := And.intro hf28 hs
        have hs := And.intro hf30 hs
        have hs := And.intro hk31 hs
        (repeat' apply And.intro) <;> first | refine callK_p _ (v_rules_1_at' w0 _ _ _ p_r7.2) (hv hs) ?_ | exact cl
        rw [evK_succ]; simp +decide only [go_sem, Nat.reduceAdd, hb13, hb16, hb19, hb22, hb25, hf28, hf30, hk31]
        (repeat' with_reducible apply And.intro) <;> first | (rw [evK_succ]; simp +decide only [go_sem, Nat.reduceAdd, hb13, hb16, hb19, hb22, hb25, hf28, hf30, hk31]) | exact cl
        (repeat' apply And.intro) <;> first | refine hK27 _ _ ?_ | exact cl
        clear hK27
        refine rg [2, 7, 44] hs ?_
        refine cnd h hs (fun hs h => ?_) (fun hs h => ?_)
        · skip
          have hb33 := hs.1
          refine rg [2] hs ?_
          apply awp_ret; simp +decide only [go_sem, Nat.reduceAdd, hb13, hb16, hb19, hb22, hb25, hf28, hf30, hk31, hb33]
          have hgt := Option.some.inj h; subst hgt
          refine hKQ _ _ _ ⟨⟨B ++ [a0.cs, [.val (.int .i64 (v_rules_1_F p_r7.2))], [.val .nilFunc, .clo 122 [], .clo 124 [], .clo 125 [], .clo 127 [], .clo 130 [], .clo 131 [], .clo 132 [], .clo 133 [], .clo 134 [], .clo 135 []], [.val (.int .i64 (b3_r7 + 1))], a0.cs], rows_r7, L⟩, [p_r7.2.cs], by first | rfl | (simp only [List.append_assoc, List.append_nil, List.cons_append, List.nil_append]; done), ⟨by simp, by first | exact Nat.le_refl _ | (have := hO.len; simp; omega), rfl⟩, rfl, ⟨rfl, _, _, _, _, rows_r7, ef hs, hO.sub (List.nil_sublist _)⟩, ?_⟩
          exact .inr (round_calm hra hra0_r7 hO rfl (by have := hO.len; have := hra0_r7.len; first | exact Nat.le_refl _ | omega) (by simp only [List.append_assoc, List.cons_append, List.nil_append]) (by (simp +decide only [go_sem, Nat.reduceAdd]) <;> (try (repeat' apply And.intro)) <;> first | omega | assumption))
        have hb33 := hs.1
        refine awp_sub (keepL [] _) ?_ (sub_keepL _ _)
        apply awp_skip; simp +decide only [go_sem, Nat.reduceAdd]
        (repeat' apply And.intro) <;> first | refine hKQ _ _ _ ⟨⟨B ++ [a0.cs, [.val (.int .i64 0)], [.val .nilFunc, .clo 122 [], .clo 124 [], .clo 125 [], .clo 127 [], .clo 130 [], .clo 131 [], .clo 132 [], .clo 133 [], .clo 134 [], .clo 135 []], [.val (.int .i64 (b3_r7 + 1))], a0.cs], rows_r7, L⟩, [p_r7.2.cs], by first | rfl | (simp only [List.append_assoc, List.append_nil, List.cons_append, List.nil_append]; done), ⟨by simp, by first | exact Nat.le_refl _ | (have := hO.len; simp; omega), rfl⟩, rfl, ⟨(b3_r7 + 1), rows_r7, ef hs, hO, h⟩, ?_⟩ | exact cl
        exact .inr (round_calm hra hra0_r7 hO rfl (by have := hO.len; have := hra0_r7.len; first | exact Nat.le_refl _ | omega) (by simp only [List.append_assoc, List.cons_append, List.nil_append]) (by (simp +decide only [go_sem, Nat.reduceAdd]) <;> (try (repeat' apply And.intro)) <;> first | omega | assumption))
      · replace h := ite_ff h hf30
        rcases Bool.eq_false_or_eq_true (decide (p_r7.2.kind = 2)) with hf35 | hf35
        · replace h := ite_tt h hf35
          have hk36 : p_r7.2.kind = 2 := of_decide_eq_true hf35
          apply awp_draw mix 7 2 1 [2, 7] (by kernel_rfl)
          rw [evK_succ]; simp +decide only [go_sem, Nat.reduceAdd, hb13, hb16, hb19, hb22, hb25, hf28, hf30, hf35, hk36]
          have hs := And.intro hf28 hs
          have hs := And.intro hf30 hs
          have hs := And.intro hf35 hs
          have hs := And.intro hk36 hs
          (repeat' apply And.intro) <;> first | refine callK_p _ (v_rules_2_at' w0 _ _ _ p_r7.2) (hv hs) ?_ | exact cl
          rw [evK_succ]; simp +decide only [go_sem, Nat.reduceAdd, hb13, hb16, hb19, hb22, hb25, hf28, hf30, hf35, hk36]
          (repeat' with_reducible apply And.intro) <;> first | (rw [evK_succ]; simp +decide only [go_sem, Nat.reduceAdd, hb13, hb16, hb19, hb22, hb25, hf28, hf30, hf35, hk36]) | exact cl
          (repeat' apply And.intro) <;> first | refine hK27 _ _ ?_ | exact cl
          clear hK27
          refine rg [2, 7, 44] hs ?_
          refine cnd h hs (fun hs h => ?_) (fun hs h => ?_)
          · skip
            have hb38 := hs.1
            refine rg [2] hs ?_
            apply awp_ret; simp +decide only [go_sem, Nat.reduceAdd, hb13, hb16, hb19, hb22, hb25, hf28, hf30, hf35, hk36, hb38]
            have hgt := Option.some.inj h; subst hgt
            refine hKQ _ _ _ ⟨⟨B ++ [a0.cs, [.val (.int .i64 (v_rules_2_F p_r7.2))], [.val .nilFunc, .clo 122 [], .clo 124 [], .clo 125 [], .clo 127 [], .clo 130 [], .clo 131 [], .clo 132 [], .clo 133 [], .clo 134 [], .clo 135 []], [.val (.int .i64 (b3_r7 + 1))], a0.cs], rows_r7, L⟩, [p_r7.2.cs], by first | rfl | (simp only [List.append_assoc, List.append_nil, List.cons_append, List.nil_append]; done), ⟨by simp, by first | exact Nat.le_refl _ | (have := hO.len; simp; omega), rfl⟩, rfl, ⟨rfl, _, _, _, _, rows_r7, ef hs, hO.sub (List.nil_sublist _)⟩, ?_⟩
            exact .inr (round_calm hra hra0_r7 hO rfl (by have := hO.len; have := hra0_r7.len; first | exact Nat.le_refl _ | omega) (by simp only [List.append_assoc, List.cons_append, List.nil_append]) (by (simp +decide only [go_sem, Nat.reduceAdd]) <;> (try (repeat' apply And.intro)) <;> first | omega | assumption))
          have hb38 := hs.1
          refine awp_sub (keepL [] _) ?_ (sub_keepL _ _)
          apply awp_skip; simp +decide only [go_sem, Nat.reduceAdd]
          (repeat' apply And.intro) <;> first | refine hKQ _ _ _ ⟨⟨B ++ [a0.cs, [.val (.int .i64 0)], [.val .nilFunc, .clo 122 [], .clo 124 [], .clo 125 [], .clo 127 [], .clo 130 [], .clo 131 [], .clo 132 [], .clo 133 [], .clo 134 [], .clo 135 []], [.val (.int .i64 (b3_r7 + 1))], a0.cs], rows_r7, L⟩, [p_r7.2.cs], by first | rfl | (simp only [List.append_assoc, List.append_nil, List.cons_append, List.nil_append]; done), ⟨by simp, by first | exact Nat.le_refl _ | (have := hO.len; simp; omega), rfl⟩, rfl, ⟨(b3_r7 + 1), rows_r7, ef hs, hO, h⟩, ?_⟩ | exact cl
          exact .inr (round_calm hra hra0_r7 hO rfl (by have := hO.len; have := hra0_r7.len; first | exact Nat.le_refl _ | omega) (by simp only [List.append_assoc, List.cons_append, List.nil_append]) (by (simp +decide only [go_sem, Nat.reduceAdd]) <;> (try (repeat' apply And.intro)) <;> first | omega | assumption))
        · replace h := ite_ff h hf35
          rcases Bool.eq_false_or_eq_true (decide (p_r7.2.kind = 3)) with hf40 | hf40
          · replace h := ite_tt h hf40
            have hk41 : p_r7.2.kind = 3 := of_decide_eq_true hf40
            obtain ⟨y42, hy42, h⟩ := bind_some h
            apply awp_draw mix 7 2 1 [2, 7] (by kernel_rfl)
            rw [evK_succ]; simp +decide only [go_sem, Nat.reduceAdd, hb13, hb16, hb19, hb22, hb25, hf28, hf30, hf35, hf40, hk41]
            have hs := And.intro hf28 hs
            have hs := And.intro hf30 hs
            have hs := And.intro hf35 hs
            have hs := And.intro hf40 hs
            have hs := And.intro hk41 hs
            (repeat' apply And.intro) <;> first | refine callK_p _ (v_rules_3_at w0 n _ _ _ p_r7.2 _ hy42) (hv hs) ?_ | exact cl
            rw [evK_succ]; simp +decide only [go_sem, Nat.reduceAdd, hb13, hb16, hb19, hb22, hb25, hf28, hf30, hf35, hf40, hk41]
            (repeat' with_reducible apply And.intro) <;> first | (rw [evK_succ]; simp +decide only [go_sem, Nat.reduceAdd, hb13, hb16, hb19, hb22, hb25, hf28, hf30, hf35, hf40, hk41]) | exact cl
            (repeat' apply And.intro) <;> first | refine hK27 _ _ ?_ | exact cl
            clear hK27
            refine rg [2, 7, 44] hs ?_
            refine cnd h hs (fun hs h => ?_) (fun hs h => ?_)
            · skip
              have hb44 := hs.1
              refine rg [2] hs ?_
              apply awp_ret; simp +decide only [go_sem, Nat.reduceAdd, hb13, hb16, hb19, hb22, hb25, hf28, hf30, hf35, hf40, hk41, hb44]
              have hgt := Option.some.inj h; subst hgt
              refine hKQ _ _ _ ⟨⟨B ++ [a0.cs, [.val (.int .i64 y42)], [.val .nilFunc, .clo 122 [], .clo 124 [], .clo 125 [], .clo 127 [], .clo 130 [], .clo 131 [], .clo 132 [], .clo 133 [], .clo 134 [], .clo 135 []], [.val (.int .i64 (b3_r7 + 1))], a0.cs], rows_r7, L⟩, [p_r7.2.cs], by first | rfl | (simp only [List.append_assoc, List.append_nil, List.cons_append, List.nil_append]; done), ⟨by simp, by first | exact Nat.le_refl _ | (have := hO.len; simp; omega), rfl⟩, rfl, ⟨rfl, _, _, _, _, rows_r7, ef hs, hO.sub (List.nil_sublist _)⟩, ?_⟩
              exact .inr (round_calm hra hra0_r7 hO rfl (by have := hO.len; have := hra0_r7.len; first | exact Nat.le_refl _ | omega) (by simp only [List.append_assoc, List.cons_append, List.nil_append]) (by (simp +decide only [go_sem, Nat.reduceAdd]) <;> (try (repeat' apply And.intro)) <;> first | omega | assumption))
            have hb44 := hs.1
            refine awp_sub (keepL [] _) ?_ (sub_keepL _ _)
            apply awp_skip; simp +decide only [go_sem, Nat.reduceAdd]
            (repeat' apply And.intro) <;> first | refine hKQ _ _ _ ⟨⟨B ++ [a0.cs, [.val (.int .i64 0)], [.val .nilFunc, .clo 122 [], .clo 124 [], .clo 125 [], .clo 127 [], .clo 130 [], .clo 131 [], .clo 132 [], .clo 133 [], .clo 134 [], .clo 135 []], [.val (.int .i64 (b3_r7 + 1))], a0.cs], rows_r7, L⟩, [p_r7.2.cs], by first | rfl | (simp only [List.append_assoc, List.append_nil, List.cons_append, List.nil_append]; done), ⟨by simp, by first | exact Nat.le_refl _ | (have := hO.len; simp; omega), rfl⟩, rfl, ⟨(b3_r7 + 1), rows_r7, ef hs, hO, h⟩, ?_⟩ | exact cl
            exact .inr (round_calm hra hra0_r7 hO rfl (by have := hO.len; have := hra0_r7.len; first | exact Nat.le_refl _ | omega) (by simp only [List.append_assoc, List.cons_append, List.nil_append]) (by (simp +decide only [go_sem, Nat.reduceAdd]) <;> (try (repeat' apply And.intro)) <;> first | omega | assumption))
          · replace h := ite_ff h hf40
            rcases Bool.eq_false_or_eq_true (decide (p_r7.2.kind = 4)) with hf46 | hf46
            · replace h := ite_tt h hf46
              have hk47 : p_r7.2.kind = 4 := of_decide_eq_true hf46
              obtain ⟨y48, hy48, h⟩ := bind_some h
              apply awp_draw mix 7 2 1 [2, 7] (by kernel_rfl)
              rw [evK_succ]; simp +decide only [go_sem, Nat.reduceAdd, hb13, hb16, hb19, hb22, hb25, hf28, hf30, hf35, hf40, hf46, hk47]
              have hs := And.intro hf28 hs
              have hs := And.intro hf30 hs
              have hs := And.intro hf35 hs
              have hs := And.intro hf40 hs
              have hs := And.intro hf46 hs
              have hs := And.intro hk47 hs
              (repeat' apply And.intro) <;> first | refine callK_p _ (v_rules_4_at w0 hT _ _ _ p_r7.2 _ hy48) (hv hs) ?_ | exact cl
              rw [evK_succ]; simp +decide only [go_sem, Nat.reduceAdd, hb13, hb16, hb19, hb22, hb25, hf28, hf30, hf35, hf40, hf46, hk47]
              (repeat' with_reducible apply And.intro) <;> first | (rw [evK_succ]; simp +decide only [go_sem, Nat.reduceAdd, hb13, hb16, hb19, hb22, hb25, hf28, hf30, hf35, hf40, hf46, hk47]) | exact cl
              (repeat' apply And.intro) <;> first | refine hK27 _ _ ?_ | exact cl
              clear hK27
              refine rg [2, 7, 44] hs ?_
              refine cnd h hs (fun hs h => ?_) (fun hs h => ?_)
              · skip
                have hb50 := hs.1
                refine rg [2] hs ?_
                apply awp_ret; simp +decide only [go_sem, Nat.reduceAdd, hb13, hb16, hb19, hb22, hb25, hf28, hf30, hf35, hf40, hf46, hk47, hb50]
                have hgt := Option.some.inj h; subst hgt
                refine hKQ _ _ _ ⟨⟨B ++ [a0.cs, [.val (.int .i64 y48)], [.val .nilFunc, .clo 122 [], .clo 124 [], .clo 125 [], .clo 127 [], .clo 130 [], .clo 131 [], .clo 132 [], .clo 133 [], .clo 134 [], .clo 135 []], [.val (.int .i64 (b3_r7 + 1))], a0.cs], rows_r7, L⟩, [p_r7.2.cs], by first | rfl | (simp only [List.append_assoc, List.append_nil, List.cons_append, List.nil_append]; done), ⟨by simp, by first | exact Nat.le_refl _ | (have := hO.len; simp; omega), rfl⟩, rfl, ⟨rfl, _, _, _, _, rows_r7, ef hs, hO.sub (List.nil_sublist _)⟩, ?_⟩
                exact .inr (round_calm hra hra0_r7 hO rfl (by have := hO.len; have := hra0_r7.len; first | exact Nat.le_refl _ | omega) (by simp only [List.append_assoc, List.cons_append, List.nil_append]) (by (simp +decide only [go_sem, Nat.reduceAdd]) <;> (try (repeat' apply And.intro)) <;> first | omega | assumption))
              have hb50 := hs.1
              refine awp_sub (keepL [] _) ?_ (sub_keepL _ _)
              apply awp_skip; simp +decide only [go_sem, Nat.reduceAdd]
              (repeat' apply And.intro) <;> first | refine hKQ _ _ _ ⟨⟨B ++ [a0.cs, [.val (.int .i64 0)], [.val .nilFunc, .clo 122 [], .clo 124 [], .clo 125 [], .clo 127 [], .clo 130 [], .clo 131 [], .clo 132 [], .clo 133 [], .clo 134 [], .clo 135 []], [.val (.int .i64 (b3_r7 + 1))], a0.cs], rows_r7, L⟩, [p_r7.2.cs], by first | rfl | (simp only [List.append_assoc, List.append_nil, List.cons_append, List.nil_append]; done), ⟨by simp, by first | exact Nat.le_refl _ | (have := hO.len; simp; omega), rfl⟩, rfl, ⟨(b3_r7 + 1), rows_r7, ef hs, hO, h⟩, ?_⟩ | exact cl
              exact .inr (round_calm hra hra0_r7 hO rfl (by have := hO.len; have := hra0_r7.len; first | exact Nat.le_refl _ | omega) (by simp only [List.append_assoc, List.cons_append, List.nil_append]) (by (simp +decide only [go_sem, Nat.reduceAdd]) <;> (try (repeat' apply And.intro)) <;> first | omega | assumption))
            · replace h := ite_ff h hf46
              rcases Bool.eq_false_or_eq_true (decide (p_r7.2.kind = 5)) with hf52 | hf52
              · replace h := ite_tt h hf52
                have hk53 : p_r7.2.kind = 5 := of_decide_eq_true hf52
                apply awp_draw mix 7 2 1 [2, 7] (by kernel_rfl)
                rw [evK_succ]; simp +decide only [go_sem, Nat.reduceAdd, hb13, hb16, hb19, hb22, hb25, hf28, hf30, hf35, hf40, hf46, hf52, hk53]
                have hs := And.intro hf28 hs
                have hs := And.intro hf30 hs
                have hs := And.intro hf35 hs
                have hs := And.intro hf40 hs
                have hs := And.intro hf46 hs
                have hs := And.intro hf52 hs
                have hs := And.intro hk53 hs
                (repeat' apply And.intro) <;> first | refine callK_p _ (v_rules_5_at' w0 _ _ _ p_r7.2) (hv hs) ?_ | exact cl
                rw [evK_succ]; simp +decide only [go_sem, Nat.reduceAdd, hb13, hb16, hb19, hb22, hb25, hf28, hf30, hf35, hf40, hf46, hf52, hk53]
                (repeat' with_reducible apply And.intro) <;> first | (rw [evK_succ]; simp +decide only [go_sem, Nat.reduceAdd, hb13, hb16, hb19, hb22, hb25, hf28, hf30, hf35, hf40, hf46, hf52, hk53]) | exact cl
                (repeat' apply And.intro) <;> first | refine hK27 _ _ ?_ | exact cl
                clear hK27
                refine rg [2, 7, 44] hs ?_
                refine cnd h hs (fun hs h => ?_) (fun hs h => ?_)
                · skip
                  have hb55 := hs.1
                  refine rg [2] hs ?_
                  apply awp_ret; simp +decide only [go_sem, Nat.reduceAdd, hb13, hb16, hb19, hb22, hb25, hf28, hf30, hf35, hf40, hf46, hf52, hk53, hb55]
                  have hgt := Option.some.inj h; subst hgt
                  refine hKQ _ _ _ ⟨⟨B ++ [a0.cs, [.val (.int .i64 (v_rules_5_F p_r7.2))], [.val .nilFunc, .clo 122 [], .clo 124 [], .clo 125 [], .clo 127 [], .clo 130 [], .clo 131 [], .clo 132 [], .clo 133 [], .clo 134 [], .clo 135 []], [.val (.int .i64 (b3_r7 + 1))], a0.cs], rows_r7, L⟩, [p_r7.2.cs], by first | rfl | (simp only [List.append_assoc, List.append_nil, List.cons_append, List.nil_append]; done), ⟨by simp, by first | exact Nat.le_refl _ | (have := hO.len; simp; omega), rfl⟩, rfl, ⟨rfl, _, _, _, _, rows_r7, ef hs, hO.sub (List.nil_sublist _)⟩, ?_⟩
                  exact .inr (round_calm hra hra0_r7 hO rfl (by have := hO.len; have := hra0_r7.len; first | exact Nat.le_refl _ | omega) (by simp only [List.append_assoc, List.cons_append, List.nil_append]) (by (simp +decide only [go_sem, Nat.reduceAdd]) <;> (try (repeat' apply And.intro)) <;> first | omega | assumption))
                have hb55 := hs.1
                refine awp_sub (keepL [] _) ?_ (sub_keepL _ _)
                apply awp_skip; simp +decide only [go_sem, Nat.reduceAdd]
                (repeat' apply And.intro) <;> first | refine hKQ _ _ _ ⟨⟨B ++ [a0.cs, [.val (.int .i64 0)], [.val .nilFunc, .clo 122 [], .clo 124 [], .clo 125 [], .clo 127 [], .clo 130 [], .clo 131 [], .clo 132 [], .clo 133 [], .clo 134 [], .clo 135 []], [.val (.int .i64 (b3_r7 + 1))], a0.cs], rows_r7, L⟩, [p_r7.2.cs], by first | rfl | (simp only [List.append_assoc, List.append_nil, List.cons_append, List.nil_append]; done), ⟨by simp, by first | exact Nat.le_refl _ | (have := hO.len; simp; omega), rfl⟩, rfl, ⟨(b3_r7 + 1), rows_r7, ef hs, hO, h⟩, ?_⟩ | exact cl
                exact .inr (round_calm hra hra0_r7 hO rfl (by have := hO.len; have := hra0_r7.len; first | exact Nat.le_refl _ | omega) (by simp only [List.append_assoc, List.cons_append, List.nil_append]) (by (simp +decide only [go_sem, Nat.reduceAdd]) <;> (try (repeat' apply And.intro)) <;> first | omega | assumption))
              · replace h := ite_ff h hf52
                rcases Bool.eq_false_or_eq_true (decide (p_r7.2.kind = 6)) with hf57 | hf57
                · replace h := ite_tt h hf57
                  have hk58 : p_r7.2.kind = 6 := of_decide_eq_true hf57
                  apply awp_draw mix 7 2 1 [2, 7] (by kernel_rfl)
                  rw [evK_succ]; simp +decide only [go_sem, Nat.reduceAdd, hb13, hb16, hb19, hb22, hb25, hf28, hf30, hf35, hf40, hf46, hf52, hf57, hk58]
                  have hs := And.intro hf28 hs
                  have hs := And.intro hf30 hs
                  have hs := And.intro hf35 hs
                  have hs := And.intro hf40 hs
                  have hs := And.intro hf46 hs
                  have hs := And.intro hf52 hs
                  have hs := And.intro hf57 hs
                  have hs := And.intro hk58 hs
                  (repeat' apply And.intro) <;> first | refine callK_p _ (v_rules_6_at' w0 _ _ _ p_r7.2) (hv hs) ?_ | exact cl
                  rw [evK_succ]; simp +decide only [go_sem, Nat.reduceAdd, hb13, hb16, hb19, hb22, hb25, hf28, hf30, hf35, hf40, hf46, hf52, hf57, hk58]
                  (repeat' with_reducible apply And.intro) <;> first | (rw [evK_succ]; simp +decide only [go_sem, Nat.reduceAdd, hb13, hb16, hb19, hb22, hb25, hf28, hf30, hf35, hf40, hf46, hf52, hf57, hk58]) | exact cl
                  (repeat' apply And.intro) <;> first | refine hK27 _ _ ?_ | exact cl
                  clear hK27
                  refine rg [2, 7, 44] hs ?_
                  refine cnd h hs (fun hs h => ?_) (fun hs h => ?_)
                  · skip
                    have hb60 := hs.1
                    refine rg [2] hs ?_
                    apply awp_ret; simp +decide only [go_sem, Nat.reduceAdd, hb13, hb16, hb19, hb22, hb25, hf28, hf30, hf35, hf40, hf46, hf52, hf57, hk58, hb60]
                    have hgt := Option.some.inj h; subst hgt
                    refine hKQ _ _ _ ⟨⟨B ++ [a0.cs, [.val (.int .i64 (v_rules_6_F p_r7.2))], [.val .nilFunc, .clo 122 [], .clo 124 [], .clo 125 [], .clo 127 [], .clo 130 [], .clo 131 [], .clo 132 [], .clo 133 [], .clo 134 [], .clo 135 []], [.val (.int .i64 (b3_r7 + 1))], a0.cs], rows_r7, L⟩, [p_r7.2.cs], by first | rfl | (simp only [List.append_assoc, List.append_nil, List.cons_append, List.nil_append]; done), ⟨by simp, by first | exact Nat.le_refl _ | (have := hO.len; simp; omega), rfl⟩, rfl, ⟨rfl, _, _, _, _, rows_r7, ef hs, hO.sub (List.nil_sublist _)⟩, ?_⟩
                    exact .inr (round_calm hra hra0_r7 hO rfl (by have := hO.len; have := hra0_r7.len; first | exact Nat.le_refl _ | omega) (by simp only [List.append_assoc, List.cons_append, List.nil_append]) (by (simp +decide only [go_sem, Nat.reduceAdd]) <;> (try (repeat' apply And.intro)) <;> first | omega | assumption))
                  have hb60 := hs.1
                  refine awp_sub (keepL [] _) ?_ (sub_keepL _ _)
                  apply awp_skip; simp +decide only [go_sem, Nat.reduceAdd]
                  (repeat' apply And.intro) <;> first | refine hKQ _ _ _ ⟨⟨B ++ [a0.cs, [.val (.int .i64 0)], [.val .nilFunc, .clo 122 [], .clo 124 [], .clo 125 [], .clo 127 [], .clo 130 [], .clo 131 [], .clo 132 [], .clo 133 [], .clo 134 [], .clo 135 []], [.val (.int .i64 (b3_r7 + 1))], a0.cs], rows_r7, L⟩, [p_r7.2.cs], by first | rfl | (simp only [List.append_assoc, List.append_nil, List.cons_append, List.nil_append]; done), ⟨by simp, by first | exact Nat.le_refl _ | (have := hO.len; simp; omega), rfl⟩, rfl, ⟨(b3_r7 + 1), rows_r7, ef hs, hO, h⟩, ?_⟩ | exact cl
                  exact .inr (round_calm hra hra0_r7 hO rfl (by have := hO.len; have := hra0_r7.len; first | exact Nat.le_refl _ | omega) (by simp only [List.append_assoc, List.cons_append, List.nil_append]) (by (simp +decide only [go_sem, Nat.reduceAdd]) <;> (try (repeat' apply And.intro)) <;> first | omega | assumption))
                · replace h := ite_ff h hf57
                  rcases Bool.eq_false_or_eq_true (decide (p_r7.2.kind = 7)) with hf62 | hf62
                  · replace h := ite_tt h hf62
                    have hk63 : p_r7.2.kind = 7 := of_decide_eq_true hf62
                    apply awp_draw mix 7 2 1 [2, 7] (by kernel_rfl)
                    rw [evK_succ]; simp +decide only [go_sem, Nat.reduceAdd, hb13, hb16, hb19, hb22, hb25, hf28, hf30, hf35, hf40, hf46, hf52, hf57, hf62, hk63]
                    have hs := And.intro hf28 hs
                    have hs := And.intro hf30 hs
                    have hs := And.intro hf35 hs
                    have hs := And.intro hf40 hs
                    have hs := And.intro hf46 hs
                    have hs := And.intro hf52 hs
                    have hs := And.intro hf57 hs
                    have hs := And.intro hf62 hs
                    have hs := And.intro hk63 hs
                    (repeat' apply And.intro) <;> first | refine callK_p _ (v_rules_7_at' w0 _ _ _ p_r7.2) (hv hs) ?_ | exact cl
                    rw [evK_succ]; simp +decide only [go_sem, Nat.reduceAdd, hb13, hb16, hb19, hb22, hb25, hf28, hf30, hf35, hf40, hf46, hf52, hf57, hf62, hk63]
                    (repeat' with_reducible apply And.intro) <;> first | (rw [evK_succ]; simp +decide only [go_sem, Nat.reduceAdd, hb13, hb16, hb19, hb22, hb25, hf28, hf30, hf35, hf40, hf46, hf52, hf57, hf62, hk63]) | exact cl
                    (repeat' apply And.intro) <;> first | refine hK27 _ _ ?_ | exact cl
                    clear hK27
                    refine rg [2, 7, 44] hs ?_
                    refine cnd h hs (fun hs h => ?_) (fun hs h => ?_)
                    · skip
                      have hb65 := hs.1
                      refine rg [2] hs ?_
                      apply awp_ret; simp +decide only [go_sem, Nat.reduceAdd, hb13, hb16, hb19, hb22, hb25, hf28, hf30, hf35, hf40, hf46, hf52, hf57, hf62, hk63, hb65]
                      have hgt := Option.some.inj h; subst hgt
                      refine hKQ _ _ _ ⟨⟨B ++ [a0.cs, [.val (.int .i64 (v_rules_7_F p_r7.2))], [.val .nilFunc, .clo 122 [], .clo 124 [], .clo 125 [], .clo 127 [], .clo 130 [], .clo 131 [], .clo 132 [], .clo 133 [], .clo 134 [], .clo 135 []], [.val (.int .i64 (b3_r7 + 1))], a0.cs], rows_r7, L⟩, [p_r7.2.cs], by first | rfl | (simp only [List.append_assoc, List.append_nil, List.cons_append, List.nil_append]; done), ⟨by simp, by first | exact Nat.le_refl _ | (have := hO.len; simp; omega), rfl⟩, rfl, ⟨rfl, _, _, _, _, rows_r7, ef hs, hO.sub (List.nil_sublist _)⟩, ?_⟩
                      exact .inr (round_calm hra hra0_r7 hO rfl (by have := hO.len; have := hra0_r7.len; first | exact Nat.le_refl _ | omega) (by simp only [List.append_assoc, List.cons_append, List.nil_append]) (by (simp +decide only [go_sem, Nat.reduceAdd]) <;> (try (repeat' apply And.intro)) <;> first | omega | assumption))
                    have hb65 := hs.1
                    refine awp_sub (keepL [] _) ?_ (sub_keepL _ _)
                    apply awp_skip; simp +decide only [go_sem, Nat.reduceAdd]
                    (repeat' apply And.intro) <;> first | refine hKQ _ _ _ ⟨⟨B ++ [a0.cs, [.val (.int .i64 0)], [.val .nilFunc, .clo 122 [], .clo 124 [], .clo 125 [], .clo 127 [], .clo 130 [], .clo 131 [], .clo 132 [], .clo 133 [], .clo 134 [], .clo 135 []], [.val (.int .i64 (b3_r7 + 1))], a0.cs], rows_r7, L⟩, [p_r7.2.cs], by first | rfl | (simp only [List.append_assoc, List.append_nil, List.cons_append, List.nil_append]; done), ⟨by simp, by first | exact Nat.le_refl _ | (have := hO.len; simp; omega), rfl⟩, rfl, ⟨(b3_r7 + 1), rows_r7, ef hs, hO, h⟩, ?_⟩ | exact cl
                    exact .inr (round_calm hra hra0_r7 hO rfl (by have := hO.len; have := hra0_r7.len; first | exact Nat.le_refl _ | omega) (by simp only [List.append_assoc, List.cons_append, List.nil_append]) (by (simp +decide only [go_sem, Nat.reduceAdd]) <;> (try (repeat' apply And.intro)) <;> first | omega | assumption))
                  · replace h := ite_ff h hf62
                    rcases Bool.eq_false_or_eq_true (decide (p_r7.2.kind = 8)) with hf67 | hf67
                    · replace h := ite_tt h hf67
                      have hk68 : p_r7.2.kind = 8 := of_decide_eq_true hf67
                      apply awp_draw mix 7 2 1 [2, 7] (by kernel_rfl)
                      rw [evK_succ]; simp +decide only [go_sem, Nat.reduceAdd, hb13, hb16, hb19, hb22, hb25, hf28, hf30, hf35, hf40, hf46, hf52, hf57, hf62, hf67, hk68]
                      have hs := And.intro hf28 hs
                      have hs := And.intro hf30 hs
                      have hs := And.intro hf35 hs
                      have hs := And.intro hf40 hs
                      have hs := And.intro hf46 hs
                      have hs := And.intro hf52 hs
                      have hs := And.intro hf57 hs
                      have hs := And.intro hf62 hs
                      have hs := And.intro hf67 hs
                      have hs := And.intro hk68 hs
                      (repeat' apply And.intro) <;> first | refine callK_p _ (v_rules_8_at' w0 _ _ _ p_r7.2) (hv hs) ?_ | exact cl
                      rw [evK_succ]; simp +decide only [go_sem, Nat.reduceAdd, hb13, hb16, hb19, hb22, hb25, hf28, hf30, hf35, hf40, hf46, hf52, hf57, hf62, hf67, hk68]
                      (repeat' with_reducible apply And.intro) <;> first | (rw [evK_succ]; simp +decide only [go_sem, Nat.reduceAdd, hb13, hb16, hb19, hb22, hb25, hf28, hf30, hf35, hf40, hf46, hf52, hf57, hf62, hf67, hk68]) | exact cl
                      (repeat' apply And.intro) <;> first | refine hK27 _ _ ?_ | exact cl
                      clear hK27
                      refine rg [2, 7, 44] hs ?_
                      refine cnd h hs (fun hs h => ?_) (fun hs h => ?_)
                      · skip
                        have hb70 := hs.1
                        refine rg [2] hs ?_
                        apply awp_ret; simp +decide only [go_sem, Nat.reduceAdd, hb13, hb16, hb19, hb22, hb25, hf28, hf30, hf35, hf40, hf46, hf52, hf57, hf62, hf67, hk68, hb70]
                        have hgt := Option.some.inj h; subst hgt
                        refine hKQ _ _ _ ⟨⟨B ++ [a0.cs, [.val (.int .i64 (v_rules_8_F p_r7.2))], [.val .nilFunc, .clo 122 [], .clo 124 [], .clo 125 [], .clo 127 [], .clo 130 [], .clo 131 [], .clo 132 [], .clo 133 [], .clo 134 [], .clo 135 []], [.val (.int .i64 (b3_r7 + 1))], a0.cs], rows_r7, L⟩, [p_r7.2.cs], by first | rfl | (simp only [List.append_assoc, List.append_nil, List.cons_append, List.nil_append]; done), ⟨by simp, by first | exact Nat.le_refl _ | (have := hO.len; simp; omega), rfl⟩, rfl, ⟨rfl, _, _, _, _, rows_r7, ef hs, hO.sub (List.nil_sublist _)⟩, ?_⟩
                        exact .inr (round_calm hra hra0_r7 hO rfl (by have := hO.len; have := hra0_r7.len; first | exact Nat.le_refl _ | omega) (by simp only [List.append_assoc, List.cons_append, List.nil_append]) (by (simp +decide only [go_sem, Nat.reduceAdd]) <;> (try (repeat' apply And.intro)) <;> first | omega | assumption))
                      have hb70 := hs.1
                      refine awp_sub (keepL [] _) ?_ (sub_keepL _ _)
                      apply awp_skip; simp +decide only [go_sem, Nat.reduceAdd]
                      (repeat' apply And.intro) <;> first | refine hKQ _ _ _ ⟨⟨B ++ [a0.cs, [.val (.int .i64 0)], [.val .nilFunc, .clo 122 [], .clo 124 [], .clo 125 [], .clo 127 [], .clo 130 [], .clo 131 [], .clo 132 [], .clo 133 [], .clo 134 [], .clo 135 []], [.val (.int .i64 (b3_r7 + 1))], a0.cs], rows_r7, L⟩, [p_r7.2.cs], by first | rfl | (simp only [List.append_assoc, List.append_nil, List.cons_append, List.nil_append]; done), ⟨by simp, by first | exact Nat.le_refl _ | (have := hO.len; simp; omega), rfl⟩, rfl, ⟨(b3_r7 + 1), rows_r7, ef hs, hO, h⟩, ?_⟩ | exact cl
                      exact .inr (round_calm hra hra0_r7 hO rfl (by have := hO.len; have := hra0_r7.len; first | exact Nat.le_refl _ | omega) (by simp only [List.append_assoc, List.cons_append, List.nil_append]) (by (simp +decide only [go_sem, Nat.reduceAdd]) <;> (try (repeat' apply And.intro)) <;> first | omega | assumption))
                    · replace h := ite_ff h hf67
                      rcases Bool.eq_false_or_eq_true (decide (p_r7.2.kind = 9)) with hf72 | hf72
                      · replace h := ite_tt h hf72
                        have hk73 : p_r7.2.kind = 9 := of_decide_eq_true hf72
                        obtain ⟨y74, hy74, h⟩ := bind_some h
                        apply awp_draw mix 7 2 1 [2, 7] (by kernel_rfl)
                        rw [evK_succ]; simp +decide only [go_sem, Nat.reduceAdd, hb13, hb16, hb19, hb22, hb25, hf28, hf30, hf35, hf40, hf46, hf52, hf57, hf62, hf67, hf72, hk73]
                        have hs := And.intro hf28 hs
                        have hs := And.intro hf30 hs
                        have hs := And.intro hf35 hs
                        have hs := And.intro hf40 hs
                        have hs := And.intro hf46 hs
                        have hs := And.intro hf52 hs
                        have hs := And.intro hf57 hs
                        have hs := And.intro hf62 hs
                        have hs := And.intro hf67 hs
                        have hs := And.intro hf72 hs
                        have hs := And.intro hk73 hs
                        (repeat' apply And.intro) <;> first | refine callK_p _ (v_rules_9_at w0 n _ _ _ p_r7.2 _ hy74) (hv hs) ?_ | exact cl
                        rw [evK_succ]; simp +decide only [go_sem, Nat.reduceAdd, hb13, hb16, hb19, hb22, hb25, hf28, hf30, hf35, hf40, hf46, hf52, hf57, hf62, hf67, hf72, hk73]
                        (repeat' with_reducible apply And.intro) <;> first | (rw [evK_succ]; simp +decide only [go_sem, Nat.reduceAdd, hb13, hb16, hb19, hb22, hb25, hf28, hf30, hf35, hf40, hf46, hf52, hf57, hf62, hf67, hf72, hk73]) | exact cl
                        (repeat' apply And.intro) <;> first | refine hK27 _ _ ?_ | exact cl
                        clear hK27
                        refine rg [2, 7, 44] hs ?_
                        refine cnd h hs (fun hs h => ?_) (fun hs h => ?_)
                        · skip
                          have hb76 := hs.1
                          refine rg [2] hs ?_
                          apply awp_ret; simp +decide only [go_sem, Nat.reduceAdd, hb13, hb16, hb19, hb22, hb25, hf28, hf30, hf35, hf40, hf46, hf52, hf57, hf62, hf67, hf72, hk73, hb76]
                          have hgt := Option.some.inj h; subst hgt
                          refine hKQ _ _ _ ⟨⟨B ++ [a0.cs, [.val (.int .i64 y74)], [.val .nilFunc, .clo 122 [], .clo 124 [], .clo 125 [], .clo 127 [], .clo 130 [], .clo 131 [], .clo 132 [], .clo 133 [], .clo 134 [], .clo 135 []], [.val (.int .i64 (b3_r7 + 1))], a0.cs], rows_r7, L⟩, [p_r7.2.cs], by first | rfl | (simp only [List.append_assoc, List.append_nil, List.cons_append, List.nil_append]; done), ⟨by simp, by first | exact Nat.le_refl _ | (have := hO.len; simp; omega), rfl⟩, rfl, ⟨rfl, _, _, _, _, rows_r7, ef hs, hO.sub (List.nil_sublist _)⟩, ?_⟩
                          exact .inr (round_calm hra hra0_r7 hO rfl (by have := hO.len; have := hra0_r7.len; first | exact Nat.le_refl _ | omega) (by simp only [List.append_assoc, List.cons_append, List.nil_append]) (by (simp +decide only [go_sem, Nat.reduceAdd]) <;> (try (repeat' apply And.intro)) <;> first | omega | assumption))
                        have hb76 := hs.1
                        refine awp_sub (keepL [] _) ?_ (sub_keepL _ _)
                        apply awp_skip; simp +decide only [go_sem, Nat.reduceAdd]
                        (repeat' apply And.intro) <;> first | refine hKQ _ _ _ ⟨⟨B ++ [a0.cs, [.val (.int .i64 0)], [.val .nilFunc, .clo 122 [], .clo 124 [], .clo 125 [], .clo 127 [], .clo 130 [], .clo 131 [], .clo 132 [], .clo 133 [], .clo 134 [], .clo 135 []], [.val (.int .i64 (b3_r7 + 1))], a0.cs], rows_r7, L⟩, [p_r7.2.cs], by first | rfl | (simp only [List.append_assoc, List.append_nil, List.cons_append, List.nil_append]; done), ⟨by simp, by first | exact Nat.le_refl _ | (have := hO.len; simp; omega), rfl⟩, rfl, ⟨(b3_r7 + 1), rows_r7, ef hs, hO, h⟩, ?_⟩ | exact cl
                        exact .inr (round_calm hra hra0_r7 hO rfl (by have := hO.len; have := hra0_r7.len; first | exact Nat.le_refl _ | omega) (by simp only [List.append_assoc, List.cons_append, List.nil_append]) (by (simp +decide only [go_sem, Nat.reduceAdd]) <;> (try (repeat' apply And.intro)) <;> first | omega | assumption))
                      · replace h := ite_ff h hf72
                        rcases Bool.eq_false_or_eq_true (decide (p_r7.2.kind = 10)) with hf78 | hf78
                        · replace h := ite_tt h hf78
                          have hk79 : p_r7.2.kind = 10 := of_decide_eq_true hf78
                          obtain ⟨y80, hy80, h⟩ := bind_some h
                          apply awp_draw mix 7 2 1 [2, 7] (by kernel_rfl)
                          rw [evK_succ]; simp +decide only [go_sem, Nat.reduceAdd, hb13, hb16, hb19, hb22, hb25, hf28, hf30, hf35, hf40, hf46, hf52, hf57, hf62, hf67, hf72, hf78, hk79]
                          have hs := And.intro hf28 hs
                          have hs := And.intro hf30 hs
                          have hs := And.intro hf35 hs
                          have hs := And.intro hf40 hs
                          have hs := And.intro hf46 hs
                          have hs := And.intro hf52 hs
                          have hs := And.intro hf57 hs
                          have hs := And.intro hf62 hs
                          have hs := And.intro hf67 hs
                          have hs := And.intro hf72 hs
                          have hs := And.intro hf78 hs
                          have hs := And.intro hk79 hs
                          (repeat' apply And.intro) <;> first | refine callK_p _ (v_rules_10_at w0 _ _ _ p_r7.2 _ hy80) (hv hs) ?_ | exact cl
                          rw [evK_succ]; simp +decide only [go_sem, Nat.reduceAdd, hb13, hb16, hb19, hb22, hb25, hf28, hf30, hf35, hf40, hf46, hf52, hf57, hf62, hf67, hf72, hf78, hk79]
                          (repeat' with_reducible apply And.intro) <;> first | (rw [evK_succ]; simp +decide only [go_sem, Nat.reduceAdd, hb13, hb16, hb19, hb22, hb25, hf28, hf30, hf35, hf40, hf46, hf52, hf57, hf62, hf67, hf72, hf78, hk79]) | exact cl
                          (repeat' apply And.intro) <;> first | refine hK27 _ _ ?_ | exact cl
                          clear hK27
                          refine rg [2, 7, 44] hs ?_
                          refine cnd h hs (fun hs h => ?_) (fun hs h => ?_)
                          · skip
                            have hb82 := hs.1
                            refine rg [2] hs ?_
                            apply awp_ret; simp +decide only [go_sem, Nat.reduceAdd, hb13, hb16, hb19, hb22, hb25, hf28, hf30, hf35, hf40, hf46, hf52, hf57, hf62, hf67, hf72, hf78, hk79, hb82]
                            have hgt := Option.some.inj h; subst hgt
                            refine hKQ _ _ _ ⟨⟨B ++ [a0.cs, [.val (.int .i64 y80)], [.val .nilFunc, .clo 122 [], .clo 124 [], .clo 125 [], .clo 127 [], .clo 130 [], .clo 131 [], .clo 132 [], .clo 133 [], .clo 134 [], .clo 135 []], [.val (.int .i64 (b3_r7 + 1))], a0.cs], rows_r7, L⟩, [p_r7.2.cs], by first | rfl | (simp only [List.append_assoc, List.append_nil, List.cons_append, List.nil_append]; done), ⟨by simp, by first | exact Nat.le_refl _ | (have := hO.len; simp; omega), rfl⟩, rfl, ⟨rfl, _, _, _, _, rows_r7, ef hs, hO.sub (List.nil_sublist _)⟩, ?_⟩
                            exact .inr (round_calm hra hra0_r7 hO rfl (by have := hO.len; have := hra0_r7.len; first | exact Nat.le_refl _ | omega) (by simp only [List.append_assoc, List.cons_append, List.nil_append]) (by (simp +decide only [go_sem, Nat.reduceAdd]) <;> (try (repeat' apply And.intro)) <;> first | omega | assumption))
                          have hb82 := hs.1
                          refine awp_sub (keepL [] _) ?_ (sub_keepL _ _)
                          apply awp_skip; simp +decide only [go_sem, Nat.reduceAdd]
                          (repeat' apply And.intro) <;> first | refine hKQ _ _ _ ⟨⟨B ++ [a0.cs, [.val (.int .i64 0)], [.val .nilFunc, .clo 122 [], .clo 124 [], .clo 125 [], .clo 127 [], .clo 130 [], .clo 131 [], .clo 132 [], .clo 133 [], .clo 134 [], .clo 135 []], [.val (.int .i64 (b3_r7 + 1))], a0.cs], rows_r7, L⟩, [p_r7.2.cs], by first | rfl | (simp only [List.append_assoc, List.append_nil, List.cons_append, List.nil_append]; done), ⟨by simp, by first | exact Nat.le_refl _ | (have := hO.len; simp; omega), rfl⟩, rfl, ⟨(b3_r7 + 1), rows_r7, ef hs, hO, h⟩, ?_⟩ | exact cl
                          exact .inr (round_calm hra hra0_r7 hO rfl (by have := hO.len; have := hra0_r7.len; first | exact Nat.le_refl _ | omega) (by simp only [List.append_assoc, List.cons_append, List.nil_append]) (by (simp +decide only [go_sem, Nat.reduceAdd]) <;> (try (repeat' apply And.intro)) <;> first | omega | assumption))
                        · replace h := ite_ff h hf78
                          cases h
  · rintro s la ⟨XB, XR, XL⟩ hXR ⟨b3_r7, rows_r7, rfl, hO, h⟩ _ _
    simp only at hXR
    subst hXR
    rw [List.drop_eq_nil_of_le (by rw [itemsV_length]; exact Nat.le_refl _), v_Check_r7] at h
    simp only [St.ext, St.push, List.append_assoc, List.append_nil]
    (repeat' apply And.intro) <;> first | refine hK4 _ _ ?_ | exact cl
    clear hK4
    refine awp_tidyL (bs := [a0.cs, [.val (.int .i64 0)], [.val .nilFunc, .clo 122 [], .clo 124 [], .clo 125 [], .clo 127 [], .clo 130 [], .clo 131 [], .clo 132 [], .clo 133 [], .clo 134 [], .clo 135 []], [.val (.int .i64 b3_r7)], a0.cs]) hN hNR hNL rfl hcalm hO (by (simp +decide only [go_sem, Nat.reduceAdd]) <;> (try (repeat' apply And.intro)) <;> first | omega | assumption) (by (simp +decide only [go_sem, Nat.reduceAdd, calmE]) <;> (try (repeat' apply And.intro)) <;> first | omega | assumption) ?_
    refine rg [2] hs ?_
    exact rt h hs hcalm hO
  · rintro ex s la ⟨XB, XR, XL⟩ hXR ⟨rfl, z0, z2, z3, z4, rows, rfl, hO⟩ _ _
    simp only at hXR
    subst hXR
    simp only [St.ext, St.push, List.append_assoc, List.append_nil]
    simp +decide only [go_sem, Nat.reduceAdd]
    (repeat' with_reducible apply And.intro) <;> first | refine fin_r hcalm rfl hO.pre ev ⟨?_, rfl⟩ | (intros; omega) | (intros; simp_all; done)
    first | rfl | (simp +decide only [go_sem, Nat.reduceAdd]; done)
end Go.Proofs.YtggimoedcamonaaGreatDoor
namespace Go.Proofs.YtggimoedcamonaaGreatDoor
open Go Go.RowKit Go.Ev
set_option linter.unusedSimpArgs false
set_option linter.unusedVariables false
def s_accepts_F (n : Nat) (a0 : Ty) (a1 : Vl) : Option Bool :=
  (v_Check_F n a1).bind fun y3 =>
  if decide (y3 = 0) then
    (s_has_F n a0 a1).bind fun y5 =>
    some (y5)
  else
    some (false)
set_option maxRecDepth 100000 in
set_option maxHeartbeats 4000000 in
theorem s_accepts_at (w0 : World) (hT : Lib.Utf8Tabs 0 1 w0) (n : Nat) (B : List (List AV)) (Rw : List RowA) (L : List LoopA) (a0 : Ty) (a1 : Vl) (r : Bool) (h : s_accepts_F n a0 a1 = some r) :
    ACalls Tryz.prog w0 58 [.agg (a0.cs), .agg (a1.cs)] ⟨B, Rw, L⟩ fun x st => x = .val (.bool r) ∧ st = ⟨B, Rw, L⟩ := by
  rw [s_accepts_F] at h
  refine ACalls.finP (acalls_of (rs := [.tmp 4]) Tryz.func58 rfl rfl Tryz.ntmps58 (enters_some Tryz.func58 rfl (by decide)) (Nat.le_of_ble_eq_true rfl) ?_)
  intro M0 W0 hN hNR hNL hcalm hu
  dsimp only at hN hNR hNL hcalm hu
  simp only [argsE]
  have hO := Owns.none Rw
  have hs := fact0
  refine rg [2, 3] hs ?_
  apply awp_seq; intro K2 hK2
  obtain ⟨y3, hy3, h⟩ := bind_some h
  rcases Bool.eq_false_or_eq_true (decide (y3 = 0)) with hf4 | hf4
  · replace h := ite_tt h hf4
    obtain ⟨y5, hy5, h⟩ := bind_some h
    apply awp_region 3 [4]
    rw [evK_succ]; simp +decide only [go_sem, Nat.reduceAdd, hf4]
    have hs := And.intro hf4 hs
    (repeat' apply And.intro) <;> first | refine callK_p _ (v_Check_at w0 hT n _ _ _ a1 _ hy3) (hv hs) ?_ | exact cl
    rw [evK_succ]; simp +decide only [go_sem, Nat.reduceAdd, hf4]
    (repeat' apply And.intro) <;> first | refine callK_p _ (s_has_at w0 n _ _ _ a0 a1 _ hy5) (hv hs) ?_ | exact cl
    rw [evK_succ]; simp +decide only [go_sem, Nat.reduceAdd, hf4]
    (repeat' apply And.intro) <;> first | refine hK2 _ _ ?_ | exact cl
    clear hK2
    exact rt h hs hcalm hO
  · replace h := ite_ff h hf4
    apply awp_region 3 [4]
    rw [evK_succ]; simp +decide only [go_sem, Nat.reduceAdd, hf4]
    have hs := And.intro hf4 hs
    (repeat' apply And.intro) <;> first | refine callK_p _ (v_Check_at w0 hT n _ _ _ a1 _ hy3) (hv hs) ?_ | exact cl
    rw [evK_succ]; simp +decide only [go_sem, Nat.reduceAdd, hf4]
    (repeat' apply And.intro) <;> first | refine callK_skip ?_ | exact cl
    rw [evK_succ]; simp +decide only [go_sem, Nat.reduceAdd, hf4]
    (repeat' apply And.intro) <;> first | refine hK2 _ _ ?_ | exact cl
    clear hK2
    exact rt h hs hcalm hO
end Go.Proofs.YtggimoedcamonaaGreatDoor
namespace Go.Proofs.YtggimoedcamonaaGreatDoor
open Go Go.RowKit Go.Ev
set_option linter.unusedSimpArgs false
set_option linter.unusedVariables false
def s_field_1_F (a0 : Int × ByteArray × Int × Ty × List Vl) (a1 : Int × ByteArray × Int × Ty × List Vl) : Bool :=
  (sEq a0.2.1 a1.2.1) || (decide (a0.1 = a1.1))
set_option maxRecDepth 100000 in
set_option maxHeartbeats 4000000 in
theorem s_field_1_at (w0 : World) (B : List (List AV)) (Rw : List RowA) (L : List LoopA) (a0 : Int × ByteArray × Int × Ty × List Vl) (la1 : Nat) (a1 : Int × ByteArray × Int × Ty × List Vl) (hla1 : B[la1]? = some (.val (.int .i64 a1.1) :: (.val (.string a1.2.1) :: (.val (.int .i64 a1.2.2.1) :: ((a1.2.2.2.1.cs) ++ ([.list (a1.2.2.2.2.map avV) .none])))))) (r : Bool) (h : s_field_1_F a0 a1 = r) :
    ACalls Tryz.prog w0 180 [.agg (.val (.int .i64 a0.1) :: (.val (.string a0.2.1) :: (.val (.int .i64 a0.2.2.1) :: ((a0.2.2.2.1.cs) ++ ([.list (a0.2.2.2.2.map avV) .none]))))), .box la1 0] ⟨B, Rw, L⟩ fun x st => x = .val (.bool r) ∧ st = ⟨B, Rw, L⟩ := by
  rw [s_field_1_F] at h
  refine ACalls.finP (acalls_of (rs := [.tmp 3]) Tryz.func180 rfl rfl Tryz.ntmps180 (enters_some Tryz.func180 rfl (by decide)) (Nat.le_of_ble_eq_true rfl) ?_)
  intro M0 W0 hN hNR hNL hcalm hu
  dsimp only at hN hNR hNL hcalm hu
  simp only [argsE]
  have hO := Owns.none Rw
  have hs := fact0
  have hltla1 := (List.getElem?_eq_some_iff.1 hla1).1
  have hs := And.intro (ptr_of hla1) hs
  refine rg [1, 2] hs ?_
  refine rg [3] hs ?_
  apply awp_ret; simp +decide only [go_sem, Nat.reduceAdd, ptr_of hla1]
  subst h
  first | refine fin_q0 hcalm rfl hO.pre ev ⟨?_, rfl⟩ | refine fin_q hcalm rfl hO.pre ev ⟨?_, rfl⟩
  first | rfl | (simp +decide only [go_sem, Nat.reduceAdd, ptr_of hla1]; done) | (simp +decide only [go_sem, Nat.reduceAdd, Vl.cs, Ty.cs, ptr_of hla1]; done)
theorem s_field_1_at' (w0 : World) (B : List (List AV)) (Rw : List RowA) (L : List LoopA) (a0 : Int × ByteArray × Int × Ty × List Vl) (la1 : Nat) (a1 : Int × ByteArray × Int × Ty × List Vl) (hla1 : B[la1]? = some (.val (.int .i64 a1.1) :: (.val (.string a1.2.1) :: (.val (.int .i64 a1.2.2.1) :: ((a1.2.2.2.1.cs) ++ ([.list (a1.2.2.2.2.map avV) .none])))))) :
    ACalls Tryz.prog w0 180 [.agg (.val (.int .i64 a0.1) :: (.val (.string a0.2.1) :: (.val (.int .i64 a0.2.2.1) :: ((a0.2.2.2.1.cs) ++ ([.list (a0.2.2.2.2.map avV) .none]))))), .box la1 0] ⟨B, Rw, L⟩ fun x st => x = .val (.bool (s_field_1_F a0 a1)) ∧ st = ⟨B, Rw, L⟩ := s_field_1_at w0 B Rw L a0 la1 a1 hla1 _ rfl
end Go.Proofs.YtggimoedcamonaaGreatDoor
namespace Go.Proofs.YtggimoedcamonaaGreatDoor
open Go Go.RowKit Go.Ev
set_option linter.unusedSimpArgs false
set_option linter.unusedVariables false
def s_field_F (n : Nat) (a0 : Ty) (a1 : Int) : Option Int :=
  (idx a0.fields a1).bind fun x3 =>
  if x3.2.1.size ≤ maxLen then
    if !(nameB x3.2.1) then
      some (12)
    else
      if !(decide (1 ≤ x3.1) && decide (x3.1 ≤ 9999)) then
        some (2)
      else
        if 0 ≤ 0 ∧ 0 ≤ a1 ∧ a1 ≤ (a0.fields.length : Int) then
          (sl_ContainsFunc_TypeField_F n (a0.fields.take a1.toNat) (fun (x0 : Int × ByteArray × Int × Ty × List Vl) => some (s_field_1_F x0 x3))).bind fun y14 =>
          if y14 then
            some (7)
          else
            if (!(decide (1 ≤ x3.2.2.1) && decide (x3.2.2.1 ≤ 3))) || ((decide (a0.kind = 10)) && (!(decide (x3.2.2.1 = 1)))) then
              some (11)
            else
              if (decide (x3.2.2.1 = 3)) && (decide (((x3.2.2.2.2.length : Int)) = 0)) then
                some (4)
              else
                if (decide (1 < ((x3.2.2.2.2.length : Int)))) || ((!(decide (x3.2.2.1 = 3))) && (decide (0 < ((x3.2.2.2.2.length : Int))))) then
                  some (3)
                else
                  some (0)
        else none
  else none
set_option maxRecDepth 100000 in
set_option maxHeartbeats 4000000 in
theorem s_field_at (w0 : World) (n : Nat) (B : List (List AV)) (Rw : List RowA) (L : List LoopA) (a0 : Ty) (a1 : Int) (r : Int) (h : s_field_F n a0 a1 = some r) :
    ACalls Tryz.prog w0 143 [.agg (a0.cs), .val (.int .i64 a1)] ⟨B, Rw, L⟩ fun x st => x = .val (.int .i64 r) ∧ st = ⟨B, Rw, L⟩ := by
  rw [s_field_F] at h
  refine ACalls.finP (acalls_of (rs := [.tmp 4]) Tryz.func143 rfl rfl Tryz.ntmps143 (enters_some Tryz.func143 rfl (by decide)) (Nat.le_of_ble_eq_true rfl) ?_)
  intro M0 W0 hN hNR hNL hcalm hu
  dsimp only at hN hNR hNL hcalm hu
  simp only [argsE]
  have hO := Owns.none Rw
  have hs := fact0
  refine rg [1, 2] hs ?_
  obtain ⟨x3, hx3, h⟩ := bind_some h
  obtain ⟨hx3a, hx3b, hx3c⟩ := idx_some hx3
  have hx3d := getD_map (f := avTF) hx3c
  have hs := And.intro hx3d hs
  refine rg [1, 2, 5] hs ?_
  apply awp_seq; intro K4 hK4
  apply awp_block
  obtain ⟨hg6, h⟩ := guard_some h
  refine rc 2 [1, 2, 5, 11] hs ?_; intro K5 hK5
  refine callK_p _ (IsName_at w0 _ _ _ x3.2.1 hg6) (hv hs) ?_
  refine ne hs hK5 ?_
  clear hK5
  refine cnd h hs (fun hs h => ?_) (fun hs h => ?_)
  · skip
    refine rg [4] hs ?_
    exact rt h hs hcalm hO
  refine rc 2 [1, 2, 5, 16] hs ?_; intro K9 hK9
  refine callK_p _ (in_at w0 _ _ _ x3.1 1 9999) (hv hs) ?_
  refine ne hs hK9 ?_
  clear hK9
  refine cnd h hs (fun hs h => ?_) (fun hs h => ?_)
  · skip
    refine rg [4] hs ?_
    exact rt h hs hcalm hO
  obtain ⟨hg13, h⟩ := guard_some h
  obtain ⟨y14, hy14, h⟩ := bind_some h
  refine rc 2 [2, 5, 21] hs ?_; intro K12 hK12
  refine callK_p _ (sl_ContainsFunc_TypeField_at w0 n _ _ _ (a0.fields.take a1.toNat) 180 [.box (B.length + 1) 0] (fun (x0 : Int × ByteArray × Int × Ty × List Vl) => some (s_field_1_F x0 x3)) (fun x0 r hx B' rows' hB' hR' => by cases hx; exact s_field_1_at' w0 _ _ _ x0 _ x3 (prefix_get hB' (ef hs))) _ hy14) (hv hs) ?_
  refine ne hs hK12 ?_
  clear hK12
  refine cnd h hs (fun hs h => ?_) (fun hs h => ?_)
  · skip
    refine rg [4] hs ?_
    exact rt h hs hcalm hO
  refine rc 2 [5, 28] hs ?_; intro K17 hK17
  refine callK_p _ (in_at w0 _ _ _ x3.2.2.1 1 3) (hv hs) ?_
  refine ne hs hK17 ?_
  clear hK17
  refine cnd h hs (fun hs h => ?_) (fun hs h => ?_)
  · skip
    refine rg [4] hs ?_
    exact rt h hs hcalm hO
  refine rg [5, 43] hs ?_
  refine cnd h hs (fun hs h => ?_) (fun hs h => ?_)
  · skip
    refine rg [4] hs ?_
    exact rt h hs hcalm hO
  refine rg [53] hs ?_
  refine cnd h hs (fun hs h => ?_) (fun hs h => ?_)
  · skip
    refine rg [4] hs ?_
    exact rt h hs hcalm hO
  refine sk [] hs hK4 ?_
  clear hK4
  refine rg [4] hs ?_
  exact rt h hs hcalm hO
end Go.Proofs.YtggimoedcamonaaGreatDoor
namespace Go.Proofs.YtggimoedcamonaaGreatDoor
open Go Go.RowKit Go.Ev
set_option linter.unusedSimpArgs false
set_option linter.unusedVariables false
def s_form_k4  (x5_k4 : Bool) : Int :=
  if x5_k4 then
    3
  else
    0
def s_form_F (a0 : Ty) (a1 : Lim) : Int :=
  if (!a1.bounds) && ((!(decide (a0.min = 0))) || (!(decide (a0.max = 0)))) then
    s_form_k4  true
  else
    if (!a1.scale) && (!(decide (a0.scale = 0))) then
      s_form_k4  true
    else
      if (!a1.text) && (decide (0 < ((a0.words.length : Int)))) then
        s_form_k4  true
      else
        if (!a1.list) && (decide (0 < ((a0.elem.length : Int)))) then
          s_form_k4  true
        else
          s_form_k4  ((!a1.fields) && (decide (0 < ((a0.fields.length : Int)))))
set_option maxRecDepth 100000 in
set_option maxHeartbeats 4000000 in
theorem s_form_at (w0 : World) (B : List (List AV)) (Rw : List RowA) (L : List LoopA) (a0 : Ty) (a1 : Lim) (r : Int) (h : s_form_F a0 a1 = r) :
    ACalls Tryz.prog w0 141 [.agg (a0.cs), .agg (.val (.string a1.name) :: (.val (.int .i64 a1.low) :: (.val (.int .i64 a1.high) :: (.val (.bool a1.bounds) :: (.val (.bool a1.scale) :: (.val (.bool a1.text) :: (.val (.bool a1.list) :: ([.val (.bool a1.fields)]))))))))] ⟨B, Rw, L⟩ fun x st => x = .val (.int .i64 r) ∧ st = ⟨B, Rw, L⟩ := by
  rw [s_form_F] at h
  refine ACalls.finP (acalls_of (rs := [.tmp 4]) Tryz.func141 rfl rfl Tryz.ntmps141 (enters_some Tryz.func141 rfl (by decide)) (Nat.le_of_ble_eq_true rfl) ?_)
  intro M0 W0 hN hNR hNL hcalm hu
  dsimp only at hN hNR hNL hcalm hu
  simp only [argsE]
  have hO := Owns.none Rw
  have hs := fact0
  refine rg [2, 3] hs ?_
  apply awp_seq; intro K2 hK2
  apply awp_block
  refine awp_mid (fun e st => ∃ (x5_k4 : Bool) (X_k4 : List (List AV)) (rows_k4 : List RowA), e = [(5, true, .val (.bool x5_k4))] ∧ st = ⟨B ++ ([a0.cs, .val (.string a1.name) :: (.val (.int .i64 a1.low) :: (.val (.int .i64 a1.high) :: (.val (.bool a1.bounds) :: (.val (.bool a1.scale) :: (.val (.bool a1.text) :: (.val (.bool a1.list) :: ([.val (.bool a1.fields)])))))))] ++ X_k4), rows_k4, L⟩ ∧ Owns Rw rows_k4 [] ∧ s_form_k4  x5_k4 = r) ?_ ?_
  · intro K5 hK5
    refine rg [2, 3, 5] hs ?_
    refine cnd h hs (fun hs h => ?_) (fun hs h => ?_)
    · skip
      have hb7 := hs.1
      refine sk [5] hs hK5 ?_
      exact ⟨true, ([]), Rw, ef hs, ef hs, hO, h⟩
    have hb7 := hs.1
    refine rg [2, 3, 5] hs ?_
    refine cnd h hs (fun hs h => ?_) (fun hs h => ?_)
    · skip
      have hb9 := hs.1
      refine sk [5] hs hK5 ?_
      exact ⟨true, ([]), Rw, ef hs, ef hs, hO, h⟩
    have hb9 := hs.1
    refine rg [2, 3, 5] hs ?_
    refine cnd h hs (fun hs h => ?_) (fun hs h => ?_)
    · skip
      have hb11 := hs.1
      refine sk [5] hs hK5 ?_
      exact ⟨true, ([]), Rw, ef hs, ef hs, hO, h⟩
    have hb11 := hs.1
    refine rg [2, 3, 5] hs ?_
    refine cnd h hs (fun hs h => ?_) (fun hs h => ?_)
    · skip
      have hb13 := hs.1
      refine sk [5] hs hK5 ?_
      exact ⟨true, ([]), Rw, ef hs, ef hs, hO, h⟩
    have hb13 := hs.1
    apply awp_region 1 [5]
    rw [evK_succ]; simp +decide only [go_sem, Nat.reduceAdd, hb7, hb9, hb11, hb13]
    (repeat' apply And.intro) <;> first | refine hK5 _ _ ⟨((!a1.fields) && (decide (0 < ((a0.fields.length : Int))))), ([]), Rw, ef hs, ef hs, hO, h⟩ | exact cl
  · clear h; rintro e st ⟨x5_k4, X_k4, rows_k4, rfl, rfl, hO, h⟩
    rw [s_form_k4] at h
    refine td hN hNR hNL hcalm hO ?_
    refine cnd h hs (fun hs h => ?_) (fun hs h => ?_)
    · skip
      have hb14 := hs.1
      refine rg [4] hs ?_
      apply awp_ret; simp +decide only [go_sem, Nat.reduceAdd, hb14]
      subst h
      first | refine fin_q0 hcalm rfl hO.pre ev ⟨?_, rfl⟩ | refine fin_q hcalm rfl hO.pre ev ⟨?_, rfl⟩
      first | rfl | (simp +decide only [go_sem, Nat.reduceAdd, hb14]; done) | (simp +decide only [go_sem, Nat.reduceAdd, Vl.cs, Ty.cs, hb14]; done)
    have hb14 := hs.1
    refine sk [] hs hK2 ?_
    clear hK2
    refine rg [4] hs ?_
    apply awp_ret; simp +decide only [go_sem, Nat.reduceAdd, hb14]
    subst h
    first | refine fin_q0 hcalm rfl hO.pre ev ⟨?_, rfl⟩ | refine fin_q hcalm rfl hO.pre ev ⟨?_, rfl⟩
    first | rfl | (simp +decide only [go_sem, Nat.reduceAdd, hb14]; done) | (simp +decide only [go_sem, Nat.reduceAdd, Vl.cs, Ty.cs, hb14]; done)
theorem s_form_at' (w0 : World) (B : List (List AV)) (Rw : List RowA) (L : List LoopA) (a0 : Ty) (a1 : Lim) :
    ACalls Tryz.prog w0 141 [.agg (a0.cs), .agg (.val (.string a1.name) :: (.val (.int .i64 a1.low) :: (.val (.int .i64 a1.high) :: (.val (.bool a1.bounds) :: (.val (.bool a1.scale) :: (.val (.bool a1.text) :: (.val (.bool a1.list) :: ([.val (.bool a1.fields)]))))))))] ⟨B, Rw, L⟩ fun x st => x = .val (.int .i64 (s_form_F a0 a1)) ∧ st = ⟨B, Rw, L⟩ := s_form_at w0 B Rw L a0 a1 _ rfl
end Go.Proofs.YtggimoedcamonaaGreatDoor
namespace Go.Proofs.YtggimoedcamonaaGreatDoor
open Go Go.RowKit Go.Ev
set_option linter.unusedSimpArgs false
set_option linter.unusedVariables false
def s_kinds_F  : ((List Lim)) :=
  [Lim.mk ((⟨#[]⟩ : ByteArray)) 0 0 false false false false false, Lim.mk ((⟨#[98, 111, 111, 108]⟩ : ByteArray)) 0 0 false false false false false, Lim.mk ((⟨#[105, 110, 116]⟩ : ByteArray)) ((-999999999999999)) 999999999999999 true false false false false, Lim.mk ((⟨#[100, 101, 99, 105, 109, 97, 108]⟩ : ByteArray)) ((-999999999999999)) 999999999999999 true true false false false, Lim.mk ((⟨#[116, 101, 120, 116]⟩ : ByteArray)) 0 1024 true false true false false, Lim.mk ((⟨#[98, 121, 116, 101, 115]⟩ : ByteArray)) 0 1024 true false false false false, Lim.mk ((⟨#[100, 97, 116, 101]⟩ : ByteArray)) ((-719162)) 2932896 true false false false false, Lim.mk ((⟨#[116, 105, 109, 101]⟩ : ByteArray)) ((-62135596800000)) 253402300799999 true false false false false, Lim.mk ((⟨#[108, 105, 115, 116]⟩ : ByteArray)) 0 256 true false false true false, Lim.mk ((⟨#[114, 101, 99, 111, 114, 100]⟩ : ByteArray)) 0 0 false false false false true, Lim.mk ((⟨#[118, 97, 114, 105, 97, 110, 116]⟩ : ByteArray)) 0 0 false false false false true]
set_option maxRecDepth 100000 in
set_option maxHeartbeats 4000000 in
theorem s_kinds_at (w0 : World) (B : List (List AV)) (Rw : List RowA) (L : List LoopA)  (r : (List Lim)) (h : s_kinds_F  = r) :
    ACalls Tryz.prog w0 75 [] ⟨B, Rw, L⟩ fun x st => x = .agg (r.flatMap fun x => (avLm x).cells) ∧ st = ⟨B, Rw, L⟩ := by
  rw [s_kinds_F] at h
  refine ACalls.finP (acalls_of (rs := [.cell 0 102]) Tryz.func75 rfl rfl Tryz.ntmps75 (enters_some Tryz.func75 rfl (by decide)) (Nat.le_of_ble_eq_true rfl) ?_)
  intro M0 W0 hN hNR hNL hcalm hu
  dsimp only at hN hNR hNL hcalm hu
  simp only [argsE]
  have hO := Owns.none Rw
  have hs := fact0
  refine rg [0] hs ?_
  apply awp_seq; intro K2 hK2
  apply awp_region 1 [0]
  rw [evK_succ]; simp +decide only [go_sem, Nat.reduceAdd, fillA, fillOk, placeT, List.getElem?_cons_zero, List.getElem?_cons_succ, List.nil_append, List.cons_append]
  (repeat' apply And.intro) <;> first | refine hK2 _ _ ?_ | exact cl
  clear hK2
  apply awp_ret; simp +decide only [go_sem, Nat.reduceAdd]
  subst h
  first | refine fin_q0 hcalm rfl hO.pre ev ⟨?_, rfl⟩ | refine fin_q hcalm rfl hO.pre ev ⟨?_, rfl⟩
  first | rfl | (simp +decide only [go_sem, Nat.reduceAdd]; done) | (simp +decide only [go_sem, Nat.reduceAdd, Vl.cs, Ty.cs]; done)
theorem s_kinds_at' (w0 : World) (B : List (List AV)) (Rw : List RowA) (L : List LoopA)  :
    ACalls Tryz.prog w0 75 [] ⟨B, Rw, L⟩ fun x st => x = .agg ((s_kinds_F ).flatMap fun x => (avLm x).cells) ∧ st = ⟨B, Rw, L⟩ := s_kinds_at w0 B Rw L  _ rfl
end Go.Proofs.YtggimoedcamonaaGreatDoor
namespace Go.Proofs.YtggimoedcamonaaGreatDoor
open Go Go.RowKit Go.Ev
set_option linter.unusedSimpArgs false
set_option linter.unusedVariables false
def v_Text_F (a0 : ByteArray) : Vl :=
  Vl.mk 4 0 0 a0 ([]) ([])
set_option maxRecDepth 100000 in
set_option maxHeartbeats 4000000 in
theorem v_Text_at (w0 : World) (B : List (List AV)) (Rw : List RowA) (L : List LoopA) (a0 : ByteArray) (r : Vl) (h : v_Text_F a0 = r) :
    ACalls Tryz.prog w0 105 [.val (.string a0)] ⟨B, Rw, L⟩ fun x st => x = .agg (r.cs) ∧ st = ⟨B, Rw, L⟩ := by
  rw [v_Text_F] at h
  refine ACalls.finP (acalls_of (rs := [.cell 2 34]) Tryz.func105 rfl rfl Tryz.ntmps105 (enters_some Tryz.func105 rfl (by decide)) (Nat.le_of_ble_eq_true rfl) ?_)
  intro M0 W0 hN hNR hNL hcalm hu
  dsimp only at hN hNR hNL hcalm hu
  simp only [argsE]
  have hO := Owns.none Rw
  have hs := fact0
  refine rg [0, 2] hs ?_
  apply awp_seq; intro K2 hK2
  apply awp_region 1 [2]
  rw [evK_succ]; simp +decide only [go_sem, Nat.reduceAdd, fillA, fillOk, placeT]
  (repeat' apply And.intro) <;> first | refine hK2 _ _ ?_ | exact cl
  clear hK2
  apply awp_ret; simp +decide only [go_sem, Nat.reduceAdd]
  subst h
  first | refine fin_q0 hcalm rfl hO.pre ev ⟨?_, rfl⟩ | refine fin_q hcalm rfl hO.pre ev ⟨?_, rfl⟩
  first | rfl | (simp +decide only [go_sem, Nat.reduceAdd]; done) | (simp +decide only [go_sem, Nat.reduceAdd, Vl.cs, Ty.cs]; done)
theorem v_Text_at' (w0 : World) (B : List (List AV)) (Rw : List RowA) (L : List LoopA) (a0 : ByteArray) :
    ACalls Tryz.prog w0 105 [.val (.string a0)] ⟨B, Rw, L⟩ fun x st => x = .agg ((v_Text_F a0).cs) ∧ st = ⟨B, Rw, L⟩ := v_Text_at w0 B Rw L a0 _ rfl
end Go.Proofs.YtggimoedcamonaaGreatDoor
namespace Go.Proofs.YtggimoedcamonaaGreatDoor
open Go Go.RowKit Go.Ev
set_option linter.unusedSimpArgs false
set_option linter.unusedVariables false
def s_words_k10 (n : Nat)  : Option Int :=
  some (0)
def s_words_l13 (n : Nat) (a0 : Ty) : Nat → Int → Option Int
  | 0, _ => none
  | m + 1, x23_l13 =>
    if decide (x23_l13 < ((a0.words.length : Int))) then
      (idx a0.words x23_l13).bind fun x19 =>
      (v_Check_F n (v_Text_F x19)).bind fun y22 =>
      if !(decide (y22 = 0)) then
        some (y22)
      else
        if decide (0 < x23_l13) then
          if I64 (x23_l13 - 1) then
            (idx a0.words (x23_l13 - 1)).bind fun x30 =>
            if sEq x19 x30 then
              some (7)
            else
              if I64 (x23_l13 - 1) then
                if sLt x19 x30 then
                  some (24)
                else
                  if I64 (x23_l13 + 1) then
                    (s_words_l13 n a0 m) (x23_l13 + 1)
                  else none
              else none
          else none
        else
          if I64 (x23_l13 + 1) then
            (s_words_l13 n a0 m) (x23_l13 + 1)
          else none
    else
      s_words_k10 n 
def s_words_F (n : Nat) (a0 : Ty) : Option Int :=
  if (!(decide (a0.min = 0))) || (!(decide (a0.max = 0))) then
    some (3)
  else
    if decide (64 < ((a0.words.length : Int))) then
      some (9)
    else
      s_words_l13 n a0 n 0
set_option maxRecDepth 100000 in
set_option maxHeartbeats 4000000 in
theorem s_words_at (w0 : World) (hT : Lib.Utf8Tabs 0 1 w0) (n : Nat) (B : List (List AV)) (Rw : List RowA) (L : List LoopA) (a0 : Ty) (r : Int) (h : s_words_F n a0 = some r) :
    ACalls Tryz.prog w0 142 [.agg (a0.cs)] ⟨B, Rw, L⟩ fun x st => x = .val (.int .i64 r) ∧ st = ⟨B, Rw, L⟩ := by
  rw [s_words_F] at h
  refine ACalls.finP (acalls_of (rs := [.tmp 2]) Tryz.func142 rfl rfl Tryz.ntmps142 (enters_some Tryz.func142 rfl (by decide)) (Nat.le_of_ble_eq_true rfl) ?_)
  intro M0 W0 hN hNR hNL hcalm hu
  dsimp only at hN hNR hNL hcalm hu
  simp only [argsE]
  have hO := Owns.none Rw
  have hs := fact0
  refine rg [1] hs ?_
  apply awp_seq; intro K2 hK2
  apply awp_block
  refine rg [1, 6] hs ?_
  refine cnd h hs (fun hs h => ?_) (fun hs h => ?_)
  · skip
    have hb4 := hs.1
    refine rg [2] hs ?_
    exact rt h hs hcalm hO
  have hb4 := hs.1
  refine rg [1, 15] hs ?_
  refine cnd h hs (fun hs h => ?_) (fun hs h => ?_)
  · skip
    have hb7 := hs.1
    refine rg [2] hs ?_
    exact rt h hs hcalm hO
  have hb7 := hs.1
  refine sk [1] hs hK2 ?_
  clear hK2
  refine awp_mid (fun e st => ∃ (X_k10 : List (List AV)) (rows_k10 : List RowA), e = [] ∧ st = ⟨B ++ ([a0.cs] ++ X_k10), rows_k10, L⟩ ∧ Owns Rw rows_k10 [] ∧ s_words_k10 n  = some r) ?_ ?_
  · intro K11 hK11
    refine rg [1, 21, 22, 23] hs ?_
    apply awp_block
    refine awp_loop (fun m e st => ∃ (x23_l13 : Int) (X_l13 : List (List AV)) (rows_l13 : List RowA), e = [(1, true, .box B.length 0), (21, true, .list (a0.words.map avS) .none), (22, true, .val (.int .i64 ((a0.words.length : Int)))), (23, true, .val (.int .i64 x23_l13))] ∧ st = ⟨B ++ ([a0.cs] ++ X_l13), rows_l13, L⟩ ∧ Owns Rw rows_l13 [] ∧ s_words_l13 n a0 m x23_l13 = some r) n ⟨0, ([]), Rw, ef hs, ef hs, hO, h⟩ ?_
    rintro m_l13 e st ⟨x23_l13, X_l13, rows_l13, rfl, rfl, hO, h⟩ KR_l13 hKR_l13
    cases m_l13 with
    | zero => cases h
    | succ m_l13 =>
    rw [s_words_l13] at h
    refine td hN hNR hNL hcalm hO ?_
    refine rg [1, 21, 22, 23, 24] hs ?_
    apply awp_seq; intro K15 hK15
    refine cnd h hs (fun hs h => ?_) (fun hs h => ?_)
    rotate_left
    · skip
      have hb16 := hs.1
      refine sx [] hs hK11 ?_
      exact ⟨([]), rows_l13, ef hs, ef hs, hO, h⟩
    have hb16 := hs.1
    refine sk [1, 21, 22, 23] hs hK15 ?_
    clear hK15
    apply awp_seq; intro K17 hK17
    apply awp_block
    obtain ⟨x19, hx19, h⟩ := bind_some h
    obtain ⟨hx19a, hx19b, hx19c⟩ := idx_some hx19
    have hx19d := getD_map (f := avS) hx19c
    have hs := And.intro hx19d hs
    refine rg [1, 3, 4, 21, 22, 23] hs ?_
    apply awp_seq; intro K20 hK20
    obtain ⟨y22, hy22, h⟩ := bind_some h
    refine rc 3 [1, 3, 4, 5, 21, 22, 23] hs ?_; intro K21 hK21
    refine callK_p _ (v_Text_at' w0 _ _ _ x19) (hv hs) ?_
    refine nc hs ?_
    refine callK_p _ (v_Check_at w0 hT n _ _ _ (v_Text_F x19) _ hy22) (hv hs) ?_
    refine ne hs hK21 ?_
    clear hK21
    refine rg [1, 3, 4, 5, 21, 22, 23, 32] hs ?_
    refine cnd h hs (fun hs h => ?_) (fun hs h => ?_)
    · skip
      have hb24 := hs.1
      refine rg [2] hs ?_
      exact rt h hs hcalm hO
    have hb24 := hs.1
    refine sk [1, 3, 4, 21, 22, 23] hs hK20 ?_
    clear hK20
    apply awp_seq; intro K26 hK26
    apply awp_seq; intro K27 hK27
    rcases Bool.eq_false_or_eq_true (decide (0 < x23_l13)) with hf28 | hf28
    · replace h := ite_tt h hf28
      obtain ⟨hg29, h⟩ := guard_some h
      obtain ⟨x30, hx30, h⟩ := bind_some h
      obtain ⟨hx30a, hx30b, hx30c⟩ := idx_some hx30
      have hx30d := getD_map (f := avS) hx30c
      apply awp_region 1 [1, 3, 4, 21, 22, 23, 45]
      rw [evK_succ]; simp +decide only [go_sem, Nat.reduceAdd, hb4, hb7, hb16, hx19d, hb24, hf28, hx30d]
      (repeat' apply And.intro) <;> first | refine hK27 _ _ ?_ | exact cl
      clear hK27
      have hs := And.intro hf28 hs
      have hs := And.intro hx30d hs
      refine cnd h hs (fun hs h => ?_) (fun hs h => ?_)
      · skip
        have hb31 := hs.1
        refine rg [2] hs ?_
        exact rt h hs hcalm hO
      have hb31 := hs.1
      refine sk [1, 3, 4, 21, 22, 23] hs hK26 ?_
      clear hK26
      obtain ⟨hg34, h⟩ := guard_some h
      refine rg [1, 21, 22, 23, 57] hs ?_
      refine cnd h hs (fun hs h => ?_) (fun hs h => ?_)
      · skip
        have hb35 := hs.1
        refine rg [2] hs ?_
        exact rt h hs hcalm hO
      have hb35 := hs.1
      refine sk [1, 21, 22, 23] hs hK17 ?_
      clear hK17
      obtain ⟨hg37, h⟩ := guard_some h
      apply awp_region 1 [1, 21, 22, 23]
      rw [evK_succ]; simp +decide only [go_sem, Nat.reduceAdd, hb4, hb7, hb16, hx19d, hb24, hf28, hx30d, hb31, hb35]
      (repeat' apply And.intro) <;> first | refine hKR_l13 m_l13 _ _ (Nat.lt_succ_self m_l13) ⟨(x23_l13 + 1), ([]), rows_l13, ef hs, ef hs, hO, h⟩ | exact cl
    · replace h := ite_ff h hf28
      apply awp_region 1 [1, 3, 4, 21, 22, 23, 45]
      rw [evK_succ]; simp +decide only [go_sem, Nat.reduceAdd, hb4, hb7, hb16, hx19d, hb24, hf28]
      (repeat' apply And.intro) <;> first | refine hK27 _ _ ?_ | exact cl
      clear hK27
      have hs := And.intro hf28 hs
      refine awp_cond false ev (ef hs) (fun hb38 => by cases hb38) (fun hb38 => ?_)
      refine sk [1, 3, 4, 21, 22, 23] hs hK26 ?_
      clear hK26
      refine rg [1, 21, 22, 23, 57] hs ?_
      refine awp_cond false ev (ef hs) (fun hb40 => by cases hb40) (fun hb40 => ?_)
      refine sk [1, 21, 22, 23] hs hK17 ?_
      clear hK17
      obtain ⟨hg41, h⟩ := guard_some h
      apply awp_region 1 [1, 21, 22, 23]
      rw [evK_succ]; simp +decide only [go_sem, Nat.reduceAdd, hb4, hb7, hb16, hx19d, hb24, hf28]
      (repeat' apply And.intro) <;> first | refine hKR_l13 m_l13 _ _ (Nat.lt_succ_self m_l13) ⟨(x23_l13 + 1), ([]), rows_l13, ef hs, ef hs, hO, h⟩ | exact cl
  · clear h; rintro e st ⟨X_k10, rows_k10, rfl, rfl, hO, h⟩
    rw [s_words_k10] at h
    refine td hN hNR hNL hcalm hO ?_
    refine rg [2] hs ?_
    exact rt h hs hcalm hO
end Go.Proofs.YtggimoedcamonaaGreatDoor
namespace Go.Proofs.YtggimoedcamonaaGreatDoor
open Go Go.RowKit Go.Ev
set_option linter.unusedSimpArgs false
set_option linter.unusedVariables false
def s_own_k45 (n : Nat)  : Option Int :=
  some (0)
def s_own_l48 (n : Nat) (a0 : Ty) : Nat → Int → Option Int
  | 0, _ => none
  | m + 1, x106_l48 =>
    if decide (x106_l48 < ((a0.fields.length : Int))) then
      (s_field_F n a0 x106_l48).bind fun y55 =>
      if !(decide (y55 = 0)) then
        some (y55)
      else
        if I64 (x106_l48 + 1) then
          (s_own_l48 n a0 m) (x106_l48 + 1)
        else none
    else
      s_own_k45 n 
def s_own_k32 (n : Nat) (a0 : Ty) (x69_k32 : Bool) : Option Int :=
  if x69_k32 then
    some (4)
  else
    if (decide (a0.kind = 8)) && (decide (1 < ((a0.elem.length : Int)))) then
      some (3)
    else
      if decide (64 < ((a0.fields.length : Int))) then
        some (9)
      else
        s_own_l48 n a0 n 0
def s_own_k14 (n : Nat) (a0 : Ty) : Option Int :=
  if (decide (a0.kind = 8)) && (decide (((a0.elem.length : Int)) = 0)) then
    s_own_k32 n a0 true
  else
    s_own_k32 n a0 ((decide (a0.kind = 10)) && (decide (((a0.fields.length : Int)) = 0)))
def s_own_k24 (n : Nat) (a0 : Ty) (x37_k24 : Bool) : Option Int :=
  if x37_k24 then
    some (2)
  else
    s_own_k14 n a0 
def s_own_F (n : Nat) (a0 : Ty) : Option Int :=
  if !(decide (1 ≤ a0.kind) && decide (a0.kind ≤ 10)) then
    some (11)
  else
    (idx (s_kinds_F ) a0.kind).bind fun x7 =>
    if !(decide ((s_form_F a0 x7) = 0)) then
      some (s_form_F a0 x7)
    else
      if (decide (a0.kind = 4)) && (decide (0 < ((a0.words.length : Int)))) then
        (s_words_F n a0).bind fun y19 =>
        if !(decide (y19 = 0)) then
          some (y19)
        else
          s_own_k14 n a0 
      else
        if x7.bounds && (((decide (a0.max < a0.min)) || (decide (a0.min < x7.low))) || (decide (x7.high < a0.max))) then
          s_own_k24 n a0 true
        else
          s_own_k24 n a0 (x7.scale && (!(decide (0 ≤ a0.scale) && decide (a0.scale ≤ 12))))
set_option maxRecDepth 100000 in
set_option maxHeartbeats 4000000 in
theorem s_own_at (w0 : World) (hT : Lib.Utf8Tabs 0 1 w0) (n : Nat) (B : List (List AV)) (Rw : List RowA) (L : List LoopA) (a0 : Ty) (r : Int) (h : s_own_F n a0 = some r) :
    ACalls Tryz.prog w0 97 [.agg (a0.cs)] ⟨B, Rw, L⟩ fun x st => x = .val (.int .i64 r) ∧ st = ⟨B, Rw, L⟩ := by
  rw [s_own_F] at h
  refine ACalls.finP (acalls_of (rs := [.tmp 2]) Tryz.func97 rfl rfl Tryz.ntmps97 (enters_some Tryz.func97 rfl (by decide)) (Nat.le_of_ble_eq_true rfl) ?_)
  intro M0 W0 hN hNR hNL hcalm hu
  dsimp only at hN hNR hNL hcalm hu
  simp only [argsE]
  have hO := Owns.none Rw
  have hs := fact0
  refine rg [1] hs ?_
  apply awp_seq; intro K2 hK2
  refine rc 2 [1, 11] hs ?_; intro K3 hK3
  refine callK_p _ (in_at w0 _ _ _ a0.kind 1 10) (hv hs) ?_
  refine ne hs hK3 ?_
  clear hK3
  refine cnd h hs (fun hs h => ?_) (fun hs h => ?_)
  · skip
    have hb4 := hs.1
    refine rg [2] hs ?_
    exact rt h hs hcalm hO
  have hb4 := hs.1
  refine sk [1] hs hK2 ?_
  clear hK2
  apply awp_seq; intro K6 hK6
  obtain ⟨x7, hx7, h⟩ := bind_some h
  obtain ⟨hx7a, hx7b, hx7c⟩ := idx_some hx7
  have hx7d := flatMap_idx8 (f := fun x => (avLm x).cells) 8 (fun _ => rfl) hx7c
  have hx7n : (s_kinds_F ).length = 11 := rfl
  first | rw [hx7n] at hx7b | simp only [List.length_cons, List.length_nil, Nat.reduceAdd, Nat.zero_add] at hx7b
  simp only [avI_eq, avB_eq, avS_eq, avV_eq, avT_eq, avF_eq, avTF_eq, avPt_eq, avL_eq, avSch_eq, avItm_eq, avLm_eq, ev_AV_cells_agg] at hx7d
  apply awp_any mix [4, 5] [1, 3] (by kernel_rfl) (fun s => ∃ (X : List (List AV)) (rows : List RowA), s = ⟨B ++ ([a0.cs] ++ X), rows, L⟩) 3 (B.length + 1)
  · simp +decide only [go_sem, Nat.reduceAdd]
  · rintro s ⟨X, rows, rfl⟩
    refine ⟨2, ?_⟩
    rw [evK_succ]; simp +decide only [go_sem, Nat.reduceAdd, skipE, hb4, hx7d, Nat.mul_one]
    (repeat' apply And.intro) <;> first | refine callK_p _ (s_kinds_at' w0 _ _ _ ) (by first | rfl | (simp +decide only [go_sem, Nat.reduceAdd, hb4, hx7d, Nat.mul_one]; done) | (simp +decide only [go_sem, Nat.reduceAdd, Vl.cs, Ty.cs, hb4, hx7d, Nat.mul_one]; done)) ?_ | exact cl
    rw [evK_succ]; simp +decide only [go_sem, Nat.reduceAdd, hb4, hx7d, Nat.mul_one]
    (repeat' apply And.intro) <;> first | rfl | exact cl
  · skip
    refine Good.mk [4] (by kernel_rfl) ⟨[], _, by first | rfl | simp only [List.append_nil, List.nil_append]⟩ ?_ ?_
    · intro h; exact absurd h (by decide)
    · intro i hi; simp only [List.mem_cons, List.not_mem_nil, or_false] at hi
      subst hi
      · apply good_step rfl rfl ev
        · simp +decide only [go_sem, Nat.reduceAdd, StepOk, hb4, hx7d, Nat.mul_one]
          (repeat' apply And.intro) <;> first | rfl | exact cl
        · simp +decide only [go_sem, Nat.reduceAdd, hb4, hx7d, Nat.mul_one]
          refine Good.mk [5] (by kernel_rfl) ⟨_, _, by first | rfl | simp only [List.append_nil, List.nil_append]⟩ ?_ ?_
          · intro h; exact absurd h (by decide)
          · intro i hi; simp only [List.mem_cons, List.not_mem_nil, or_false] at hi
            subst hi
            · apply good_step rfl rfl ev
              · simp +decide only [go_sem, Nat.reduceAdd, StepOk, hb4, hx7d, Nat.mul_one]
                (repeat' apply And.intro) <;> first | rfl | exact cl
              · simp +decide only [go_sem, Nat.reduceAdd, hb4, hx7d, Nat.mul_one]
                refine Good.mk [] (by kernel_rfl) ⟨_, _, by first | rfl | simp only [List.append_nil, List.nil_append]⟩ ?_ ?_
                · intro _; apply conv_keep [1, 3]; first | (simp +decide only [go_sem, Nat.reduceAdd, hb4, hx7d, Nat.mul_one]; done) | (simp +decide only [go_sem, Nat.reduceAdd, hb4, hx7d, Nat.mul_one]; rfl)
                · intro i hi; cases hi
  simp +decide only [go_sem, Nat.reduceAdd, hb4, hx7d, Nat.mul_one]
  (repeat' apply And.intro) <;> first | refine hK6 _ _ ?_ | exact cl
  clear hK6
  apply awp_seq; intro K8 hK8
  have hs := And.intro hx7d hs
  refine rc 2 [1, 3, 4] hs ?_; intro K9 hK9
  refine callK_p _ (s_form_at' w0 _ _ _ a0 x7) (hv hs) ?_
  refine ne hs hK9 ?_
  clear hK9
  refine rg [1, 3, 4, 20] hs ?_
  refine cnd h hs (fun hs h => ?_) (fun hs h => ?_)
  · skip
    have hb11 := hs.1
    refine rg [2] hs ?_
    exact rt h hs hcalm hO
  have hb11 := hs.1
  refine sk [1, 3] hs hK8 ?_
  clear hK8
  refine awp_mid (fun e st => ∃ (X_k14 : List (List AV)) (rows_k14 : List RowA), e = [(1, true, .box B.length 0)] ∧ st = ⟨B ++ ([a0.cs, .val (.string x7.name) :: (.val (.int .i64 x7.low) :: (.val (.int .i64 x7.high) :: (.val (.bool x7.bounds) :: (.val (.bool x7.scale) :: (.val (.bool x7.text) :: (.val (.bool x7.list) :: ([.val (.bool x7.fields)])))))))] ++ X_k14), rows_k14, L⟩ ∧ Owns Rw rows_k14 [] ∧ s_own_k14 n a0  = some r) ?_ ?_
  · intro K15 hK15
    apply awp_block
    refine rg [1, 3, 22] hs ?_
    refine cnd h hs (fun hs h => ?_) (fun hs h => ?_)
    · skip
      have hb17 := hs.1
      obtain ⟨y19, hy19, h⟩ := bind_some h
      refine rc 2 [1, 5] hs ?_; intro K18 hK18
      refine callK_p _ (s_words_at w0 hT n _ _ _ a0 _ hy19) (hv hs) ?_
      refine ne hs hK18 ?_
      clear hK18
      refine rg [1, 5, 35] hs ?_
      refine cnd h hs (fun hs h => ?_) (fun hs h => ?_)
      · skip
        refine rg [2] hs ?_
        exact rt h hs hcalm hO
      refine sk [1] hs hK15 ?_
      exact ⟨([]), Rw, ef hs, ef hs, hO, h⟩
    have hb17 := hs.1
    refine awp_mid (fun e st => ∃ (x37_k24 : Bool) (X_k24 : List (List AV)) (rows_k24 : List RowA), e = [(1, true, .box B.length 0), (37, true, .val (.bool x37_k24))] ∧ st = ⟨B ++ ([a0.cs, .val (.string x7.name) :: (.val (.int .i64 x7.low) :: (.val (.int .i64 x7.high) :: (.val (.bool x7.bounds) :: (.val (.bool x7.scale) :: (.val (.bool x7.text) :: (.val (.bool x7.list) :: ([.val (.bool x7.fields)])))))))] ++ X_k24), rows_k24, L⟩ ∧ Owns Rw rows_k24 [] ∧ s_own_k24 n a0 x37_k24 = some r) ?_ ?_
    · intro K25 hK25
      refine rg [1, 3, 37] hs ?_
      refine cnd h hs (fun hs h => ?_) (fun hs h => ?_)
      · skip
        have hb27 := hs.1
        refine sk [1, 37] hs hK25 ?_
        exact ⟨true, ([]), Rw, ef hs, ef hs, hO, h⟩
      have hb27 := hs.1
      apply awp_region 2 [1, 37]
      rw [evK_succ]; simp +decide only [go_sem, Nat.reduceAdd, hb4, hx7d, hb11, hb17, hb27]
      (repeat' apply And.intro) <;> first | refine callK_p_if _ (fun _ => in_at w0 _ _ _ a0.scale 0 12) (hv hs) ?_ | exact cl
      rw [evK_succ]; simp +decide only [go_sem, Nat.reduceAdd, hb4, hx7d, hb11, hb17, hb27]
      (repeat' apply And.intro) <;> first | refine hK25 _ _ ⟨(x7.scale && (!(decide (0 ≤ a0.scale) && decide (a0.scale ≤ 12)))), ([]), Rw, ef hs, ef hs, hO, h⟩ | exact cl
    · clear h; rintro e st ⟨x37_k24, X_k24, rows_k24, rfl, rfl, hO, h⟩
      rw [s_own_k24] at h
      refine td hN hNR hNL hcalm hO ?_
      refine cnd h hs (fun hs h => ?_) (fun hs h => ?_)
      · skip
        refine rg [2] hs ?_
        exact rt h hs hcalm hO
      refine sk [1] hs hK15 ?_
      exact ⟨([]), rows_k24, ef hs, ef hs, hO, h⟩
  · clear h; rintro e st ⟨X_k14, rows_k14, rfl, rfl, hO, h⟩
    rw [s_own_k14] at h
    refine td hN hNR hNL hcalm hO ?_
    apply awp_seq; intro K30 hK30
    apply awp_block
    refine awp_mid (fun e st => ∃ (x69_k32 : Bool) (X_k32 : List (List AV)) (rows_k32 : List RowA), e = [(1, true, .box B.length 0), (69, true, .val (.bool x69_k32))] ∧ st = ⟨B ++ ([a0.cs, .val (.string x7.name) :: (.val (.int .i64 x7.low) :: (.val (.int .i64 x7.high) :: (.val (.bool x7.bounds) :: (.val (.bool x7.scale) :: (.val (.bool x7.text) :: (.val (.bool x7.list) :: ([.val (.bool x7.fields)])))))))] ++ X_k32), rows_k32, L⟩ ∧ Owns Rw rows_k32 [] ∧ s_own_k32 n a0 x69_k32 = some r) ?_ ?_
    · intro K33 hK33
      refine rg [1, 69] hs ?_
      refine cnd h hs (fun hs h => ?_) (fun hs h => ?_)
      · skip
        have hb35 := hs.1
        refine sk [1, 69] hs hK33 ?_
        exact ⟨true, ([]), rows_k14, ef hs, ef hs, hO, h⟩
      have hb35 := hs.1
      apply awp_region 1 [1, 69]
      rw [evK_succ]; simp +decide only [go_sem, Nat.reduceAdd, hb4, hx7d, hb11, hb35]
      (repeat' apply And.intro) <;> first | refine hK33 _ _ ⟨((decide (a0.kind = 10)) && (decide (((a0.fields.length : Int)) = 0))), ([]), rows_k14, ef hs, ef hs, hO, h⟩ | exact cl
    · clear h; rintro e st ⟨x69_k32, X_k32, rows_k32, rfl, rfl, hO, h⟩
      rw [s_own_k32] at h
      refine td hN hNR hNL hcalm hO ?_
      refine cnd h hs (fun hs h => ?_) (fun hs h => ?_)
      · skip
        have hb36 := hs.1
        refine rg [2] hs ?_
        exact rt h hs hcalm hO
      have hb36 := hs.1
      refine rg [1, 88] hs ?_
      refine cnd h hs (fun hs h => ?_) (fun hs h => ?_)
      · skip
        have hb39 := hs.1
        refine rg [2] hs ?_
        exact rt h hs hcalm hO
      have hb39 := hs.1
      refine rg [1, 98] hs ?_
      refine cnd h hs (fun hs h => ?_) (fun hs h => ?_)
      · skip
        have hb42 := hs.1
        refine rg [2] hs ?_
        exact rt h hs hcalm hO
      have hb42 := hs.1
      refine sk [1] hs hK30 ?_
      clear hK30
      refine awp_mid (fun e st => ∃ (X_k45 : List (List AV)) (rows_k45 : List RowA), e = [] ∧ st = ⟨B ++ ([a0.cs, .val (.string x7.name) :: (.val (.int .i64 x7.low) :: (.val (.int .i64 x7.high) :: (.val (.bool x7.bounds) :: (.val (.bool x7.scale) :: (.val (.bool x7.text) :: (.val (.bool x7.list) :: ([.val (.bool x7.fields)])))))))] ++ X_k45), rows_k45, L⟩ ∧ Owns Rw rows_k45 [] ∧ s_own_k45 n  = some r) ?_ ?_
      · intro K46 hK46
        refine rg [1, 105, 106] hs ?_
        apply awp_block
        refine awp_loop (fun m e st => ∃ (x106_l48 : Int) (X_l48 : List (List AV)) (rows_l48 : List RowA), e = [(1, true, .box B.length 0), (105, true, .val (.int .i64 ((a0.fields.length : Int)))), (106, true, .val (.int .i64 x106_l48))] ∧ st = ⟨B ++ ([a0.cs, .val (.string x7.name) :: (.val (.int .i64 x7.low) :: (.val (.int .i64 x7.high) :: (.val (.bool x7.bounds) :: (.val (.bool x7.scale) :: (.val (.bool x7.text) :: (.val (.bool x7.list) :: ([.val (.bool x7.fields)])))))))] ++ X_l48), rows_l48, L⟩ ∧ Owns Rw rows_l48 [] ∧ s_own_l48 n a0 m x106_l48 = some r) n ⟨0, ([]), rows_k32, ef hs, ef hs, hO, h⟩ ?_
        rintro m_l48 e st ⟨x106_l48, X_l48, rows_l48, rfl, rfl, hO, h⟩ KR_l48 hKR_l48
        cases m_l48 with
        | zero => cases h
        | succ m_l48 =>
        rw [s_own_l48] at h
        refine td hN hNR hNL hcalm hO ?_
        refine rg [1, 105, 106, 107] hs ?_
        apply awp_seq; intro K50 hK50
        refine cnd h hs (fun hs h => ?_) (fun hs h => ?_)
        rotate_left
        · skip
          have hb51 := hs.1
          refine sx [] hs hK46 ?_
          exact ⟨([]), rows_l48, ef hs, ef hs, hO, h⟩
        have hb51 := hs.1
        refine sk [1, 105, 106] hs hK50 ?_
        clear hK50
        apply awp_seq; intro K52 hK52
        apply awp_block
        refine rg [1, 6, 105, 106] hs ?_
        obtain ⟨y55, hy55, h⟩ := bind_some h
        refine rc 2 [1, 7, 105, 106] hs ?_; intro K54 hK54
        refine callK_p _ (s_field_at w0 n _ _ _ a0 x106_l48 _ hy55) (hv hs) ?_
        refine ne hs hK54 ?_
        clear hK54
        refine rg [1, 7, 105, 106, 113] hs ?_
        refine cnd h hs (fun hs h => ?_) (fun hs h => ?_)
        · skip
          have hb57 := hs.1
          refine rg [2] hs ?_
          exact rt h hs hcalm hO
        have hb57 := hs.1
        refine sk [1, 105, 106] hs hK52 ?_
        clear hK52
        obtain ⟨hg59, h⟩ := guard_some h
        apply awp_region 1 [1, 105, 106]
        rw [evK_succ]; simp +decide only [go_sem, Nat.reduceAdd, hb4, hx7d, hb11, hb36, hb39, hb42, hb51, hb57]
        (repeat' apply And.intro) <;> first | refine hKR_l48 m_l48 _ _ (Nat.lt_succ_self m_l48) ⟨(x106_l48 + 1), ([]), rows_l48, ef hs, ef hs, hO, h⟩ | exact cl
      · clear h; rintro e st ⟨X_k45, rows_k45, rfl, rfl, hO, h⟩
        rw [s_own_k45] at h
        refine td hN hNR hNL hcalm hO ?_
        refine rg [2] hs ?_
        exact rt h hs hcalm hO
end Go.Proofs.YtggimoedcamonaaGreatDoor
namespace Go.Proofs.YtggimoedcamonaaGreatDoor
open Go Go.RowKit Go.Ev
set_option linter.unusedSimpArgs false
set_option linter.unusedVariables false
def s_parts_k19 (n : Nat)  (x3_k19 : List Ty) : Option ((List Ty)) :=
  some (x3_k19)
def s_parts_k3 (n : Nat)  : Option ((List Ty)) :=
  some ([])
def s_parts_l22 (n : Nat) (a0 : Ty) : Nat → (List Ty) → Int → Option ((List Ty))
  | 0, _, _ => none
  | m + 1, x3_l22, x22_l22 =>
    if decide (x22_l22 < ((a0.fields.length : Int))) then
      (idx a0.fields x22_l22).bind fun x28 =>
      if (x3_l22.length + 1) * 104 ≤ 140737488355328 ∧ x3_l22.length + 1 ≤ 4611686018427387904 then
        if I64 (x22_l22 + 1) then
          (s_parts_l22 n a0 m) (x3_l22 ++ ([x28.2.2.2.1])) (x22_l22 + 1)
        else none
      else none
    else
      s_parts_k19 n x3_l22
def s_parts_k10 (n : Nat) (a0 : Ty) (x12_k10 : Bool) : Option ((List Ty)) :=
  if x12_k10 then
    if 0 ≤ (a0.fields.length : Int) ∧ ((a0.fields.length : Int)) * 104 ≤ 140737488355328 ∧ (a0.fields.length : Int) ≤ 4611686018427387904 then
      s_parts_l22 n a0 n ([]) 0
    else none
  else
    s_parts_k3 n 
def s_parts_F (n : Nat) (a0 : Ty) : Option ((List Ty)) :=
  if decide (a0.kind = 8) then
    some (a0.elem)
  else
    if decide (a0.kind = 9) then
      s_parts_k10 n a0 true
    else
      s_parts_k10 n a0 (decide (a0.kind = 10))
set_option maxRecDepth 100000 in
set_option maxHeartbeats 4000000 in
theorem s_parts_at (w0 : World) (n : Nat) (B : List (List AV)) (Rw : List RowA) (L : List LoopA) (a0 : Ty) (r : (List Ty)) (h : s_parts_F n a0 = some r) :
    ACalls Tryz.prog w0 77 [.agg (a0.cs)] ⟨B, Rw, L⟩ fun x st => x = .list (r.map avT) .none ∧ st = ⟨B, Rw, L⟩ := by
  rw [s_parts_F] at h
  refine ACalls.finP (acalls_of (rs := [.tmp 2]) Tryz.func77 rfl rfl Tryz.ntmps77 (enters_some Tryz.func77 rfl (by decide)) (Nat.le_of_ble_eq_true rfl) ?_)
  intro M0 W0 hN hNR hNL hcalm hu
  dsimp only at hN hNR hNL hcalm hu
  simp only [argsE]
  have hO := Owns.none Rw
  have hs := fact0
  refine rg [1] hs ?_
  refine awp_mid (fun e st => ∃ (X_k3 : List (List AV)) (rows_k3 : List RowA), e = [] ∧ st = ⟨B ++ ([a0.cs] ++ X_k3), rows_k3, L⟩ ∧ Owns Rw rows_k3 [] ∧ s_parts_k3 n  = some r) ?_ ?_
  · intro K4 hK4
    refine rg [1, 7] hs ?_
    apply awp_block
    refine rg [1, 7, 8] hs ?_
    refine cnd h hs (fun hs h => ?_) (fun hs h => ?_)
    · skip
      have hb7 := hs.1
      refine rg [2] hs ?_
      exact rt h hs hcalm hO
    have hb7 := hs.1
    refine awp_mid (fun e st => ∃ (x12_k10 : Bool) (X_k10 : List (List AV)) (rows_k10 : List RowA), e = [(1, true, .box B.length 0), (12, true, .val (.bool x12_k10))] ∧ st = ⟨B ++ ([a0.cs] ++ X_k10), rows_k10, L⟩ ∧ Owns Rw rows_k10 [] ∧ s_parts_k10 n a0 x12_k10 = some r) ?_ ?_
    · intro K11 hK11
      refine rg [1, 7, 12] hs ?_
      refine cnd h hs (fun hs h => ?_) (fun hs h => ?_)
      · skip
        have hb13 := hs.1
        refine sk [1, 12] hs hK11 ?_
        exact ⟨true, ([]), Rw, ef hs, ef hs, hO, h⟩
      have hb13 := hs.1
      apply awp_region 1 [1, 12]
      rw [evK_succ]; simp +decide only [go_sem, Nat.reduceAdd, hb7, hb13]
      (repeat' apply And.intro) <;> first | refine hK11 _ _ ⟨(decide (a0.kind = 10)), ([]), Rw, ef hs, ef hs, hO, h⟩ | exact cl
    · clear h; rintro e st ⟨x12_k10, X_k10, rows_k10, rfl, rfl, hO, h⟩
      rw [s_parts_k10] at h
      refine td hN hNR hNL hcalm hO ?_
      refine cnd h hs (fun hs h => ?_) (fun hs h => ?_)
      · skip
        have hb14 := hs.1
        obtain ⟨hg16, h⟩ := guard_some h
        have hO := hO.make 7 0
        refine rg [1, 3] hs ?_
        refine awp_mid (fun e st => ∃ (x3_k19 : List Ty) (ox3_k19 : Ev.Own) (X_k19 : List (List AV)) (rows_k19 : List RowA), e = [(3, true, .list (x3_k19.map avT) ox3_k19)] ∧ st = ⟨B ++ ([a0.cs] ++ X_k19), rows_k19, L⟩ ∧ Owns Rw rows_k19 [(7, x3_k19.length, ox3_k19)] ∧ s_parts_k19 n x3_k19 = some r) ?_ ?_
        · intro K20 hK20
          refine rg [3, 20, 21, 22] hs ?_
          apply awp_block
          refine awp_loop (fun m e st => ∃ (x3_l22 : List Ty) (x22_l22 : Int) (ox3_l22 : Ev.Own) (X_l22 : List (List AV)) (rows_l22 : List RowA), e = [(3, true, .list (x3_l22.map avT) ox3_l22), (20, true, .list (a0.fields.map avTF) .none), (21, true, .val (.int .i64 ((a0.fields.length : Int)))), (22, true, .val (.int .i64 x22_l22))] ∧ st = ⟨B ++ ([a0.cs] ++ X_l22), rows_l22, L⟩ ∧ Owns Rw rows_l22 [(7, x3_l22.length, ox3_l22)] ∧ s_parts_l22 n a0 m x3_l22 x22_l22 = some r) n ⟨([]), 0, ((.row rows_k10.length)), ([]), ((rows_k10 ++ [.grow 0 7])), ef hs, ef hs, Owns.of_eq (hO) (by first | rfl | simp only [List.length_append, List.length_cons, List.length_nil, List.length_map, Nat.zero_add, Nat.add_zero]), h⟩ ?_
          rintro m_l22 e st ⟨x3_l22, x22_l22, ox3_l22, X_l22, rows_l22, rfl, rfl, hO, h⟩ KR_l22 hKR_l22
          cases m_l22 with
          | zero => cases h
          | succ m_l22 =>
          rw [s_parts_l22] at h
          have hU := hO.unders
          simp only [List.mem_cons, List.not_mem_nil, or_false, forall_eq_or_imp, forall_eq] at hU
          refine td hN hNR hNL hcalm hO ?_
          refine rg [3, 20, 21, 22, 23] hs ?_
          apply awp_seq; intro K24 hK24
          refine cnd h hs (fun hs h => ?_) (fun hs h => ?_)
          rotate_left
          · skip
            have hb25 := hs.1
            refine sx [3] hs hK20 ?_
            exact ⟨x3_l22, ox3_l22, ([]), rows_l22, ef hs, ef hs, Owns.of_eq (hO) (by first | rfl | simp only [List.length_append, List.length_cons, List.length_nil, List.length_map, Nat.zero_add, Nat.add_zero]), h⟩
          have hb25 := hs.1
          refine sk [3, 20, 21, 22] hs hK24 ?_
          clear hK24
          apply awp_seq; intro K26 hK26
          apply awp_block
          obtain ⟨x28, hx28, h⟩ := bind_some h
          obtain ⟨hx28a, hx28b, hx28c⟩ := idx_some hx28
          have hx28d := getD_map (f := avTF) hx28c
          have hs := And.intro hx28d hs
          refine rg [3, 5, 20, 21, 22] hs ?_
          obtain ⟨hg29, h⟩ := guard_some h
          obtain ⟨o30, rows31, hO, hap32⟩ := hO.append (P := Tryz.prog) elT_23 (by rw [zeroT_26]; rfl) (by decide) 1 hg29.1 hg29.2
          replace hap32 := fun (ys : List AV) B L o2 => hap32 (x3_l22.map avT) ys B L o2 (by first | rfl | simp only [List.length_map, List.length_nil, List.length_append, List.length_cons, Nat.zero_add])
          replace hap32 := fun (y : AV) B L o2 => hap32 [y] B L o2 (by first | rfl | simp only [List.length_map, List.length_nil, List.length_cons]) ev
          try simp only [List.mem_singleton, List.mem_cons, List.not_mem_nil, or_false, forall_eq_or_imp, forall_eq, List.map_append, List.map_cons, List.map_nil, avI_eq, avB_eq, avS_eq, avV_eq, avT_eq, avF_eq, avTF_eq, avPt_eq, avL_eq, avSch_eq, avItm_eq, avLm_eq] at hap32
          apply awp_region 1 [3, 20, 21, 22]
          rw [evK_succ]; simp +decide only [go_sem, Nat.reduceAdd, hb7, hb14, hb25, hx28d, hap32]
          (repeat' apply And.intro) <;> first | refine hK26 _ _ ?_ | exact cl
          clear hK26
          obtain ⟨hg33, h⟩ := guard_some h
          apply awp_region 1 [3, 20, 21, 22]
          rw [evK_succ]; simp +decide only [go_sem, Nat.reduceAdd, hb7, hb14, hb25, hx28d, hap32]
          have hs := And.intro hap32 hs
          (repeat' apply And.intro) <;> first | refine hKR_l22 m_l22 _ _ (Nat.lt_succ_self m_l22) ⟨(x3_l22 ++ ([x28.2.2.2.1])), (x22_l22 + 1), o30, ([.val (.int .i64 x28.1) :: (.val (.string x28.2.1) :: (.val (.int .i64 x28.2.2.1) :: ((x28.2.2.2.1.cs) ++ ([.list (x28.2.2.2.2.map avV) .none]))))]), rows31, ef hs, ef hs, Owns.of_eq (hO) (by first | rfl | simp only [List.length_append, List.length_cons, List.length_nil, List.length_map, Nat.zero_add, Nat.add_zero]), h⟩ | exact cl
        · clear h; rintro e st ⟨x3_k19, ox3_k19, X_k19, rows_k19, rfl, rfl, hO, h⟩
          rw [s_parts_k19] at h
          have hU := hO.unders
          simp only [List.mem_cons, List.not_mem_nil, or_false, forall_eq_or_imp, forall_eq] at hU
          refine td hN hNR hNL hcalm hO ?_
          refine rg [2] hs ?_
          exact rt h hs hcalm hO
      have hb14 := hs.1
      refine sk [] hs hK4 ?_
      exact ⟨([]), rows_k10, ef hs, ef hs, hO, h⟩
  · clear h; rintro e st ⟨X_k3, rows_k3, rfl, rfl, hO, h⟩
    rw [s_parts_k3] at h
    refine td hN hNR hNL hcalm hO ?_
    refine rg [2] hs ?_
    exact rt h hs hcalm hO
end Go.Proofs.YtggimoedcamonaaGreatDoor
namespace Go.Proofs.YtggimoedcamonaaGreatDoor
open Go Go.RowKit Go.Ev
set_option linter.unusedSimpArgs false
set_option linter.unusedVariables false
def s_check_k18 (rec : Ty → Int → Int → Option (Int × Int)) (n : Nat)  (pla2_k18 : Int) : Option (Int × Int) :=
  some ((0, pla2_k18))
def s_check_l22 (rec : Ty → Int → Int → Option (Int × Int)) (n : Nat) (a0 : Ty) (a1 : Int) (y21 : (List Ty)) : Nat → Int → Int → Option (Int × Int)
  | 0, _, _ => none
  | m + 1, x32_l22, pla2_l22 =>
    if decide (x32_l22 < ((y21.length : Int))) then
      (idx y21 x32_l22).bind fun x28 =>
      if I64 (a1 + 1) then
        (rec x28 (a1 + 1) pla2_l22).bind fun y32 =>
        if !(decide (y32.1 = 0)) then
          some ((y32.1, y32.2))
        else
          if decide (a0.kind = 9) then
            (idx a0.fields x32_l22).bind fun x38 =>
            if decide (x38.2.2.1 = 3) then
              (idx x38.2.2.2.2 0).bind fun x40 =>
              (s_accepts_F n x28 x40).bind fun y41 =>
              if !y41 then
                some ((18, y32.2))
              else
                if I64 (x32_l22 + 1) then
                  (s_check_l22 rec n a0 a1 y21 m) (x32_l22 + 1) y32.2
                else none
            else
              if I64 (x32_l22 + 1) then
                (s_check_l22 rec n a0 a1 y21 m) (x32_l22 + 1) y32.2
              else none
          else
            if I64 (x32_l22 + 1) then
              (s_check_l22 rec n a0 a1 y21 m) (x32_l22 + 1) y32.2
            else none
      else none
    else
      s_check_k18 rec n pla2_l22
def s_check_B (rec : Ty → Int → Int → Option (Int × Int)) (n : Nat) (a0 : Ty) (a1 : Int) (a2 : Int) : Option (Int × Int) :=
  if decide (a2 = 0) then
    some ((9, a2))
  else
    if decide (8 < a1) then
      some ((23, a2))
    else
      if I64 (a2 - 1) then
        (s_own_F n a0).bind fun y13 =>
        if !(decide (y13 = 0)) then
          some ((y13, a2 - 1))
        else
          (s_parts_F n a0).bind fun y21 =>
          s_check_l22 rec n a0 a1 y21 n 0 (a2 - 1)
      else none
def s_check_F : Nat → Ty → Int → Int → Option (Int × Int)
  | 0, _, _, _ => none
  | n + 1, a0, a1, a2 => s_check_B (s_check_F n) n a0 a1 a2
set_option maxRecDepth 100000 in
set_option maxHeartbeats 4000000 in
theorem s_check_step (w0 : World) (hT : Lib.Utf8Tabs 0 1 w0) (rec : Ty → Int → Int → Option (Int × Int)) (ih : ∀ (B : List (List AV)) (Rw : List RowA) (L : List LoopA) (a0 : Ty) (a1 : Int) (la2 : Nat) (a2 : Int) (hla2 : B[la2]? = some ([.val (.int .i64 a2)])) (r : Int × Int) (h : rec a0 a1 a2 = some r), ACalls Tryz.prog w0 53 [.agg (a0.cs), .val (.int .i64 a1), .box la2 0] ⟨B, Rw, L⟩ fun x st => x = .val (.int .i64 r.1) ∧ st = ⟨(B.set la2 [.val (.int .i64 r.2)]), Rw, L⟩) (n : Nat) (B : List (List AV)) (Rw : List RowA) (L : List LoopA) (a0 : Ty) (a1 : Int) (la2 : Nat) (a2 : Int) (hla2 : B[la2]? = some ([.val (.int .i64 a2)])) (r : Int × Int) (h : s_check_B rec n a0 a1 a2 = some r) :
    ACalls Tryz.prog w0 53 [.agg (a0.cs), .val (.int .i64 a1), .box la2 0] ⟨B, Rw, L⟩ fun x st => x = .val (.int .i64 r.1) ∧ st = ⟨(B.set la2 [.val (.int .i64 r.2)]), Rw, L⟩ := by
  rw [s_check_B] at h
  refine ACalls.finP (acalls_of (rs := [.tmp 6]) Tryz.func53 rfl rfl Tryz.ntmps53 (enters_some Tryz.func53 rfl (by decide)) (Nat.le_of_ble_eq_true rfl) ?_)
  intro M0 W0 hN hNR hNL hcalm hu
  dsimp only at hN hNR hNL hcalm hu
  simp only [argsE]
  have hO := Owns.none Rw
  have hs := fact0
  have hltla2 := (List.getElem?_eq_some_iff.1 hla2).1
  have hs := And.intro (ptr_of hla2) hs
  refine rg [1, 2, 3] hs ?_
  apply awp_seq; intro K2 hK2
  apply awp_block
  refine rg [1, 2, 3, 11] hs ?_
  refine cnd h hs (fun hs h => ?_) (fun hs h => ?_)
  · skip
    have hb4 := hs.1
    refine rg [6] hs ?_
    exact rt h hs hcalm hO
  have hb4 := hs.1
  refine rg [1, 2, 3, 16] hs ?_
  refine cnd h hs (fun hs h => ?_) (fun hs h => ?_)
  · skip
    have hb7 := hs.1
    refine rg [6] hs ?_
    exact rt h hs hcalm hO
  have hb7 := hs.1
  refine sk [1, 2, 3] hs hK2 ?_
  clear hK2
  obtain ⟨hg10, h⟩ := guard_some h
  refine rg [1, 2, 3] hs ?_
  apply awp_seq; intro K11 hK11
  obtain ⟨y13, hy13, h⟩ := bind_some h
  refine rc 2 [1, 2, 3, 7] hs ?_; intro K12 hK12
  refine callK_p _ (s_own_at w0 hT n _ _ _ a0 _ hy13) (hv hs) ?_
  refine ne hs hK12 ?_
  clear hK12
  refine rg [1, 2, 3, 7, 27] hs ?_
  refine cnd h hs (fun hs h => ?_) (fun hs h => ?_)
  · skip
    have hb15 := hs.1
    refine rg [6] hs ?_
    apply awp_ret; simp +decide only [go_sem, Nat.reduceAdd, ptr_of hla2, hb4, hb7, hb15]
    have hgt := Option.some.inj h; subst hgt
    first | refine fin_q0 (calm_set hcalm ev) (by simp only [List.length_set]) hO.pre ev ⟨?_, rfl⟩ | refine fin_q (calm_set hcalm ev) (by simp only [List.length_set]) hO.pre ev ⟨?_, rfl⟩
    first | rfl | (simp +decide only [go_sem, Nat.reduceAdd, ptr_of hla2, hb4, hb7, hb15]; done) | (simp +decide only [go_sem, Nat.reduceAdd, Vl.cs, Ty.cs, ptr_of hla2, hb4, hb7, hb15]; done)
  have hb15 := hs.1
  refine sk [1, 2, 3] hs hK11 ?_
  clear hK11
  refine awp_mid (fun e st => ∃ (pla2_k18 : Int) (X_k18 : List (List AV)) (rows_k18 : List RowA), e = [] ∧ st = ⟨(B.set la2 ([.val (.int .i64 pla2_k18)])) ++ ([a0.cs] ++ X_k18), rows_k18, L⟩ ∧ Owns Rw rows_k18 [] ∧ s_check_k18 rec n pla2_k18 = some r) ?_ ?_
  · intro K19 hK19
    obtain ⟨y21, hy21, h⟩ := bind_some h
    refine rc 2 [1, 2, 3, 30, 31, 32] hs ?_; intro K20 hK20
    refine callK_p _ (s_parts_at w0 n _ _ _ a0 _ hy21) (hv hs) ?_
    refine ne hs hK20 ?_
    clear hK20
    apply awp_block
    refine awp_loop (fun m e st => ∃ (x32_l22 : Int) (pla2_l22 : Int) (X_l22 : List (List AV)) (rows_l22 : List RowA), e = [(1, true, .val (.int .i64 a1)), (2, true, .box la2 0), (3, true, .box B.length 0), (30, true, .list (y21.map avT) .none), (31, true, .val (.int .i64 ((y21.length : Int)))), (32, true, .val (.int .i64 x32_l22))] ∧ st = ⟨(B.set la2 ([.val (.int .i64 pla2_l22)])) ++ ([a0.cs] ++ X_l22), rows_l22, L⟩ ∧ Owns Rw rows_l22 [] ∧ s_check_l22 rec n a0 a1 y21 m x32_l22 pla2_l22 = some r) n ⟨0, (a2 - 1), ([]), Rw, ef hs, ef hs, hO, h⟩ ?_
    rintro m_l22 e st ⟨x32_l22, pla2_l22, X_l22, rows_l22, rfl, rfl, hO, h⟩ KR_l22 hKR_l22
    cases m_l22 with
    | zero => cases h
    | succ m_l22 =>
    rw [s_check_l22] at h
    refine awp_tidy hN hNR hNL (by simp only [List.length_set]) (calm_set hcalm ev) hO (by (simp +decide only [go_sem, Nat.reduceAdd]) <;> (try (repeat' apply And.intro)) <;> first | omega | assumption) (by (simp +decide only [go_sem, Nat.reduceAdd, calmE]) <;> (try (repeat' apply And.intro)) <;> first | omega | assumption) ?_
    refine rg [1, 2, 3, 30, 31, 32, 33] hs ?_
    apply awp_seq; intro K24 hK24
    refine cnd h hs (fun hs h => ?_) (fun hs h => ?_)
    rotate_left
    · skip
      have hb25 := hs.1
      refine sx [] hs hK19 ?_
      exact ⟨pla2_l22, ([]), rows_l22, ef hs, ef hs, hO, h⟩
    have hb25 := hs.1
    refine sk [1, 2, 3, 30, 31, 32] hs hK24 ?_
    clear hK24
    apply awp_seq; intro K26 hK26
    apply awp_block
    obtain ⟨x28, hx28, h⟩ := bind_some h
    obtain ⟨hx28a, hx28b, hx28c⟩ := idx_some hx28
    have hx28d := getD_map (f := avT) hx28c
    have hs := And.intro hx28d hs
    refine rg [1, 2, 3, 8, 9, 30, 31, 32] hs ?_
    apply awp_seq; intro K29 hK29
    obtain ⟨hg31, h⟩ := guard_some h
    obtain ⟨y32, hy32, h⟩ := bind_some h
    refine rc 2 [1, 2, 3, 8, 9, 10, 30, 31, 32] hs ?_; intro K30 hK30
    refine callK_pp _ (ih _ _ _ x28 (a1 + 1) la2 pla2_l22 (ef hs) _ hy32) (hv hs) ?_; rintro _ _ ⟨rfl, rfl⟩
    refine ne hs hK30 ?_
    clear hK30
    refine rg [1, 2, 3, 8, 9, 10, 30, 31, 32, 43] hs ?_
    refine cnd h hs (fun hs h => ?_) (fun hs h => ?_)
    · skip
      have hb34 := hs.1
      refine rg [6] hs ?_
      apply awp_ret; simp +decide only [go_sem, Nat.reduceAdd, ptr_of hla2, hb4, hb7, hb15, hb25, hx28d, hb34]
      have hgt := Option.some.inj h; subst hgt
      first | refine fin_q0 (calm_set hcalm ev) (by simp only [List.length_set]) hO.pre ev ⟨?_, rfl⟩ | refine fin_q (calm_set hcalm ev) (by simp only [List.length_set]) hO.pre ev ⟨?_, rfl⟩
      first | rfl | (simp +decide only [go_sem, Nat.reduceAdd, ptr_of hla2, hb4, hb7, hb15, hb25, hx28d, hb34]; done) | (simp +decide only [go_sem, Nat.reduceAdd, Vl.cs, Ty.cs, ptr_of hla2, hb4, hb7, hb15, hb25, hx28d, hb34]; done)
    have hb34 := hs.1
    refine sk [1, 2, 3, 8, 9, 30, 31, 32] hs hK29 ?_
    clear hK29
    apply awp_seq; intro K36 hK36
    rcases Bool.eq_false_or_eq_true (decide (a0.kind = 9)) with hf37 | hf37
    · replace h := ite_tt h hf37
      obtain ⟨x38, hx38, h⟩ := bind_some h
      obtain ⟨hx38a, hx38b, hx38c⟩ := idx_some hx38
      have hx38d := getD_map (f := avTF) hx38c
      rcases Bool.eq_false_or_eq_true (decide (x38.2.2.1 = 3)) with hf39 | hf39
      · replace h := ite_tt h hf39
        obtain ⟨x40, hx40, h⟩ := bind_some h
        obtain ⟨hx40a, hx40b, hx40c⟩ := idx_some hx40
        have hx40d := getD_map (f := avV) hx40c
        have hx40e : (x38.2.2.2.2.map avV).getD 0 .junk = _ := hx40d
        obtain ⟨y41, hy41, h⟩ := bind_some h
        apply awp_draw mix 25 2 1 [1, 2, 3, 30, 31, 32, 69] (by kernel_rfl)
        rw [evK_succ]; simp +decide only [go_sem, Nat.reduceAdd, ptr_of hla2, hb4, hb7, hb15, hb25, hx28d, hb34, hf37, hx38d, hf39, hx40d, hx40e]
        have hs := And.intro hf37 hs
        have hs := And.intro hx38d hs
        have hs := And.intro hf39 hs
        have hs := And.intro hx40d hs
        have hs := And.intro hx40e hs
        (repeat' apply And.intro) <;> first | refine callK_p _ (s_accepts_at w0 hT n _ _ _ x28 x40 _ hy41) (hv hs) ?_ | exact cl
        rw [evK_succ]; simp +decide only [go_sem, Nat.reduceAdd, ptr_of hla2, hb4, hb7, hb15, hb25, hx28d, hb34, hf37, hx38d, hf39, hx40d, hx40e]
        (repeat' with_reducible apply And.intro) <;> first | (rw [evK_succ]; simp +decide only [go_sem, Nat.reduceAdd, ptr_of hla2, hb4, hb7, hb15, hb25, hx28d, hb34, hf37, hx38d, hf39, hx40d, hx40e]) | exact cl
        (repeat' apply And.intro) <;> first | refine hK36 _ _ ?_ | exact cl
        clear hK36
        refine cnd h hs (fun hs h => ?_) (fun hs h => ?_)
        · skip
          have hb42 := hs.1
          refine rg [6] hs ?_
          apply awp_ret; simp +decide only [go_sem, Nat.reduceAdd, ptr_of hla2, hb4, hb7, hb15, hb25, hx28d, hb34, hf37, hx38d, hf39, hx40d, hx40e, hb42]
          have hgt := Option.some.inj h; subst hgt
          first | refine fin_q0 (calm_set hcalm ev) (by simp only [List.length_set]) hO.pre ev ⟨?_, rfl⟩ | refine fin_q (calm_set hcalm ev) (by simp only [List.length_set]) hO.pre ev ⟨?_, rfl⟩
          first | rfl | (simp +decide only [go_sem, Nat.reduceAdd, ptr_of hla2, hb4, hb7, hb15, hb25, hx28d, hb34, hf37, hx38d, hf39, hx40d, hx40e, hb42]; done) | (simp +decide only [go_sem, Nat.reduceAdd, Vl.cs, Ty.cs, ptr_of hla2, hb4, hb7, hb15, hb25, hx28d, hb34, hf37, hx38d, hf39, hx40d, hx40e, hb42]; done)
        have hb42 := hs.1
        refine sk [1, 2, 3, 30, 31, 32] hs hK26 ?_
        clear hK26
        obtain ⟨hg44, h⟩ := guard_some h
        apply awp_region 1 [1, 2, 3, 30, 31, 32]
        rw [evK_succ]; simp +decide only [go_sem, Nat.reduceAdd, ptr_of hla2, hb4, hb7, hb15, hb25, hx28d, hb34, hf37, hx38d, hf39, hx40d, hx40e, hb42]
        (repeat' apply And.intro) <;> first | refine hKR_l22 m_l22 _ _ (Nat.lt_succ_self m_l22) ⟨(x32_l22 + 1), y32.2, ([x28.cs]), rows_l22, ef hs, ef hs, hO, h⟩ | exact cl
      · replace h := ite_ff h hf39
        apply awp_draw mix 25 2 1 [1, 2, 3, 30, 31, 32, 69] (by kernel_rfl)
        rw [evK_succ]; simp +decide only [go_sem, Nat.reduceAdd, ptr_of hla2, hb4, hb7, hb15, hb25, hx28d, hb34, hf37, hx38d, hf39]
        (repeat' apply And.intro) <;> first | refine callK_skip ?_ | exact cl
        rw [evK_succ]; simp +decide only [go_sem, Nat.reduceAdd, ptr_of hla2, hb4, hb7, hb15, hb25, hx28d, hb34, hf37, hx38d, hf39]
        (repeat' with_reducible apply And.intro) <;> first | (rw [evK_succ]; simp +decide only [go_sem, Nat.reduceAdd, ptr_of hla2, hb4, hb7, hb15, hb25, hx28d, hb34, hf37, hx38d, hf39]) | exact cl
        (repeat' apply And.intro) <;> first | refine hK36 _ _ ?_ | exact cl
        clear hK36
        have hs := And.intro hf37 hs
        have hs := And.intro hx38d hs
        have hs := And.intro hf39 hs
        refine awp_cond false ev (ef hs) (fun hb45 => by cases hb45) (fun hb45 => ?_)
        refine sk [1, 2, 3, 30, 31, 32] hs hK26 ?_
        clear hK26
        obtain ⟨hg46, h⟩ := guard_some h
        apply awp_region 1 [1, 2, 3, 30, 31, 32]
        rw [evK_succ]; simp +decide only [go_sem, Nat.reduceAdd, ptr_of hla2, hb4, hb7, hb15, hb25, hx28d, hb34, hf37, hx38d, hf39]
        (repeat' apply And.intro) <;> first | refine hKR_l22 m_l22 _ _ (Nat.lt_succ_self m_l22) ⟨(x32_l22 + 1), y32.2, ([x28.cs]), rows_l22, ef hs, ef hs, hO, h⟩ | exact cl
    · replace h := ite_ff h hf37
      apply awp_draw mix 25 2 1 [1, 2, 3, 30, 31, 32, 69] (by kernel_rfl)
      rw [evK_succ]; simp +decide only [go_sem, Nat.reduceAdd, ptr_of hla2, hb4, hb7, hb15, hb25, hx28d, hb34, hf37]
      (repeat' apply And.intro) <;> first | refine callK_skip ?_ | exact cl
      rw [evK_succ]; simp +decide only [go_sem, Nat.reduceAdd, ptr_of hla2, hb4, hb7, hb15, hb25, hx28d, hb34, hf37]
      (repeat' with_reducible apply And.intro) <;> first | (rw [evK_succ]; simp +decide only [go_sem, Nat.reduceAdd, ptr_of hla2, hb4, hb7, hb15, hb25, hx28d, hb34, hf37]) | exact cl
      (repeat' apply And.intro) <;> first | refine hK36 _ _ ?_ | exact cl
      clear hK36
      have hs := And.intro hf37 hs
      refine awp_cond false ev (ef hs) (fun hb47 => by cases hb47) (fun hb47 => ?_)
      refine sk [1, 2, 3, 30, 31, 32] hs hK26 ?_
      clear hK26
      obtain ⟨hg48, h⟩ := guard_some h
      apply awp_region 1 [1, 2, 3, 30, 31, 32]
      rw [evK_succ]; simp +decide only [go_sem, Nat.reduceAdd, ptr_of hla2, hb4, hb7, hb15, hb25, hx28d, hb34, hf37]
      (repeat' apply And.intro) <;> first | refine hKR_l22 m_l22 _ _ (Nat.lt_succ_self m_l22) ⟨(x32_l22 + 1), y32.2, ([x28.cs]), rows_l22, ef hs, ef hs, hO, h⟩ | exact cl
  · clear h; rintro e st ⟨pla2_k18, X_k18, rows_k18, rfl, rfl, hO, h⟩
    rw [s_check_k18] at h
    refine awp_tidy hN hNR hNL (by simp only [List.length_set]) (calm_set hcalm ev) hO (by (simp +decide only [go_sem, Nat.reduceAdd]) <;> (try (repeat' apply And.intro)) <;> first | omega | assumption) (by (simp +decide only [go_sem, Nat.reduceAdd, calmE]) <;> (try (repeat' apply And.intro)) <;> first | omega | assumption) ?_
    refine rg [6] hs ?_
    apply awp_ret; simp +decide only [go_sem, Nat.reduceAdd, ptr_of hla2, hb4, hb7, hb15]
    have hgt := Option.some.inj h; subst hgt
    first | refine fin_q0 (calm_set hcalm ev) (by simp only [List.length_set]) hO.pre ev ⟨?_, rfl⟩ | refine fin_q (calm_set hcalm ev) (by simp only [List.length_set]) hO.pre ev ⟨?_, rfl⟩
    first | rfl | (simp +decide only [go_sem, Nat.reduceAdd, ptr_of hla2, hb4, hb7, hb15]; done) | (simp +decide only [go_sem, Nat.reduceAdd, Vl.cs, Ty.cs, ptr_of hla2, hb4, hb7, hb15]; done)
theorem s_check_at (w0 : World) (hT : Lib.Utf8Tabs 0 1 w0) : ∀ (n : Nat) (B : List (List AV)) (Rw : List RowA) (L : List LoopA) (a0 : Ty) (a1 : Int) (la2 : Nat) (a2 : Int) (hla2 : B[la2]? = some ([.val (.int .i64 a2)])) (r : Int × Int) (h : s_check_F n a0 a1 a2 = some r), ACalls Tryz.prog w0 53 [.agg (a0.cs), .val (.int .i64 a1), .box la2 0] ⟨B, Rw, L⟩ fun x st => x = .val (.int .i64 r.1) ∧ st = ⟨(B.set la2 [.val (.int .i64 r.2)]), Rw, L⟩
  | 0, _, _, _, _, _, _, _, _, _, h => (nomatch h)
  | n + 1, B, Rw, L, a0, a1, la2, a2, hla2, r, h => s_check_step w0 hT (s_check_F n) (s_check_at w0 hT n) n B Rw L a0 a1 la2 a2 hla2 r (by rw [s_check_F] at h; exact h)
end Go.Proofs.YtggimoedcamonaaGreatDoor
namespace Go.Proofs.YtggimoedcamonaaGreatDoor
open Go Go.RowKit Go.Ev
set_option linter.unusedSimpArgs false
set_option linter.unusedVariables false
def v_Size_r6  : List (Nat × Vl) → Int → Option Int
  | [], b1_r6 =>
    some (b1_r6)
  | p_r6 :: rest, b1_r6 =>
    if I64 (b1_r6 + 1) then
      (v_Size_r6  rest) (b1_r6 + 1)
    else none
def v_Size_F (a0 : Vl) : Option Int :=
  if a0.size < 1048576 then
    v_Size_r6  (preV 1 a0) 0
  else none
set_option maxRecDepth 100000 in
set_option maxHeartbeats 4000000 in
theorem v_Size_at (w0 : World) (B : List (List AV)) (Rw : List RowA) (L : List LoopA) (a0 : Vl) (r : Int) (h : v_Size_F a0 = some r) :
    ACalls Tryz.prog w0 144 [.agg (a0.cs)] ⟨B, Rw, L⟩ fun x st => x = .val (.int .i64 r) ∧ st = ⟨B, Rw, L⟩ := by
  rw [v_Size_F] at h
  refine ACalls.finP (acalls_of (rs := [.tmp 2]) Tryz.func144 rfl rfl Tryz.ntmps144 (enters_some Tryz.func144 rfl (by decide)) (Nat.le_of_ble_eq_true rfl) ?_)
  intro M0 W0 hN hNR hNL hcalm hu
  dsimp only at hN hNR hNL hcalm hu
  simp only [argsE]
  have hO := Owns.none Rw
  have hs := fact0
  refine rg [1] hs ?_
  refine rg [1, 3] hs ?_
  apply awp_seq; intro K3 hK3
  refine rc 2 [3, 5] hs ?_; intro K4 hK4
  refine callK_pp _ (preorder_at w0 _ _ _ a0) (hv hs) ?_; rintro _ _ ⟨rfl, rfl⟩
  refine ne hs hK4 ?_
  clear hK4
  apply awp_block
  obtain ⟨hg5, h⟩ := guard_some h
  refine awp_range (itemsV a0) (fun st => st.boxes[(B.length + 2)]? = some a0.cs) (fun i st => ∃ (b1_r6 : Int) (rows_r6 : List RowA), st = ⟨B ++ ([a0.cs, [.val (.int .i64 b1_r6)], a0.cs]), rows_r6, L⟩ ∧ Owns Rw rows_r6 [] ∧ v_Size_r6  ((preV 1 a0).drop i) b1_r6 = some r) (fun _ _ => False) ev ev (preorder_iter w0 a0 hg5 _) (fun x hx => itemsV_two a0 x hx) (by decide) ?_ ⟨0, Rw, ef hs, hO, h⟩ (fun _ _ h => h.elim) ?_ ?_ ?_
  · rintro i st la ⟨b1_r6, rows_r6, rfl, hO, h⟩ _ _; simp +decide [St.push]
  · rintro i s1 ⟨XB, XR, XL⟩ x M1 W1 l la la' hX hI hlike hloops hx hra K hK
    obtain ⟨p_r6, hpi, rfl, hi⟩ := itemsV_get a0 i x hx
    (try simp only at hX)
    subst hX
    obtain ⟨b1_r6, rows_r6, rfl, hO, h⟩ := hI
    rw [drop_get hpi, v_Size_r6] at h
    have hra0_r6 := hO
    simp only [St.ext, St.push, List.append_assoc, List.append_nil]
    refine awp_sub (keepL [3] _) ?_ (sub_keepL _ _)
    apply awp_skip; simp +decide only [go_sem, Nat.reduceAdd]
    (repeat' apply And.intro) <;> first | refine hK _ _ (by simp [St.ext, St.push]) (fun KQ hKQ => ?_) | exact cl
    clear hK
    dsimp only [St.ext, St.push]
    apply awp_block
    obtain ⟨hg7, h⟩ := guard_some h
    apply awp_region 1 [3]
    rw [evK_succ]; simp +decide only [go_sem, Nat.reduceAdd]
    (repeat' apply And.intro) <;> first | refine hKQ _ _ _ ⟨⟨B ++ [a0.cs, [.val (.int .i64 (b1_r6 + 1))], a0.cs], rows_r6, L⟩, [], by first | rfl | (simp only [List.append_assoc, List.append_nil, List.cons_append, List.nil_append]; done), ⟨by simp, by first | exact Nat.le_refl _ | (have := hO.len; simp; omega), rfl⟩, rfl, ⟨(b1_r6 + 1), rows_r6, ef hs, hO, h⟩, ?_⟩ | exact cl
    exact .inl rfl
  · rintro s la ⟨XB, XR, XL⟩ hXR ⟨b1_r6, rows_r6, rfl, hO, h⟩ _ _
    simp only at hXR
    subst hXR
    rw [List.drop_eq_nil_of_le (by rw [itemsV_length]; exact Nat.le_refl _), v_Size_r6] at h
    simp only [St.ext, St.push, List.append_assoc, List.append_nil]
    (repeat' apply And.intro) <;> first | refine hK3 _ _ ?_ | exact cl
    clear hK3
    refine awp_tidyL (bs := [a0.cs, [.val (.int .i64 b1_r6)], a0.cs]) hN hNR hNL rfl hcalm hO (by (simp +decide only [go_sem, Nat.reduceAdd]) <;> (try (repeat' apply And.intro)) <;> first | omega | assumption) (by (simp +decide only [go_sem, Nat.reduceAdd, calmE]) <;> (try (repeat' apply And.intro)) <;> first | omega | assumption) ?_
    refine rg [2] hs ?_
    exact rt h hs hcalm hO
  · rintro ex s la X hX h; exact h.elim
end Go.Proofs.YtggimoedcamonaaGreatDoor
namespace Go.Proofs.YtggimoedcamonaaGreatDoor
open Go Go.RowKit Go.Ev
set_option linter.unusedSimpArgs false
set_option linter.unusedVariables false
def s_leastSize_k28 (rec : Ty → Option Int) (n : Nat) (again_l23 : Int → Int → Option Int) (x38_l23 : Int) (x3_k28 : Int) : Option Int :=
  if I64 (x38_l23 + 1) then
    again_l23 x3_k28 (x38_l23 + 1)
  else none
def s_leastSize_k4 (rec : Ty → Option Int) (n : Nat)  (x3_k4 : Int) : Option Int :=
  some ((if 4097 < x3_k4 then 4097 else x3_k4))
def s_leastSize_l23 (rec : Ty → Option Int) (n : Nat) (a0 : Ty) : Nat → Int → Int → Option Int
  | 0, _, _ => none
  | m + 1, x3_l23, x38_l23 =>
    if decide (x38_l23 < ((a0.fields.length : Int))) then
      (idx a0.fields x38_l23).bind fun x31 =>
      if decide (x31.2.2.1 = 1) then
        (rec x31.2.2.2.1).bind fun y35 =>
        if I64 (x3_l23 + y35) then
          s_leastSize_k28 rec n (s_leastSize_l23 rec n a0 m) x38_l23 (x3_l23 + y35)
        else none
      else
        if decide (x31.2.2.1 = 3) then
          (idx x31.2.2.2.2 0).bind fun x39 =>
          (v_Size_F x39).bind fun y40 =>
          if I64 (x3_l23 + y40) then
            s_leastSize_k28 rec n (s_leastSize_l23 rec n a0 m) x38_l23 (x3_l23 + y40)
          else none
        else
          s_leastSize_k28 rec n (s_leastSize_l23 rec n a0 m) x38_l23 x3_l23
    else
      s_leastSize_k4 rec n x3_l23
def s_leastSize_B (rec : Ty → Option Int) (n : Nat) (a0 : Ty) : Option Int :=
  if decide (a0.kind = 8) then
    if decide (0 < a0.min) then
      (idx a0.elem 0).bind fun x11 =>
      (rec x11).bind fun y12 =>
      if I64 (a0.min * y12) then
        if I64 (1 + (a0.min * y12)) then
          s_leastSize_k4 rec n (1 + (a0.min * y12))
        else none
      else none
    else
      s_leastSize_k4 rec n 1
  else
    if decide (a0.kind = 10) then
      (idx a0.fields 0).bind fun x17 =>
      (rec x17.2.2.2.1).bind fun y18 =>
      if I64 (1 + y18) then
        s_leastSize_k4 rec n (1 + y18)
      else none
    else
      if decide (a0.kind = 9) then
        s_leastSize_l23 rec n a0 n 1 0
      else
        s_leastSize_k4 rec n 1
def s_leastSize_F : Nat → Ty → Option Int
  | 0, _ => none
  | n + 1, a0 => s_leastSize_B (s_leastSize_F n) n a0
set_option maxRecDepth 100000 in
set_option maxHeartbeats 4000000 in
theorem s_leastSize_step (w0 : World) (rec : Ty → Option Int) (ih : ∀ (B : List (List AV)) (Rw : List RowA) (L : List LoopA) (a0 : Ty) (r : Int) (h : rec a0 = some r), ACalls Tryz.prog w0 98 [.agg (a0.cs)] ⟨B, Rw, L⟩ fun x st => x = .val (.int .i64 r) ∧ st = ⟨B, Rw, L⟩) (n : Nat) (B : List (List AV)) (Rw : List RowA) (L : List LoopA) (a0 : Ty) (r : Int) (h : s_leastSize_B rec n a0 = some r) :
    ACalls Tryz.prog w0 98 [.agg (a0.cs)] ⟨B, Rw, L⟩ fun x st => x = .val (.int .i64 r) ∧ st = ⟨B, Rw, L⟩ := by
  rw [s_leastSize_B] at h
  refine ACalls.finP (acalls_of (rs := [.tmp 2]) Tryz.func98 rfl rfl Tryz.ntmps98 (enters_some Tryz.func98 rfl (by decide)) (Nat.le_of_ble_eq_true rfl) ?_)
  intro M0 W0 hN hNR hNL hcalm hu
  dsimp only at hN hNR hNL hcalm hu
  simp only [argsE]
  have hO := Owns.none Rw
  have hs := fact0
  refine rg [1] hs ?_
  refine rg [1, 3] hs ?_
  refine awp_mid (fun e st => ∃ (x3_k4 : Int) (X_k4 : List (List AV)) (rows_k4 : List RowA), e = [(3, true, .val (.int .i64 x3_k4))] ∧ st = ⟨B ++ ([a0.cs] ++ X_k4), rows_k4, L⟩ ∧ Owns Rw rows_k4 [] ∧ s_leastSize_k4 rec n x3_k4 = some r) ?_ ?_
  · intro K5 hK5
    refine rg [1, 3, 7] hs ?_
    apply awp_block
    refine rg [1, 3, 7, 8] hs ?_
    refine cnd h hs (fun hs h => ?_) (fun hs h => ?_)
    · skip
      have hb8 := hs.1
      refine rg [1, 3, 12] hs ?_
      refine cnd h hs (fun hs h => ?_) (fun hs h => ?_)
      · skip
        have hb10 := hs.1
        obtain ⟨x11, hx11, h⟩ := bind_some h
        obtain ⟨hx11a, hx11b, hx11c⟩ := idx_some hx11
        have hx11d := getD_map (f := avT) hx11c
        have hx11e : (a0.elem.map avT).getD 0 .junk = _ := hx11d
        obtain ⟨y12, hy12, h⟩ := bind_some h
        obtain ⟨hg13, h⟩ := guard_some h
        obtain ⟨hg14, h⟩ := guard_some h
        apply awp_draw mix 10 2 1 [3] (by kernel_rfl)
        rw [evK_succ]; simp +decide only [go_sem, Nat.reduceAdd, hb8, hb10, hx11d, hx11e]
        have hs := And.intro hx11d hs
        have hs := And.intro hx11e hs
        (repeat' apply And.intro) <;> first | refine callK_p _ (ih _ _ _ x11 _ hy12) (hv hs) ?_ | exact cl
        rw [evK_succ]; simp +decide only [go_sem, Nat.reduceAdd, hb8, hb10, hx11d, hx11e]
        (repeat' with_reducible apply And.intro) <;> first | (rw [evK_succ]; simp +decide only [go_sem, Nat.reduceAdd, hb8, hb10, hx11d, hx11e]) | exact cl
        (repeat' apply And.intro) <;> first | refine hK5 _ _ ⟨(1 + (a0.min * y12)), ([]), Rw, ef hs, ef hs, hO, h⟩ | exact cl
      have hb10 := hs.1
      refine sk [3] hs hK5 ?_
      exact ⟨1, ([]), Rw, ef hs, ef hs, hO, h⟩
    have hb8 := hs.1
    refine rg [1, 3, 7, 23] hs ?_
    refine cnd h hs (fun hs h => ?_) (fun hs h => ?_)
    · skip
      have hb16 := hs.1
      obtain ⟨x17, hx17, h⟩ := bind_some h
      obtain ⟨hx17a, hx17b, hx17c⟩ := idx_some hx17
      have hx17d := getD_map (f := avTF) hx17c
      have hx17e : (a0.fields.map avTF).getD 0 .junk = _ := hx17d
      obtain ⟨y18, hy18, h⟩ := bind_some h
      obtain ⟨hg19, h⟩ := guard_some h
      apply awp_region 2 [3]
      rw [evK_succ]; simp +decide only [go_sem, Nat.reduceAdd, hb8, hb16, hx17d, hx17e]
      have hs := And.intro hx17d hs
      have hs := And.intro hx17e hs
      (repeat' apply And.intro) <;> first | refine callK_p _ (ih _ _ _ x17.2.2.2.1 _ hy18) (hv hs) ?_ | exact cl
      rw [evK_succ]; simp +decide only [go_sem, Nat.reduceAdd, hb8, hb16, hx17d, hx17e]
      (repeat' apply And.intro) <;> first | refine hK5 _ _ ⟨(1 + y18), ([]), Rw, ef hs, ef hs, hO, h⟩ | exact cl
    have hb16 := hs.1
    refine rg [1, 3, 33] hs ?_
    refine cnd h hs (fun hs h => ?_) (fun hs h => ?_)
    · skip
      have hb21 := hs.1
      refine rg [3, 36, 37, 38] hs ?_
      apply awp_block
      refine awp_loop (fun m e st => ∃ (x3_l23 : Int) (x38_l23 : Int) (X_l23 : List (List AV)) (rows_l23 : List RowA), e = [(3, true, .val (.int .i64 x3_l23)), (36, true, .list (a0.fields.map avTF) .none), (37, true, .val (.int .i64 ((a0.fields.length : Int)))), (38, true, .val (.int .i64 x38_l23))] ∧ st = ⟨B ++ ([a0.cs] ++ X_l23), rows_l23, L⟩ ∧ Owns Rw rows_l23 [] ∧ s_leastSize_l23 rec n a0 m x3_l23 x38_l23 = some r) n ⟨1, 0, ([]), Rw, ef hs, ef hs, hO, h⟩ ?_
      rintro m_l23 e st ⟨x3_l23, x38_l23, X_l23, rows_l23, rfl, rfl, hO, h⟩ KR_l23 hKR_l23
      cases m_l23 with
      | zero => cases h
      | succ m_l23 =>
      rw [s_leastSize_l23] at h
      refine td hN hNR hNL hcalm hO ?_
      refine rg [3, 36, 37, 38, 39] hs ?_
      apply awp_seq; intro K25 hK25
      refine cnd h hs (fun hs h => ?_) (fun hs h => ?_)
      rotate_left
      · skip
        have hb26 := hs.1
        refine sx [3] hs hK5 ?_
        exact ⟨x3_l23, ([]), rows_l23, ef hs, ef hs, hO, h⟩
      have hb26 := hs.1
      refine sk [3, 36, 37, 38] hs hK25 ?_
      clear hK25
      refine awp_mid (fun e st => ∃ (x3_k28 : Int) (X_k28 : List (List AV)) (rows_k28 : List RowA), e = [(3, true, .val (.int .i64 x3_k28)), (36, true, .list (a0.fields.map avTF) .none), (37, true, .val (.int .i64 ((a0.fields.length : Int)))), (38, true, .val (.int .i64 x38_l23))] ∧ st = ⟨B ++ ([a0.cs] ++ X_k28), rows_k28, L⟩ ∧ Owns Rw rows_k28 [] ∧ s_leastSize_k28 rec n (s_leastSize_l23 rec n a0 m_l23) x38_l23 x3_k28 = some r) ?_ ?_
      · intro K29 hK29
        apply awp_block
        obtain ⟨x31, hx31, h⟩ := bind_some h
        obtain ⟨hx31a, hx31b, hx31c⟩ := idx_some hx31
        have hx31d := getD_map (f := avTF) hx31c
        have hs := And.intro hx31d hs
        refine rg [3, 5, 36, 37, 38] hs ?_
        refine rg [3, 5, 36, 37, 38, 43] hs ?_
        apply awp_block
        refine rg [3, 5, 36, 37, 38, 43, 44] hs ?_
        refine cnd h hs (fun hs h => ?_) (fun hs h => ?_)
        · skip
          have hb34 := hs.1
          obtain ⟨y35, hy35, h⟩ := bind_some h
          obtain ⟨hg36, h⟩ := guard_some h
          apply awp_region 2 [3, 36, 37, 38]
          rw [evK_succ]; simp +decide only [go_sem, Nat.reduceAdd, hb8, hb16, hb21, hb26, hx31d, hb34]
          (repeat' apply And.intro) <;> first | refine callK_p _ (ih _ _ _ x31.2.2.2.1 _ hy35) (hv hs) ?_ | exact cl
          rw [evK_succ]; simp +decide only [go_sem, Nat.reduceAdd, hb8, hb16, hb21, hb26, hx31d, hb34]
          (repeat' apply And.intro) <;> first | refine hK29 _ _ ⟨(x3_l23 + y35), ([.val (.int .i64 x31.1) :: (.val (.string x31.2.1) :: (.val (.int .i64 x31.2.2.1) :: ((x31.2.2.2.1.cs) ++ ([.list (x31.2.2.2.2.map avV) .none]))))]), rows_l23, ef hs, ef hs, hO, h⟩ | exact cl
        have hb34 := hs.1
        refine rg [3, 5, 36, 37, 38, 51] hs ?_
        refine cnd h hs (fun hs h => ?_) (fun hs h => ?_)
        · skip
          have hb38 := hs.1
          obtain ⟨x39, hx39, h⟩ := bind_some h
          obtain ⟨hx39a, hx39b, hx39c⟩ := idx_some hx39
          have hx39d := getD_map (f := avV) hx39c
          have hx39e : (x31.2.2.2.2.map avV).getD 0 .junk = _ := hx39d
          obtain ⟨y40, hy40, h⟩ := bind_some h
          obtain ⟨hg41, h⟩ := guard_some h
          apply awp_region 2 [3, 36, 37, 38]
          rw [evK_succ]; simp +decide only [go_sem, Nat.reduceAdd, hb8, hb16, hb21, hb26, hx31d, hb34, hb38, hx39d, hx39e]
          have hs := And.intro hx39d hs
          have hs := And.intro hx39e hs
          (repeat' apply And.intro) <;> first | refine callK_p _ (v_Size_at w0 _ _ _ x39 _ hy40) (hv hs) ?_ | exact cl
          rw [evK_succ]; simp +decide only [go_sem, Nat.reduceAdd, hb8, hb16, hb21, hb26, hx31d, hb34, hb38, hx39d, hx39e]
          (repeat' apply And.intro) <;> first | refine hK29 _ _ ⟨(x3_l23 + y40), ([.val (.int .i64 x31.1) :: (.val (.string x31.2.1) :: (.val (.int .i64 x31.2.2.1) :: ((x31.2.2.2.1.cs) ++ ([.list (x31.2.2.2.2.map avV) .none]))))]), rows_l23, ef hs, ef hs, hO, h⟩ | exact cl
        have hb38 := hs.1
        refine sk [3, 36, 37, 38] hs hK29 ?_
        exact ⟨x3_l23, ([.val (.int .i64 x31.1) :: (.val (.string x31.2.1) :: (.val (.int .i64 x31.2.2.1) :: ((x31.2.2.2.1.cs) ++ ([.list (x31.2.2.2.2.map avV) .none]))))]), rows_l23, ef hs, ef hs, hO, h⟩
      · clear h; rintro e st ⟨x3_k28, X_k28, rows_k28, rfl, rfl, hO, h⟩
        rw [s_leastSize_k28] at h
        refine td hN hNR hNL hcalm hO ?_
        obtain ⟨hg42, h⟩ := guard_some h
        apply awp_region 1 [3, 36, 37, 38]
        rw [evK_succ]; simp +decide only [go_sem, Nat.reduceAdd, hb8, hb16, hb21, hb26]
        (repeat' apply And.intro) <;> first | refine hKR_l23 m_l23 _ _ (Nat.lt_succ_self m_l23) ⟨x3_k28, (x38_l23 + 1), ([]), rows_k28, ef hs, ef hs, hO, h⟩ | exact cl
    have hb21 := hs.1
    refine sk [3] hs hK5 ?_
    exact ⟨1, ([]), Rw, ef hs, ef hs, hO, h⟩
  · clear h; rintro e st ⟨x3_k4, X_k4, rows_k4, rfl, rfl, hO, h⟩
    rw [s_leastSize_k4] at h
    refine td hN hNR hNL hcalm hO ?_
    refine rg [2] hs ?_
    exact rt h hs hcalm hO
theorem s_leastSize_at (w0 : World) : ∀ (n : Nat) (B : List (List AV)) (Rw : List RowA) (L : List LoopA) (a0 : Ty) (r : Int) (h : s_leastSize_F n a0 = some r), ACalls Tryz.prog w0 98 [.agg (a0.cs)] ⟨B, Rw, L⟩ fun x st => x = .val (.int .i64 r) ∧ st = ⟨B, Rw, L⟩
  | 0, _, _, _, _, _, h => (nomatch h)
  | n + 1, B, Rw, L, a0, r, h => s_leastSize_step w0 (s_leastSize_F n) (s_leastSize_at w0 n) n B Rw L a0 r (by rw [s_leastSize_F] at h; exact h)
end Go.Proofs.YtggimoedcamonaaGreatDoor
namespace Go.Proofs.YtggimoedcamonaaGreatDoor
open Go Go.RowKit Go.Ev
set_option linter.unusedSimpArgs false
set_option linter.unusedVariables false
def s_greatestSize_k18 (rec : Ty → Option Int) (n : Nat)  (x3_k18 : Int) : Option Int :=
  some (x3_k18)
def s_greatestSize_l21 (rec : Ty → Option Int) (n : Nat) (a0 : Ty) : Nat → Int → Int → Option Int
  | 0, _, _ => none
  | m + 1, x3_l21, x25_l21 =>
    if decide (x25_l21 < ((a0.fields.length : Int))) then
      (idx a0.fields x25_l21).bind fun x27 =>
      (rec x27.2.2.2.1).bind fun y28 =>
      if I64 (x25_l21 + 1) then
        (s_greatestSize_l21 rec n a0 m) ((if x3_l21 < y28 then y28 else x3_l21)) (x25_l21 + 1)
      else none
    else
      s_greatestSize_k18 rec n x3_l21
def s_greatestSize_k5 (rec : Ty → Option Int) (n : Nat) (a0 : Ty) (x3_k5 : Int) : Option Int :=
  s_greatestSize_l21 rec n a0 n x3_k5 0
def s_greatestSize_l8 (rec : Ty → Option Int) (n : Nat) (a0 : Ty) : Nat → Int → Int → Option Int
  | 0, _, _ => none
  | m + 1, x3_l8, x13_l8 =>
    if decide (x13_l8 < ((a0.elem.length : Int))) then
      (idx a0.elem x13_l8).bind fun x14 =>
      (rec x14).bind fun y15 =>
      if I64 (x13_l8 + 1) then
        (s_greatestSize_l8 rec n a0 m) ((if x3_l8 < y15 then y15 else x3_l8)) (x13_l8 + 1)
      else none
    else
      s_greatestSize_k5 rec n a0 x3_l8
def s_greatestSize_B (rec : Ty → Option Int) (n : Nat) (a0 : Ty) : Option Int :=
  (s_leastSize_F n a0).bind fun y3 =>
  s_greatestSize_l8 rec n a0 n y3 0
def s_greatestSize_F : Nat → Ty → Option Int
  | 0, _ => none
  | n + 1, a0 => s_greatestSize_B (s_greatestSize_F n) n a0
set_option maxRecDepth 100000 in
set_option maxHeartbeats 4000000 in
theorem s_greatestSize_step (w0 : World) (rec : Ty → Option Int) (ih : ∀ (B : List (List AV)) (Rw : List RowA) (L : List LoopA) (a0 : Ty) (r : Int) (h : rec a0 = some r), ACalls Tryz.prog w0 54 [.agg (a0.cs)] ⟨B, Rw, L⟩ fun x st => x = .val (.int .i64 r) ∧ st = ⟨B, Rw, L⟩) (n : Nat) (B : List (List AV)) (Rw : List RowA) (L : List LoopA) (a0 : Ty) (r : Int) (h : s_greatestSize_B rec n a0 = some r) :
    ACalls Tryz.prog w0 54 [.agg (a0.cs)] ⟨B, Rw, L⟩ fun x st => x = .val (.int .i64 r) ∧ st = ⟨B, Rw, L⟩ := by
  rw [s_greatestSize_B] at h
  refine ACalls.finP (acalls_of (rs := [.tmp 2]) Tryz.func54 rfl rfl Tryz.ntmps54 (enters_some Tryz.func54 rfl (by decide)) (Nat.le_of_ble_eq_true rfl) ?_)
  intro M0 W0 hN hNR hNL hcalm hu
  dsimp only at hN hNR hNL hcalm hu
  simp only [argsE]
  have hO := Owns.none Rw
  have hs := fact0
  refine rg [1] hs ?_
  obtain ⟨y3, hy3, h⟩ := bind_some h
  refine rc 2 [1, 3] hs ?_; intro K2 hK2
  refine callK_p _ (s_leastSize_at w0 n _ _ _ a0 _ hy3) (hv hs) ?_
  refine ne hs hK2 ?_
  clear hK2
  refine awp_mid (fun e st => ∃ (x3_k5 : Int) (X_k5 : List (List AV)) (rows_k5 : List RowA), e = [(1, true, .box B.length 0), (3, true, .val (.int .i64 x3_k5))] ∧ st = ⟨B ++ ([a0.cs] ++ X_k5), rows_k5, L⟩ ∧ Owns Rw rows_k5 [] ∧ s_greatestSize_k5 rec n a0 x3_k5 = some r) ?_ ?_
  · intro K6 hK6
    refine rg [1, 3, 11, 12, 13] hs ?_
    apply awp_block
    refine awp_loop (fun m e st => ∃ (x3_l8 : Int) (x13_l8 : Int) (X_l8 : List (List AV)) (rows_l8 : List RowA), e = [(1, true, .box B.length 0), (3, true, .val (.int .i64 x3_l8)), (11, true, .list (a0.elem.map avT) .none), (12, true, .val (.int .i64 ((a0.elem.length : Int)))), (13, true, .val (.int .i64 x13_l8))] ∧ st = ⟨B ++ ([a0.cs] ++ X_l8), rows_l8, L⟩ ∧ Owns Rw rows_l8 [] ∧ s_greatestSize_l8 rec n a0 m x3_l8 x13_l8 = some r) n ⟨y3, 0, ([]), Rw, ef hs, ef hs, hO, h⟩ ?_
    rintro m_l8 e st ⟨x3_l8, x13_l8, X_l8, rows_l8, rfl, rfl, hO, h⟩ KR_l8 hKR_l8
    cases m_l8 with
    | zero => cases h
    | succ m_l8 =>
    rw [s_greatestSize_l8] at h
    refine td hN hNR hNL hcalm hO ?_
    refine rg [1, 3, 11, 12, 13, 14] hs ?_
    apply awp_seq; intro K10 hK10
    refine cnd h hs (fun hs h => ?_) (fun hs h => ?_)
    rotate_left
    · skip
      have hb11 := hs.1
      refine sx [1, 3] hs hK6 ?_
      exact ⟨x3_l8, ([]), rows_l8, ef hs, ef hs, hO, h⟩
    have hb11 := hs.1
    refine sk [1, 3, 11, 12, 13] hs hK10 ?_
    clear hK10
    apply awp_seq; intro K12 hK12
    apply awp_block
    obtain ⟨x14, hx14, h⟩ := bind_some h
    obtain ⟨hx14a, hx14b, hx14c⟩ := idx_some hx14
    have hx14d := getD_map (f := avT) hx14c
    have hs := And.intro hx14d hs
    refine rg [1, 3, 5, 11, 12, 13] hs ?_
    obtain ⟨y15, hy15, h⟩ := bind_some h
    apply awp_region 2 [1, 3, 11, 12, 13]
    rw [evK_succ]; simp +decide only [go_sem, Nat.reduceAdd, hb11, hx14d]
    (repeat' apply And.intro) <;> first | refine callK_p _ (ih _ _ _ x14 _ hy15) (hv hs) ?_ | exact cl
    rw [evK_succ]; simp +decide only [go_sem, Nat.reduceAdd, hb11, hx14d]
    (repeat' apply And.intro) <;> first | refine hK12 _ _ ?_ | exact cl
    clear hK12
    obtain ⟨hg16, h⟩ := guard_some h
    apply awp_region 1 [1, 3, 11, 12, 13]
    rw [evK_succ]; simp +decide only [go_sem, Nat.reduceAdd, hb11, hx14d]
    (repeat' apply And.intro) <;> first | refine hKR_l8 m_l8 _ _ (Nat.lt_succ_self m_l8) ⟨((if x3_l8 < y15 then y15 else x3_l8)), (x13_l8 + 1), ([x14.cs]), rows_l8, ef hs, ef hs, hO, h⟩ | exact cl
  · clear h; rintro e st ⟨x3_k5, X_k5, rows_k5, rfl, rfl, hO, h⟩
    rw [s_greatestSize_k5] at h
    refine td hN hNR hNL hcalm hO ?_
    refine awp_mid (fun e st => ∃ (x3_k18 : Int) (X_k18 : List (List AV)) (rows_k18 : List RowA), e = [(3, true, .val (.int .i64 x3_k18))] ∧ st = ⟨B ++ ([a0.cs] ++ X_k18), rows_k18, L⟩ ∧ Owns Rw rows_k18 [] ∧ s_greatestSize_k18 rec n x3_k18 = some r) ?_ ?_
    · intro K19 hK19
      refine rg [3, 23, 24, 25] hs ?_
      apply awp_block
      refine awp_loop (fun m e st => ∃ (x3_l21 : Int) (x25_l21 : Int) (X_l21 : List (List AV)) (rows_l21 : List RowA), e = [(3, true, .val (.int .i64 x3_l21)), (23, true, .list (a0.fields.map avTF) .none), (24, true, .val (.int .i64 ((a0.fields.length : Int)))), (25, true, .val (.int .i64 x25_l21))] ∧ st = ⟨B ++ ([a0.cs] ++ X_l21), rows_l21, L⟩ ∧ Owns Rw rows_l21 [] ∧ s_greatestSize_l21 rec n a0 m x3_l21 x25_l21 = some r) n ⟨x3_k5, 0, ([]), rows_k5, ef hs, ef hs, hO, h⟩ ?_
      rintro m_l21 e st ⟨x3_l21, x25_l21, X_l21, rows_l21, rfl, rfl, hO, h⟩ KR_l21 hKR_l21
      cases m_l21 with
      | zero => cases h
      | succ m_l21 =>
      rw [s_greatestSize_l21] at h
      refine td hN hNR hNL hcalm hO ?_
      refine rg [3, 23, 24, 25, 26] hs ?_
      apply awp_seq; intro K23 hK23
      refine cnd h hs (fun hs h => ?_) (fun hs h => ?_)
      rotate_left
      · skip
        have hb24 := hs.1
        refine sx [3] hs hK19 ?_
        exact ⟨x3_l21, ([]), rows_l21, ef hs, ef hs, hO, h⟩
      have hb24 := hs.1
      refine sk [3, 23, 24, 25] hs hK23 ?_
      clear hK23
      apply awp_seq; intro K25 hK25
      apply awp_block
      obtain ⟨x27, hx27, h⟩ := bind_some h
      obtain ⟨hx27a, hx27b, hx27c⟩ := idx_some hx27
      have hx27d := getD_map (f := avTF) hx27c
      have hs := And.intro hx27d hs
      refine rg [3, 7, 23, 24, 25] hs ?_
      obtain ⟨y28, hy28, h⟩ := bind_some h
      apply awp_region 2 [3, 23, 24, 25]
      rw [evK_succ]; simp +decide only [go_sem, Nat.reduceAdd, hb24, hx27d]
      (repeat' apply And.intro) <;> first | refine callK_p _ (ih _ _ _ x27.2.2.2.1 _ hy28) (hv hs) ?_ | exact cl
      rw [evK_succ]; simp +decide only [go_sem, Nat.reduceAdd, hb24, hx27d]
      (repeat' apply And.intro) <;> first | refine hK25 _ _ ?_ | exact cl
      clear hK25
      obtain ⟨hg29, h⟩ := guard_some h
      apply awp_region 1 [3, 23, 24, 25]
      rw [evK_succ]; simp +decide only [go_sem, Nat.reduceAdd, hb24, hx27d]
      (repeat' apply And.intro) <;> first | refine hKR_l21 m_l21 _ _ (Nat.lt_succ_self m_l21) ⟨((if x3_l21 < y28 then y28 else x3_l21)), (x25_l21 + 1), ([.val (.int .i64 x27.1) :: (.val (.string x27.2.1) :: (.val (.int .i64 x27.2.2.1) :: ((x27.2.2.2.1.cs) ++ ([.list (x27.2.2.2.2.map avV) .none]))))]), rows_l21, ef hs, ef hs, hO, h⟩ | exact cl
    · clear h; rintro e st ⟨x3_k18, X_k18, rows_k18, rfl, rfl, hO, h⟩
      rw [s_greatestSize_k18] at h
      refine td hN hNR hNL hcalm hO ?_
      refine rg [2] hs ?_
      exact rt h hs hcalm hO
theorem s_greatestSize_at (w0 : World) : ∀ (n : Nat) (B : List (List AV)) (Rw : List RowA) (L : List LoopA) (a0 : Ty) (r : Int) (h : s_greatestSize_F n a0 = some r), ACalls Tryz.prog w0 54 [.agg (a0.cs)] ⟨B, Rw, L⟩ fun x st => x = .val (.int .i64 r) ∧ st = ⟨B, Rw, L⟩
  | 0, _, _, _, _, _, h => (nomatch h)
  | n + 1, B, Rw, L, a0, r, h => s_greatestSize_step w0 (s_greatestSize_F n) (s_greatestSize_at w0 n) n B Rw L a0 r (by rw [s_greatestSize_F] at h; exact h)
end Go.Proofs.YtggimoedcamonaaGreatDoor
namespace Go.Proofs.YtggimoedcamonaaGreatDoor
open Go Go.RowKit Go.Ev
set_option linter.unusedSimpArgs false
set_option linter.unusedVariables false
def s_Check_F (n : Nat) (a0 : Ty) : Option Int :=
  (s_check_F n a0 1 4096).bind fun y5 =>
  if !(decide (y5.1 = 0)) then
    some (y5.1)
  else
    (s_greatestSize_F n a0).bind fun y11 =>
    if decide (4096 < y11) then
      some (9)
    else
      some (0)
set_option maxRecDepth 100000 in
set_option maxHeartbeats 4000000 in
theorem s_Check_at (w0 : World) (hT : Lib.Utf8Tabs 0 1 w0) (n : Nat) (B : List (List AV)) (Rw : List RowA) (L : List LoopA) (a0 : Ty) (r : Int) (h : s_Check_F n a0 = some r) :
    ACalls Tryz.prog w0 16 [.agg (a0.cs)] ⟨B, Rw, L⟩ fun x st => x = .val (.int .i64 r) ∧ st = ⟨B, Rw, L⟩ := by
  rw [s_Check_F] at h
  refine ACalls.finP (acalls_of (rs := [.tmp 2]) Tryz.func16 rfl rfl Tryz.ntmps16 (enters_some Tryz.func16 rfl (by decide)) (Nat.le_of_ble_eq_true rfl) ?_)
  intro M0 W0 hN hNR hNL hcalm hu
  dsimp only at hN hNR hNL hcalm hu
  simp only [argsE]
  have hO := Owns.none Rw
  have hs := fact0
  refine rg [1] hs ?_
  refine rg [1, 3] hs ?_
  apply awp_seq; intro K3 hK3
  obtain ⟨y5, hy5, h⟩ := bind_some h
  refine rc 2 [1, 4] hs ?_; intro K4 hK4
  refine callK_pp _ (s_check_at w0 hT n _ _ _ a0 1 (B.length + 1) 4096 ev _ hy5) (hv hs) ?_; rintro _ _ ⟨rfl, rfl⟩
  refine ne hs hK4 ?_
  clear hK4
  refine rg [1, 4, 8] hs ?_
  refine cnd h hs (fun hs h => ?_) (fun hs h => ?_)
  · skip
    refine rg [2] hs ?_
    exact rt h hs hcalm hO
  refine sk [1] hs hK3 ?_
  clear hK3
  apply awp_seq; intro K9 hK9
  obtain ⟨y11, hy11, h⟩ := bind_some h
  refine rc 2 [12] hs ?_; intro K10 hK10
  refine callK_p _ (s_greatestSize_at w0 n _ _ _ a0 _ hy11) (hv hs) ?_
  refine ne hs hK10 ?_
  clear hK10
  refine cnd h hs (fun hs h => ?_) (fun hs h => ?_)
  · skip
    refine rg [2] hs ?_
    exact rt h hs hcalm hO
  refine sk [] hs hK9 ?_
  clear hK9
  refine rg [2] hs ?_
  exact rt h hs hcalm hO
end Go.Proofs.YtggimoedcamonaaGreatDoor
namespace Go.Proofs.YtggimoedcamonaaGreatDoor
open Go Go.RowKit Go.Ev
set_option linter.unusedSimpArgs false
set_option linter.unusedVariables false
def s_Accepts_F (n : Nat) (a0 : Ty) (a1 : Vl) : Option Bool :=
  (s_Check_F n a0).bind fun y3 =>
  if decide (y3 = 0) then
    (s_accepts_F n a0 a1).bind fun y5 =>
    some (y5)
  else
    some (false)
set_option maxRecDepth 100000 in
set_option maxHeartbeats 4000000 in
theorem s_Accepts_at (w0 : World) (hT : Lib.Utf8Tabs 0 1 w0) (n : Nat) (B : List (List AV)) (Rw : List RowA) (L : List LoopA) (a0 : Ty) (a1 : Vl) (r : Bool) (h : s_Accepts_F n a0 a1 = some r) :
    ACalls Tryz.prog w0 19 [.agg (a0.cs), .agg (a1.cs)] ⟨B, Rw, L⟩ fun x st => x = .val (.bool r) ∧ st = ⟨B, Rw, L⟩ := by
  rw [s_Accepts_F] at h
  refine ACalls.finP (acalls_of (rs := [.tmp 4]) Tryz.func19 rfl rfl Tryz.ntmps19 (enters_some Tryz.func19 rfl (by decide)) (Nat.le_of_ble_eq_true rfl) ?_)
  intro M0 W0 hN hNR hNL hcalm hu
  dsimp only at hN hNR hNL hcalm hu
  simp only [argsE]
  have hO := Owns.none Rw
  have hs := fact0
  refine rg [2, 3] hs ?_
  apply awp_seq; intro K2 hK2
  obtain ⟨y3, hy3, h⟩ := bind_some h
  rcases Bool.eq_false_or_eq_true (decide (y3 = 0)) with hf4 | hf4
  · replace h := ite_tt h hf4
    obtain ⟨y5, hy5, h⟩ := bind_some h
    apply awp_region 3 [4]
    rw [evK_succ]; simp +decide only [go_sem, Nat.reduceAdd, hf4]
    have hs := And.intro hf4 hs
    (repeat' apply And.intro) <;> first | refine callK_p _ (s_Check_at w0 hT n _ _ _ a0 _ hy3) (hv hs) ?_ | exact cl
    rw [evK_succ]; simp +decide only [go_sem, Nat.reduceAdd, hf4]
    (repeat' apply And.intro) <;> first | refine callK_p _ (s_accepts_at w0 hT n _ _ _ a0 a1 _ hy5) (hv hs) ?_ | exact cl
    rw [evK_succ]; simp +decide only [go_sem, Nat.reduceAdd, hf4]
    (repeat' apply And.intro) <;> first | refine hK2 _ _ ?_ | exact cl
    clear hK2
    exact rt h hs hcalm hO
  · replace h := ite_ff h hf4
    apply awp_region 3 [4]
    rw [evK_succ]; simp +decide only [go_sem, Nat.reduceAdd, hf4]
    have hs := And.intro hf4 hs
    (repeat' apply And.intro) <;> first | refine callK_p _ (s_Check_at w0 hT n _ _ _ a0 _ hy3) (hv hs) ?_ | exact cl
    rw [evK_succ]; simp +decide only [go_sem, Nat.reduceAdd, hf4]
    (repeat' apply And.intro) <;> first | refine callK_skip ?_ | exact cl
    rw [evK_succ]; simp +decide only [go_sem, Nat.reduceAdd, hf4]
    (repeat' apply And.intro) <;> first | refine hK2 _ _ ?_ | exact cl
    clear hK2
    exact rt h hs hcalm hO
end Go.Proofs.YtggimoedcamonaaGreatDoor
namespace Go.Proofs.YtggimoedcamonaaGreatDoor
open Go Go.RowKit Go.Ev
set_option linter.unusedSimpArgs false
set_option linter.unusedVariables false
def p_Part_text_F (a0 : Part) : Option ByteArray :=
  if decide (a0.kind = 1) then
    if ((⟨#[46]⟩ : ByteArray)).size + a0.name.size ≤ 9223372036854775807 then
      some (((⟨#[46]⟩ : ByteArray)) ++ a0.name)
    else none
  else
    if decide (a0.kind = 2) then
      if I64 (a0.index) then
        if ((⟨#[91]⟩ : ByteArray)).size + ((⟨(Lib.itoa a0.index).toArray⟩ : ByteArray)).size ≤ 9223372036854775807 then
          if (((⟨#[91]⟩ : ByteArray)) ++ ((⟨(Lib.itoa a0.index).toArray⟩ : ByteArray))).size + ((⟨#[93]⟩ : ByteArray)).size ≤ 9223372036854775807 then
            some ((((⟨#[91]⟩ : ByteArray)) ++ ((⟨(Lib.itoa a0.index).toArray⟩ : ByteArray))) ++ ((⟨#[93]⟩ : ByteArray)))
          else none
        else none
      else none
    else
      if decide (a0.kind = 3) then
        some ((⟨#[91, 42, 93]⟩ : ByteArray))
      else
        if ((⟨#[63]⟩ : ByteArray)).size + a0.name.size ≤ 9223372036854775807 then
          some (((⟨#[63]⟩ : ByteArray)) ++ a0.name)
        else none
set_option maxRecDepth 100000 in
set_option maxHeartbeats 4000000 in
theorem p_Part_text_at (w0 : World) (hP : Pow10 w0) (B : List (List AV)) (Rw : List RowA) (L : List LoopA) (a0 : Part) (r : ByteArray) (h : p_Part_text_F a0 = some r) :
    ACalls Tryz.prog w0 115 [.agg (.val (.int .i64 a0.kind) :: (.val (.int .i64 a0.index) :: ([.val (.string a0.name)])))] ⟨B, Rw, L⟩ fun x st => x = .val (.string r) ∧ st = ⟨B, Rw, L⟩ := by
  rw [p_Part_text_F] at h
  refine ACalls.finP (acalls_of (rs := [.tmp 2]) Tryz.func115 rfl rfl Tryz.ntmps115 (enters_some Tryz.func115 rfl (by decide)) (Nat.le_of_ble_eq_true rfl) ?_)
  intro M0 W0 hN hNR hNL hcalm hu
  dsimp only at hN hNR hNL hcalm hu
  simp only [argsE]
  have hO := Owns.none Rw
  have hs := fact0
  refine rg [1] hs ?_
  apply awp_seq; intro K2 hK2
  refine rg [1, 4] hs ?_
  apply awp_block
  refine rg [1, 4, 5] hs ?_
  refine cnd h hs (fun hs h => ?_) (fun hs h => ?_)
  · skip
    obtain ⟨hg7, h⟩ := guard_some h
    have hg7s := hg7
    try simp +decide only [go_sem] at hg7s
    refine rg [2] hs ?_
    exact rt h hs hcalm hO
  refine rg [1, 4, 10] hs ?_
  refine cnd h hs (fun hs h => ?_) (fun hs h => ?_)
  · skip
    obtain ⟨hg11, h⟩ := guard_some h
    obtain ⟨hg12, h⟩ := guard_some h
    have hg12s := hg12
    try simp +decide only [go_sem] at hg12s
    obtain ⟨hg13, h⟩ := guard_some h
    have hg13s := hg13
    try simp +decide only [go_sem] at hg13s
    refine rc 2 [2] hs ?_; intro K10 hK10
    refine callK_p _ (sItoa_at w0 _ _ _ hP a0.index hg11) (hv hs) ?_
    refine ne hs hK10 ?_
    clear hK10
    exact rt h hs hcalm hO
  refine rg [1, 17] hs ?_
  refine cnd h hs (fun hs h => ?_) (fun hs h => ?_)
  · skip
    refine rg [2] hs ?_
    exact rt h hs hcalm hO
  refine sk [1] hs hK2 ?_
  clear hK2
  obtain ⟨hg18, h⟩ := guard_some h
  have hg18s := hg18
  try simp +decide only [go_sem] at hg18s
  refine rg [2] hs ?_
  exact rt h hs hcalm hO
end Go.Proofs.YtggimoedcamonaaGreatDoor
