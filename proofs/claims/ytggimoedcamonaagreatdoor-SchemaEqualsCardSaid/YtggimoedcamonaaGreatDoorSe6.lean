/-
  the schema law Equals
-/
import Derived.Carry
import Derived.ChangeOld
import Derived.ChangeSlices
import Derived.Deep.DeepHandedRow
import Derived.Deep.DeepWitnessRowRef
import Derived.Lib.LaidIn
import Derived.Lib.LaidU8T
import Derived.PinnedBridge
import Derived.ProofKit
import Derived.SevenTiedAt
import Derived.SizedLaws
import Derived.Test.YtggimoedcamonaaGreatDoorCards
import Derived.Test.YtggimoedcamonaaGreatDoorTie
import Derived.Test.YtggimoedcamonaaGreatDoorSe5
namespace Go.Proofs.YtggimoedcamonaaGreatDoor
open Go Go.RowKit Go.Ev
set_option linter.unusedSimpArgs false
set_option linter.unusedVariables false
def sl_EqualFunc_TypeField_k7 (n : Nat)  : Option Bool :=
  some (true)
def sl_EqualFunc_TypeField_l10 (n : Nat) (a0 : List (Int × ByteArray × Int × Ty × List Vl)) (a1 : List (Int × ByteArray × Int × Ty × List Vl)) (a2 : (Int × ByteArray × Int × Ty × List Vl) → (Int × ByteArray × Int × Ty × List Vl) → Option Bool) : Nat → Int → Option Bool
  | 0, _ => none
  | m + 1, x17_l10 =>
    if decide (x17_l10 < ((a0.length : Int))) then
      (idx a0 x17_l10).bind fun x16 =>
      (idx a1 x17_l10).bind fun x18 =>
      (a2 x16 x18).bind fun y20 =>
      if !y20 then
        some (false)
      else
        if I64 (x17_l10 + 1) then
          (sl_EqualFunc_TypeField_l10 n a0 a1 a2 m) (x17_l10 + 1)
        else none
    else
      sl_EqualFunc_TypeField_k7 n 
def sl_EqualFunc_TypeField_F (n : Nat) (a0 : List (Int × ByteArray × Int × Ty × List Vl)) (a1 : List (Int × ByteArray × Int × Ty × List Vl)) (a2 : (Int × ByteArray × Int × Ty × List Vl) → (Int × ByteArray × Int × Ty × List Vl) → Option Bool) : Option Bool :=
  if !(decide (((a0.length : Int)) = ((a1.length : Int)))) then
    some (false)
  else
    sl_EqualFunc_TypeField_l10 n a0 a1 a2 n 0
set_option maxRecDepth 100000 in
set_option maxHeartbeats 4000000 in
theorem sl_EqualFunc_TypeField_at (w0 : World) (n : Nat) (B : List (List AV)) (Rw : List RowA) (L : List LoopA) (a0 : List (Int × ByteArray × Int × Ty × List Vl)) (a1 : List (Int × ByteArray × Int × Ty × List Vl)) (fa2 : FuncId) (ca2 : List AV) (a2 : (Int × ByteArray × Int × Ty × List Vl) → (Int × ByteArray × Int × Ty × List Vl) → Option Bool) (ha2 : ∀ (x0 : Int × ByteArray × Int × Ty × List Vl) (x1 : Int × ByteArray × Int × Ty × List Vl) r, a2 x0 x1 = some r → ∀ B' rows, B <+: B' → Rw <+: rows → ACalls Tryz.prog w0 fa2 ([.agg (.val (.int .i64 x0.1) :: (.val (.string x0.2.1) :: (.val (.int .i64 x0.2.2.1) :: ((x0.2.2.2.1.cs) ++ ([.list (x0.2.2.2.2.map avV) .none]))))), .agg (.val (.int .i64 x1.1) :: (.val (.string x1.2.1) :: (.val (.int .i64 x1.2.2.1) :: ((x1.2.2.2.1.cs) ++ ([.list (x1.2.2.2.2.map avV) .none])))))] ++ ca2) ⟨B', rows, L⟩ fun v s => v = .val (.bool r) ∧ s = ⟨B', rows, L⟩) (r : Bool) (h : sl_EqualFunc_TypeField_F n a0 a1 a2 = some r) :
    ACalls Tryz.prog w0 84 [.list (a0.map avTF) .none, .list (a1.map avTF) .none, .clo fa2 ca2] ⟨B, Rw, L⟩ fun x st => x = .val (.bool r) ∧ st = ⟨B, Rw, L⟩ := by
  rw [sl_EqualFunc_TypeField_F] at h
  refine ACalls.finP (acalls_of (rs := [.tmp 6]) Tryz.func84 rfl rfl Tryz.ntmps84 (enters_some Tryz.func84 rfl (by decide)) (Nat.le_of_ble_eq_true rfl) ?_)
  intro M0 W0 hN hNR hNL hcalm hu
  dsimp only at hN hNR hNL hcalm hu
  simp only [argsE]
  have hO := Owns.none Rw
  have hs := fact0
  have hU_a2 := under_caps (hu (.clo fa2 ca2) (by simp))
  refine rg [0, 1, 2] hs ?_
  apply awp_seq; intro K2 hK2
  refine rg [0, 1, 2, 14] hs ?_
  refine cnd h hs (fun hs h => ?_) (fun hs h => ?_)
  · skip
    have hb4 := hs.1
    refine rg [6] hs ?_
    exact rt h hs hcalm hO
  have hb4 := hs.1
  refine sk [0, 1, 2] hs hK2 ?_
  clear hK2
  refine awp_mid (fun e st => ∃ (X_k7 : List (List AV)) (rows_k7 : List RowA), e = [] ∧ st = ⟨B ++ ([] ++ X_k7), rows_k7, L⟩ ∧ Owns Rw rows_k7 [] ∧ sl_EqualFunc_TypeField_k7 n  = some r) ?_ ?_
  · intro K8 hK8
    refine rg [1, 2, 15, 16, 17] hs ?_
    apply awp_block
    refine awp_loop (fun m e st => ∃ (x17_l10 : Int) (X_l10 : List (List AV)) (rows_l10 : List RowA), e = [(1, true, .list (a1.map avTF) .none), (2, true, .clo fa2 ca2), (15, true, .list (a0.map avTF) .none), (16, true, .val (.int .i64 ((a0.length : Int)))), (17, true, .val (.int .i64 x17_l10))] ∧ st = ⟨B ++ ([] ++ X_l10), rows_l10, L⟩ ∧ Owns Rw rows_l10 [] ∧ sl_EqualFunc_TypeField_l10 n a0 a1 a2 m x17_l10 = some r) n ⟨0, ([]), Rw, ef hs, ef hs, hO, h⟩ ?_
    rintro m_l10 e st ⟨x17_l10, X_l10, rows_l10, rfl, rfl, hO, h⟩ KR_l10 hKR_l10
    cases m_l10 with
    | zero => cases h
    | succ m_l10 =>
    rw [sl_EqualFunc_TypeField_l10] at h
    refine awp_tidy hN hNR hNL rfl hcalm hO (by (simp +decide only [go_sem, Nat.reduceAdd]) <;> (try (repeat' apply And.intro)) <;> first | omega | assumption | exact hU_a2 _ _ _ (by omega) (by have := hO.len; omega) (by omega)) (by (simp +decide only [go_sem, Nat.reduceAdd, calmE]) <;> (try (repeat' apply And.intro)) <;> first | omega | assumption | exact hU_a2 _ _ _ (by omega) (by have := hO.len; omega) (by omega)) ?_
    refine rg [1, 2, 15, 16, 17, 18] hs ?_
    apply awp_seq; intro K12 hK12
    refine cnd h hs (fun hs h => ?_) (fun hs h => ?_)
    rotate_left
    · skip
      have hb13 := hs.1
      refine sx [] hs hK8 ?_
      exact ⟨([]), rows_l10, ef hs, ef hs, hO, h⟩
    have hb13 := hs.1
    refine sk [1, 2, 15, 16, 17] hs hK12 ?_
    clear hK12
    apply awp_seq; intro K14 hK14
    apply awp_block
    obtain ⟨x16, hx16, h⟩ := bind_some h
    obtain ⟨hx16a, hx16b, hx16c⟩ := idx_some hx16
    have hx16d := getD_map (f := avTF) hx16c
    have hs := And.intro hx16d hs
    refine rg [1, 2, 7, 8, 15, 16, 17] hs ?_
    obtain ⟨x18, hx18, h⟩ := bind_some h
    obtain ⟨hx18a, hx18b, hx18c⟩ := idx_some hx18
    have hx18d := getD_map (f := avTF) hx18c
    have hs := And.intro hx18d hs
    refine rg [1, 2, 8, 9, 15, 16, 17] hs ?_
    obtain ⟨y20, hy20, h⟩ := bind_some h
    refine rc 2 [1, 2, 15, 16, 17, 30] hs ?_; intro K19 hK19
    refine callK_q _ (ha2 x16 x18 _ hy20 _ _ (by first | exact List.prefix_append _ _ | exact List.prefix_refl _) hO.pre) (hv hs) ?_
    refine ne hs hK19 ?_
    clear hK19
    refine cnd h hs (fun hs h => ?_) (fun hs h => ?_)
    · skip
      have hb21 := hs.1
      refine rg [6] hs ?_
      exact rt h hs hcalm hO
    have hb21 := hs.1
    refine sk [1, 2, 15, 16, 17] hs hK14 ?_
    clear hK14
    obtain ⟨hg23, h⟩ := guard_some h
    apply awp_region 1 [1, 2, 15, 16, 17]
    rw [evK_succ]; simp +decide only [go_sem, Nat.reduceAdd, hb4, hb13, hx16d, hx18d, hb21]
    (repeat' apply And.intro) <;> first | refine hKR_l10 m_l10 _ _ (Nat.lt_succ_self m_l10) ⟨(x17_l10 + 1), ([.val (.int .i64 x16.1) :: (.val (.string x16.2.1) :: (.val (.int .i64 x16.2.2.1) :: ((x16.2.2.2.1.cs) ++ ([.list (x16.2.2.2.2.map avV) .none])))), .val (.int .i64 x18.1) :: (.val (.string x18.2.1) :: (.val (.int .i64 x18.2.2.1) :: ((x18.2.2.2.1.cs) ++ ([.list (x18.2.2.2.2.map avV) .none]))))]), rows_l10, ef hs, ef hs, hO, h⟩ | exact cl
  · clear h; rintro e st ⟨X_k7, rows_k7, rfl, rfl, hO, h⟩
    rw [sl_EqualFunc_TypeField_k7] at h
    refine awp_tidy hN hNR hNL rfl hcalm hO (by (simp +decide only [go_sem, Nat.reduceAdd]) <;> (try (repeat' apply And.intro)) <;> first | omega | assumption | exact hU_a2 _ _ _ (by omega) (by have := hO.len; omega) (by omega)) (by (simp +decide only [go_sem, Nat.reduceAdd, calmE]) <;> (try (repeat' apply And.intro)) <;> first | omega | assumption | exact hU_a2 _ _ _ (by omega) (by have := hO.len; omega) (by omega)) ?_
    refine rg [6] hs ?_
    exact rt h hs hcalm hO
end Go.Proofs.YtggimoedcamonaaGreatDoor
namespace Go.Proofs.YtggimoedcamonaaGreatDoor
open Go Go.RowKit Go.Ev
set_option linter.unusedSimpArgs false
set_option linter.unusedVariables false
def sl_Equal_string_k7 (n : Nat)  : Option Bool :=
  some (true)
def sl_Equal_string_l10 (n : Nat) (a0 : List ByteArray) (a1 : List ByteArray) : Nat → Int → Option Bool
  | 0, _ => none
  | m + 1, x13_l10 =>
    if decide (x13_l10 < ((a0.length : Int))) then
      (idx a0 x13_l10).bind fun x17 =>
      (idx a1 x13_l10).bind fun x18 =>
      if !(sEq x17 x18) then
        some (false)
      else
        if I64 (x13_l10 + 1) then
          (sl_Equal_string_l10 n a0 a1 m) (x13_l10 + 1)
        else none
    else
      sl_Equal_string_k7 n 
def sl_Equal_string_F (n : Nat) (a0 : List ByteArray) (a1 : List ByteArray) : Option Bool :=
  if !(decide (((a0.length : Int)) = ((a1.length : Int)))) then
    some (false)
  else
    sl_Equal_string_l10 n a0 a1 n 0
set_option maxRecDepth 100000 in
set_option maxHeartbeats 4000000 in
theorem sl_Equal_string_at (w0 : World) (n : Nat) (B : List (List AV)) (Rw : List RowA) (L : List LoopA) (a0 : List ByteArray) (a1 : List ByteArray) (r : Bool) (h : sl_Equal_string_F n a0 a1 = some r) :
    ACalls Tryz.prog w0 82 [.list (a0.map avS) .none, .list (a1.map avS) .none] ⟨B, Rw, L⟩ fun x st => x = .val (.bool r) ∧ st = ⟨B, Rw, L⟩ := by
  rw [sl_Equal_string_F] at h
  refine ACalls.finP (acalls_of (rs := [.tmp 4]) Tryz.func82 rfl rfl Tryz.ntmps82 (enters_some Tryz.func82 rfl (by decide)) (Nat.le_of_ble_eq_true rfl) ?_)
  intro M0 W0 hN hNR hNL hcalm hu
  dsimp only at hN hNR hNL hcalm hu
  simp only [argsE]
  have hO := Owns.none Rw
  have hs := fact0
  refine rg [0, 1] hs ?_
  apply awp_seq; intro K2 hK2
  refine rg [0, 1, 10] hs ?_
  refine cnd h hs (fun hs h => ?_) (fun hs h => ?_)
  · skip
    have hb4 := hs.1
    refine rg [4] hs ?_
    exact rt h hs hcalm hO
  have hb4 := hs.1
  refine sk [0, 1] hs hK2 ?_
  clear hK2
  refine awp_mid (fun e st => ∃ (X_k7 : List (List AV)) (rows_k7 : List RowA), e = [] ∧ st = ⟨B ++ ([] ++ X_k7), rows_k7, L⟩ ∧ Owns Rw rows_k7 [] ∧ sl_Equal_string_k7 n  = some r) ?_ ?_
  · intro K8 hK8
    refine rg [0, 1, 12, 13] hs ?_
    apply awp_block
    refine awp_loop (fun m e st => ∃ (x13_l10 : Int) (X_l10 : List (List AV)) (rows_l10 : List RowA), e = [(0, true, .list (a0.map avS) .none), (1, true, .list (a1.map avS) .none), (12, true, .val (.int .i64 ((a0.length : Int)))), (13, true, .val (.int .i64 x13_l10))] ∧ st = ⟨B ++ ([] ++ X_l10), rows_l10, L⟩ ∧ Owns Rw rows_l10 [] ∧ sl_Equal_string_l10 n a0 a1 m x13_l10 = some r) n ⟨0, ([]), Rw, ef hs, ef hs, hO, h⟩ ?_
    rintro m_l10 e st ⟨x13_l10, X_l10, rows_l10, rfl, rfl, hO, h⟩ KR_l10 hKR_l10
    cases m_l10 with
    | zero => cases h
    | succ m_l10 =>
    rw [sl_Equal_string_l10] at h
    refine td hN hNR hNL hcalm hO ?_
    refine rg [0, 1, 12, 13, 14] hs ?_
    apply awp_seq; intro K12 hK12
    refine cnd h hs (fun hs h => ?_) (fun hs h => ?_)
    rotate_left
    · skip
      have hb13 := hs.1
      refine sx [] hs hK8 ?_
      exact ⟨([]), rows_l10, ef hs, ef hs, hO, h⟩
    have hb13 := hs.1
    refine sk [0, 1, 12, 13] hs hK12 ?_
    clear hK12
    apply awp_seq; intro K14 hK14
    apply awp_block
    refine rg [0, 1, 5, 12, 13] hs ?_
    obtain ⟨x17, hx17, h⟩ := bind_some h
    obtain ⟨hx17a, hx17b, hx17c⟩ := idx_some hx17
    have hx17d := getD_map (f := avS) hx17c
    obtain ⟨x18, hx18, h⟩ := bind_some h
    obtain ⟨hx18a, hx18b, hx18c⟩ := idx_some hx18
    have hx18d := getD_map (f := avS) hx18c
    have hs := And.intro hx17d hs
    have hs := And.intro hx18d hs
    refine dg 9 1 1 [0, 1, 12, 13, 24] hs mix ?_
    refine cnd h hs (fun hs h => ?_) (fun hs h => ?_)
    · skip
      have hb19 := hs.1
      refine rg [4] hs ?_
      exact rt h hs hcalm hO
    have hb19 := hs.1
    refine sk [0, 1, 12, 13] hs hK14 ?_
    clear hK14
    obtain ⟨hg21, h⟩ := guard_some h
    apply awp_region 1 [0, 1, 12, 13]
    rw [evK_succ]; simp +decide only [go_sem, Nat.reduceAdd, hb4, hb13, hx17d, hx18d, hb19]
    (repeat' apply And.intro) <;> first | refine hKR_l10 m_l10 _ _ (Nat.lt_succ_self m_l10) ⟨(x13_l10 + 1), ([]), rows_l10, ef hs, ef hs, hO, h⟩ | exact cl
  · clear h; rintro e st ⟨X_k7, rows_k7, rfl, rfl, hO, h⟩
    rw [sl_Equal_string_k7] at h
    refine td hN hNR hNL hcalm hO ?_
    refine rg [4] hs ?_
    exact rt h hs hcalm hO
end Go.Proofs.YtggimoedcamonaaGreatDoor
namespace Go.Proofs.YtggimoedcamonaaGreatDoor
open Go Go.RowKit Go.Ev
set_option linter.unusedSimpArgs false
set_option linter.unusedVariables false
def s_Equal_B (rec : Ty → Ty → Option Bool) (n : Nat) (a0 : Ty) (a1 : Ty) : Option Bool :=
  if (((decide (a0.kind = a1.kind)) && (decide (a0.min = a1.min))) && (decide (a0.max = a1.max))) && (decide (a0.scale = a1.scale)) then
    (sl_Equal_string_F n a0.words a1.words).bind fun y4 =>
    if y4 then
      (sl_EqualFunc_Type_F n a0.elem a1.elem (fun (x0 : Ty) (x1 : Ty) => rec x0 x1)).bind fun y6 =>
      if y6 then
        (sl_EqualFunc_TypeField_F n a0.fields a1.fields (fun (x0 : Int × ByteArray × Int × Ty × List Vl) (x1 : Int × ByteArray × Int × Ty × List Vl) => s_Equal_1_F rec n x0 x1)).bind fun y8 =>
        some (y8)
      else
        some (false)
    else
      some (false)
  else
    some (false)
def s_Equal_F : Nat → Ty → Ty → Option Bool
  | 0, _, _ => none
  | n + 1, a0, a1 => s_Equal_B (s_Equal_F n) n a0 a1
set_option maxRecDepth 100000 in
set_option maxHeartbeats 4000000 in
theorem s_Equal_step (w0 : World) (rec : Ty → Ty → Option Bool) (ih : ∀ (B : List (List AV)) (Rw : List RowA) (L : List LoopA) (a0 : Ty) (a1 : Ty) (r : Bool) (h : rec a0 a1 = some r), ACalls Tryz.prog w0 46 [.agg (a0.cs), .agg (a1.cs)] ⟨B, Rw, L⟩ fun x st => x = .val (.bool r) ∧ st = ⟨B, Rw, L⟩) (n : Nat) (B : List (List AV)) (Rw : List RowA) (L : List LoopA) (a0 : Ty) (a1 : Ty) (r : Bool) (h : s_Equal_B rec n a0 a1 = some r) :
    ACalls Tryz.prog w0 46 [.agg (a0.cs), .agg (a1.cs)] ⟨B, Rw, L⟩ fun x st => x = .val (.bool r) ∧ st = ⟨B, Rw, L⟩ := by
  rw [s_Equal_B] at h
  refine ACalls.finP (acalls_of (rs := [.tmp 4]) Tryz.func46 rfl rfl Tryz.ntmps46 (enters_some Tryz.func46 rfl (by decide)) (Nat.le_of_ble_eq_true rfl) ?_)
  intro M0 W0 hN hNR hNL hcalm hu
  dsimp only at hN hNR hNL hcalm hu
  simp only [argsE]
  have hO := Owns.none Rw
  have hs := fact0
  refine rg [2, 3] hs ?_
  apply awp_seq; intro K2 hK2
  rcases Bool.eq_false_or_eq_true ((((decide (a0.kind = a1.kind)) && (decide (a0.min = a1.min))) && (decide (a0.max = a1.max))) && (decide (a0.scale = a1.scale))) with hf3 | hf3
  · replace h := ite_tt h hf3
    obtain ⟨y4, hy4, h⟩ := bind_some h
    rcases Bool.eq_false_or_eq_true (y4) with hf5 | hf5
    · replace h := ite_tt h hf5
      obtain ⟨y6, hy6, h⟩ := bind_some h
      rcases Bool.eq_false_or_eq_true (y6) with hf7 | hf7
      · replace h := ite_tt h hf7
        obtain ⟨y8, hy8, h⟩ := bind_some h
        apply awp_region 4 [4]
        rw [evK_succ]; simp +decide only [go_sem, Nat.reduceAdd, hf3, hf5, hf7]
        have hs := And.intro hf3 hs
        have hs := And.intro hf5 hs
        have hs := And.intro hf7 hs
        (repeat' apply And.intro) <;> first | refine callK_p _ (sl_Equal_string_at w0 n _ _ _ a0.words a1.words _ hy4) (hv hs) ?_ | exact cl
        rw [evK_succ]; simp +decide only [go_sem, Nat.reduceAdd, hf3, hf5, hf7]
        (repeat' apply And.intro) <;> first | refine callK_p _ (sl_EqualFunc_Type_at w0 n _ _ _ a0.elem a1.elem 46 [] (fun (x0 : Ty) (x1 : Ty) => rec x0 x1) (fun x0 x1 r hx B' rows' hB' hR' => by exact ih _ _ _ x0 x1 _ hx) _ hy6) (hv hs) ?_ | exact cl
        rw [evK_succ]; simp +decide only [go_sem, Nat.reduceAdd, hf3, hf5, hf7]
        (repeat' apply And.intro) <;> first | refine callK_p _ (sl_EqualFunc_TypeField_at w0 n _ _ _ a0.fields a1.fields 85 [] (fun (x0 : Int × ByteArray × Int × Ty × List Vl) (x1 : Int × ByteArray × Int × Ty × List Vl) => s_Equal_1_F rec n x0 x1) (fun x0 x1 r hx B' rows' hB' hR' => by exact s_Equal_1_at w0 rec ih n _ _ _ x0 x1 _ hx) _ hy8) (hv hs) ?_ | exact cl
        rw [evK_succ]; simp +decide only [go_sem, Nat.reduceAdd, hf3, hf5, hf7]
        (repeat' apply And.intro) <;> first | refine hK2 _ _ ?_ | exact cl
        clear hK2
        exact rt h hs hcalm hO
      · replace h := ite_ff h hf7
        apply awp_region 4 [4]
        rw [evK_succ]; simp +decide only [go_sem, Nat.reduceAdd, hf3, hf5, hf7]
        have hs := And.intro hf3 hs
        have hs := And.intro hf5 hs
        have hs := And.intro hf7 hs
        (repeat' apply And.intro) <;> first | refine callK_p _ (sl_Equal_string_at w0 n _ _ _ a0.words a1.words _ hy4) (hv hs) ?_ | exact cl
        rw [evK_succ]; simp +decide only [go_sem, Nat.reduceAdd, hf3, hf5, hf7]
        (repeat' apply And.intro) <;> first | refine callK_p _ (sl_EqualFunc_Type_at w0 n _ _ _ a0.elem a1.elem 46 [] (fun (x0 : Ty) (x1 : Ty) => rec x0 x1) (fun x0 x1 r hx B' rows' hB' hR' => by exact ih _ _ _ x0 x1 _ hx) _ hy6) (hv hs) ?_ | exact cl
        rw [evK_succ]; simp +decide only [go_sem, Nat.reduceAdd, hf3, hf5, hf7]
        (repeat' apply And.intro) <;> first | refine callK_skip ?_ | exact cl
        rw [evK_succ]; simp +decide only [go_sem, Nat.reduceAdd, hf3, hf5, hf7]
        (repeat' apply And.intro) <;> first | refine hK2 _ _ ?_ | exact cl
        clear hK2
        exact rt h hs hcalm hO
    · replace h := ite_ff h hf5
      apply awp_region 4 [4]
      rw [evK_succ]; simp +decide only [go_sem, Nat.reduceAdd, hf3, hf5]
      have hs := And.intro hf3 hs
      have hs := And.intro hf5 hs
      (repeat' apply And.intro) <;> first | refine callK_p _ (sl_Equal_string_at w0 n _ _ _ a0.words a1.words _ hy4) (hv hs) ?_ | exact cl
      rw [evK_succ]; simp +decide only [go_sem, Nat.reduceAdd, hf3, hf5]
      (repeat' apply And.intro) <;> first | refine callK_skip ?_ | exact cl
      rw [evK_succ]; simp +decide only [go_sem, Nat.reduceAdd, hf3, hf5]
      (repeat' apply And.intro) <;> first | refine callK_skip ?_ | exact cl
      rw [evK_succ]; simp +decide only [go_sem, Nat.reduceAdd, hf3, hf5]
      (repeat' apply And.intro) <;> first | refine hK2 _ _ ?_ | exact cl
      clear hK2
      exact rt h hs hcalm hO
  · replace h := ite_ff h hf3
    apply awp_region 4 [4]
    rw [evK_succ]; simp +decide only [go_sem, Nat.reduceAdd, hf3]
    (repeat' apply And.intro) <;> first | refine callK_skip ?_ | exact cl
    rw [evK_succ]; simp +decide only [go_sem, Nat.reduceAdd, hf3]
    (repeat' apply And.intro) <;> first | refine callK_skip ?_ | exact cl
    rw [evK_succ]; simp +decide only [go_sem, Nat.reduceAdd, hf3]
    (repeat' apply And.intro) <;> first | refine callK_skip ?_ | exact cl
    rw [evK_succ]; simp +decide only [go_sem, Nat.reduceAdd, hf3]
    (repeat' apply And.intro) <;> first | refine hK2 _ _ ?_ | exact cl
    clear hK2
    have hs := And.intro hf3 hs
    exact rt h hs hcalm hO
theorem s_Equal_at (w0 : World) : ∀ (n : Nat) (B : List (List AV)) (Rw : List RowA) (L : List LoopA) (a0 : Ty) (a1 : Ty) (r : Bool) (h : s_Equal_F n a0 a1 = some r), ACalls Tryz.prog w0 46 [.agg (a0.cs), .agg (a1.cs)] ⟨B, Rw, L⟩ fun x st => x = .val (.bool r) ∧ st = ⟨B, Rw, L⟩
  | 0, _, _, _, _, _, _, h => (nomatch h)
  | n + 1, B, Rw, L, a0, a1, r, h => s_Equal_step w0 (s_Equal_F n) (s_Equal_at w0 n) n B Rw L a0 a1 r (by rw [s_Equal_F] at h; exact h)
end Go.Proofs.YtggimoedcamonaaGreatDoor
namespace Go.Proofs.YtggimoedcamonaaGreatDoor
open Go Go.RowKit Go.Ev
set_option linter.unusedSimpArgs false
set_option linter.unusedVariables false
def s_EqualSchema_F (n : Nat) (a0 : Sch) (a1 : Sch) : Option Bool :=
  if (sEq a0.name a1.name) && (decide (a0.version = a1.version)) then
    (s_Equal_F n a0.type a1.type).bind fun y4 =>
    some (y4)
  else
    some (false)
set_option maxRecDepth 100000 in
set_option maxHeartbeats 4000000 in
theorem s_EqualSchema_at (w0 : World) (n : Nat) (B : List (List AV)) (Rw : List RowA) (L : List LoopA) (a0 : Sch) (a1 : Sch) (r : Bool) (h : s_EqualSchema_F n a0 a1 = some r) :
    ACalls Tryz.prog w0 47 [.agg (.val (.string a0.name) :: (.val (.int .i64 a0.version) :: (a0.type.cs))), .agg (.val (.string a1.name) :: (.val (.int .i64 a1.version) :: (a1.type.cs)))] ⟨B, Rw, L⟩ fun x st => x = .val (.bool r) ∧ st = ⟨B, Rw, L⟩ := by
  rw [s_EqualSchema_F] at h
  refine ACalls.finP (acalls_of (rs := [.tmp 4]) Tryz.func47 rfl rfl Tryz.ntmps47 (enters_some Tryz.func47 rfl (by decide)) (Nat.le_of_ble_eq_true rfl) ?_)
  intro M0 W0 hN hNR hNL hcalm hu
  dsimp only at hN hNR hNL hcalm hu
  simp only [argsE]
  have hO := Owns.none Rw
  have hs := fact0
  refine rg [2, 3] hs ?_
  apply awp_seq; intro K2 hK2
  rcases Bool.eq_false_or_eq_true ((sEq a0.name a1.name) && (decide (a0.version = a1.version))) with hf3 | hf3
  · replace h := ite_tt h hf3
    obtain ⟨y4, hy4, h⟩ := bind_some h
    apply awp_region 2 [4]
    rw [evK_succ]; simp +decide only [go_sem, Nat.reduceAdd, hf3]
    have hs := And.intro hf3 hs
    (repeat' apply And.intro) <;> first | refine callK_p _ (s_Equal_at w0 n _ _ _ a0.type a1.type _ hy4) (hv hs) ?_ | exact cl
    rw [evK_succ]; simp +decide only [go_sem, Nat.reduceAdd, hf3]
    (repeat' apply And.intro) <;> first | refine hK2 _ _ ?_ | exact cl
    clear hK2
    exact rt h hs hcalm hO
  · replace h := ite_ff h hf3
    apply awp_region 2 [4]
    rw [evK_succ]; simp +decide only [go_sem, Nat.reduceAdd, hf3]
    (repeat' apply And.intro) <;> first | refine callK_skip ?_ | exact cl
    rw [evK_succ]; simp +decide only [go_sem, Nat.reduceAdd, hf3]
    (repeat' apply And.intro) <;> first | refine hK2 _ _ ?_ | exact cl
    clear hK2
    have hs := And.intro hf3 hs
    exact rt h hs hcalm hO
end Go.Proofs.YtggimoedcamonaaGreatDoor
namespace Go.Proofs.YtggimoedcamonaaGreatDoor
open Go Go.RowKit Go.Ev
set_option linter.unusedSimpArgs false
set_option linter.unusedVariables false
def l6_SchemaEquals_F (n : Nat) (a0 : Sch) (a1 : Sch) : Option Bool :=
  (l6_known_F n ).bind fun y4 =>
  if !y4 then
    (l6_known_F n ).bind fun y8 =>
    some (y8)
  else
    (l6_Small_F n a0.type).bind fun y9 =>
    if !y9 then
      (l6_known_F n ).bind fun y13 =>
      some (y13)
    else
      (l6_Small_F n a1.type).bind fun y14 =>
      if !y14 then
        (l6_known_F n ).bind fun y17 =>
        some (y17)
      else
        (r6_Equal_F n a0.type a1.type).bind fun y19 =>
        (s_Equal_F n a0.type a1.type).bind fun y21 =>
        if y21 == y19 then
          (s_Equal_F n a1.type a0.type).bind fun y23 =>
          if y23 == y19 then
            (s_EqualSchema_F n a0 a1).bind fun y25 =>
            some (y25 == ((y19 && (sEq a0.name a1.name)) && (decide (a0.version = a1.version))))
          else
            some (false)
        else
          some (false)
set_option maxRecDepth 100000 in
set_option maxHeartbeats 4000000 in
theorem l6_SchemaEquals_at (w0 : World) (hP : Pow10 w0) (hT : Lib.Utf8Tabs 0 1 w0) (n : Nat) (B : List (List AV)) (Rw : List RowA) (L : List LoopA) (a0 : Sch) (a1 : Sch) (r : Bool) (h : l6_SchemaEquals_F n a0 a1 = some r) :
    ACalls Tryz.prog w0 12 [.agg (.val (.string a0.name) :: (.val (.int .i64 a0.version) :: (a0.type.cs))), .agg (.val (.string a1.name) :: (.val (.int .i64 a1.version) :: (a1.type.cs)))] ⟨B, Rw, L⟩ fun x st => x = .val (.bool r) ∧ st = ⟨B, Rw, L⟩ := by
  rw [l6_SchemaEquals_F] at h
  refine ACalls.finP (acalls_of (rs := [.tmp 4]) Tryz.func12 rfl rfl Tryz.ntmps12 (enters_some Tryz.func12 rfl (by decide)) (Nat.le_of_ble_eq_true rfl) ?_)
  intro M0 W0 hN hNR hNL hcalm hu
  dsimp only at hN hNR hNL hcalm hu
  simp only [argsE]
  have hO := Owns.none Rw
  have hs := fact0
  refine rg [2, 3] hs ?_
  apply awp_seq; intro K2 hK2
  apply awp_seq; intro K3 hK3
  obtain ⟨y4, hy4, h⟩ := bind_some h
  rcases Bool.eq_false_or_eq_true (!y4) with hf5 | hf5
  · replace h := ite_tt h hf5
    apply awp_region 4 [2, 3, 19]
    rw [evK_succ]; simp +decide only [go_sem, Nat.reduceAdd, hf5]
    have hs := And.intro hf5 hs
    (repeat' apply And.intro) <;> first | refine callK_p _ (l6_known_at w0 hP hT n _ _ _  _ hy4) (hv hs) ?_ | exact cl
    rw [evK_succ]; simp +decide only [go_sem, Nat.reduceAdd, hf5]
    (repeat' apply And.intro) <;> first | refine callK_skip ?_ | exact cl
    rw [evK_succ]; simp +decide only [go_sem, Nat.reduceAdd, hf5]
    (repeat' apply And.intro) <;> first | refine callK_skip ?_ | exact cl
    rw [evK_succ]; simp +decide only [go_sem, Nat.reduceAdd, hf5]
    (repeat' apply And.intro) <;> first | refine hK3 _ _ ?_ | exact cl
    clear hK3
    refine awp_cond true ev (ef hs) (fun hb6 => ?_) (fun hb6 => by cases hb6)
    obtain ⟨y8, hy8, h⟩ := bind_some h
    refine rc 2 [4] hs ?_; intro K7 hK7
    refine callK_p _ (l6_known_at w0 hP hT n _ _ _  _ hy8) (hv hs) ?_
    refine ne hs hK7 ?_
    clear hK7
    exact rt h hs hcalm hO
  · replace h := ite_ff h hf5
    obtain ⟨y9, hy9, h⟩ := bind_some h
    rcases Bool.eq_false_or_eq_true (!y9) with hf10 | hf10
    · replace h := ite_tt h hf10
      apply awp_region 4 [2, 3, 19]
      rw [evK_succ]; simp +decide only [go_sem, Nat.reduceAdd, hf5, hf10]
      have hs := And.intro hf5 hs
      have hs := And.intro hf10 hs
      (repeat' apply And.intro) <;> first | refine callK_p _ (l6_known_at w0 hP hT n _ _ _  _ hy4) (hv hs) ?_ | exact cl
      rw [evK_succ]; simp +decide only [go_sem, Nat.reduceAdd, hf5, hf10]
      (repeat' apply And.intro) <;> first | refine callK_p _ (l6_Small_at w0 n _ _ _ a0.type _ hy9) (hv hs) ?_ | exact cl
      rw [evK_succ]; simp +decide only [go_sem, Nat.reduceAdd, hf5, hf10]
      (repeat' apply And.intro) <;> first | refine callK_skip ?_ | exact cl
      rw [evK_succ]; simp +decide only [go_sem, Nat.reduceAdd, hf5, hf10]
      (repeat' apply And.intro) <;> first | refine hK3 _ _ ?_ | exact cl
      clear hK3
      refine awp_cond true ev (ef hs) (fun hb11 => ?_) (fun hb11 => by cases hb11)
      obtain ⟨y13, hy13, h⟩ := bind_some h
      refine rc 2 [4] hs ?_; intro K12 hK12
      refine callK_p _ (l6_known_at w0 hP hT n _ _ _  _ hy13) (hv hs) ?_
      refine ne hs hK12 ?_
      clear hK12
      exact rt h hs hcalm hO
    · replace h := ite_ff h hf10
      obtain ⟨y14, hy14, h⟩ := bind_some h
      apply awp_region 4 [2, 3, 19]
      rw [evK_succ]; simp +decide only [go_sem, Nat.reduceAdd, hf5, hf10]
      have hs := And.intro hf5 hs
      have hs := And.intro hf10 hs
      (repeat' apply And.intro) <;> first | refine callK_p _ (l6_known_at w0 hP hT n _ _ _  _ hy4) (hv hs) ?_ | exact cl
      rw [evK_succ]; simp +decide only [go_sem, Nat.reduceAdd, hf5, hf10]
      (repeat' apply And.intro) <;> first | refine callK_p _ (l6_Small_at w0 n _ _ _ a0.type _ hy9) (hv hs) ?_ | exact cl
      rw [evK_succ]; simp +decide only [go_sem, Nat.reduceAdd, hf5, hf10]
      (repeat' apply And.intro) <;> first | refine callK_p _ (l6_Small_at w0 n _ _ _ a1.type _ hy14) (hv hs) ?_ | exact cl
      rw [evK_succ]; simp +decide only [go_sem, Nat.reduceAdd, hf5, hf10]
      (repeat' apply And.intro) <;> first | refine hK3 _ _ ?_ | exact cl
      clear hK3
      refine cnd h hs (fun hs h => ?_) (fun hs h => ?_)
      · skip
        have hb15 := hs.1
        obtain ⟨y17, hy17, h⟩ := bind_some h
        refine rc 2 [4] hs ?_; intro K16 hK16
        refine callK_p _ (l6_known_at w0 hP hT n _ _ _  _ hy17) (hv hs) ?_
        refine ne hs hK16 ?_
        clear hK16
        exact rt h hs hcalm hO
      have hb15 := hs.1
      refine sk [2, 3] hs hK2 ?_
      clear hK2
      obtain ⟨y19, hy19, h⟩ := bind_some h
      refine rc 2 [2, 3, 5] hs ?_; intro K18 hK18
      refine callK_p _ (r6_Equal_at w0 n _ _ _ a0.type a1.type _ hy19) (hv hs) ?_
      refine ne hs hK18 ?_
      clear hK18
      apply awp_seq; intro K20 hK20
      obtain ⟨y21, hy21, h⟩ := bind_some h
      rcases Bool.eq_false_or_eq_true (y21 == y19) with hf22 | hf22
      · replace h := ite_tt h hf22
        obtain ⟨y23, hy23, h⟩ := bind_some h
        rcases Bool.eq_false_or_eq_true (y23 == y19) with hf24 | hf24
        · replace h := ite_tt h hf24
          obtain ⟨y25, hy25, h⟩ := bind_some h
          apply awp_region 4 [4]
          rw [evK_succ]; simp +decide only [go_sem, Nat.reduceAdd, hf5, hf10, hb15, hf22, hf24]
          have hs := And.intro hf22 hs
          have hs := And.intro hf24 hs
          (repeat' apply And.intro) <;> first | refine callK_p _ (s_Equal_at w0 n _ _ _ a0.type a1.type _ hy21) (hv hs) ?_ | exact cl
          rw [evK_succ]; simp +decide only [go_sem, Nat.reduceAdd, hf5, hf10, hb15, hf22, hf24]
          (repeat' apply And.intro) <;> first | refine callK_p _ (s_Equal_at w0 n _ _ _ a1.type a0.type _ hy23) (hv hs) ?_ | exact cl
          rw [evK_succ]; simp +decide only [go_sem, Nat.reduceAdd, hf5, hf10, hb15, hf22, hf24]
          (repeat' apply And.intro) <;> first | refine callK_p _ (s_EqualSchema_at w0 n _ _ _ a0 a1 _ hy25) (hv hs) ?_ | exact cl
          rw [evK_succ]; simp +decide only [go_sem, Nat.reduceAdd, hf5, hf10, hb15, hf22, hf24]
          (repeat' apply And.intro) <;> first | refine hK20 _ _ ?_ | exact cl
          clear hK20
          exact rt h hs hcalm hO
        · replace h := ite_ff h hf24
          apply awp_region 4 [4]
          rw [evK_succ]; simp +decide only [go_sem, Nat.reduceAdd, hf5, hf10, hb15, hf22, hf24]
          have hs := And.intro hf22 hs
          have hs := And.intro hf24 hs
          (repeat' apply And.intro) <;> first | refine callK_p _ (s_Equal_at w0 n _ _ _ a0.type a1.type _ hy21) (hv hs) ?_ | exact cl
          rw [evK_succ]; simp +decide only [go_sem, Nat.reduceAdd, hf5, hf10, hb15, hf22, hf24]
          (repeat' apply And.intro) <;> first | refine callK_p _ (s_Equal_at w0 n _ _ _ a1.type a0.type _ hy23) (hv hs) ?_ | exact cl
          rw [evK_succ]; simp +decide only [go_sem, Nat.reduceAdd, hf5, hf10, hb15, hf22, hf24]
          (repeat' apply And.intro) <;> first | refine callK_skip ?_ | exact cl
          rw [evK_succ]; simp +decide only [go_sem, Nat.reduceAdd, hf5, hf10, hb15, hf22, hf24]
          (repeat' apply And.intro) <;> first | refine hK20 _ _ ?_ | exact cl
          clear hK20
          exact rt h hs hcalm hO
      · replace h := ite_ff h hf22
        apply awp_region 4 [4]
        rw [evK_succ]; simp +decide only [go_sem, Nat.reduceAdd, hf5, hf10, hb15, hf22]
        have hs := And.intro hf22 hs
        (repeat' apply And.intro) <;> first | refine callK_p _ (s_Equal_at w0 n _ _ _ a0.type a1.type _ hy21) (hv hs) ?_ | exact cl
        rw [evK_succ]; simp +decide only [go_sem, Nat.reduceAdd, hf5, hf10, hb15, hf22]
        (repeat' apply And.intro) <;> first | refine callK_skip ?_ | exact cl
        rw [evK_succ]; simp +decide only [go_sem, Nat.reduceAdd, hf5, hf10, hb15, hf22]
        (repeat' apply And.intro) <;> first | refine callK_skip ?_ | exact cl
        rw [evK_succ]; simp +decide only [go_sem, Nat.reduceAdd, hf5, hf10, hb15, hf22]
        (repeat' apply And.intro) <;> first | refine hK20 _ _ ?_ | exact cl
        clear hK20
        exact rt h hs hcalm hO
end Go.Proofs.YtggimoedcamonaaGreatDoor
namespace Go.Ev
open Go Go.RowKit
def Mem.start : Mem := ⟨0, 0, fun _ => 0, fun _ => 0, fun _ => 0, fun _ => 0, fun _ => 0, fun _ => 0, 0, fun _ => 0⟩
theorem start_rel (W : World) : RelSt W Mem.start ⟨[], [], []⟩ W where
  below := .refl _ _
  N := rfl
  NR := rfl
  top := fun _ _ => rfl
  inj := fun _ _ h => absurd h (Nat.not_lt_zero _)
  box := fun _ _ h => by simp at h
  row := fun _ _ h => by simp at h
  rowinj := fun _ _ h => absurd h (Nat.not_lt_zero _)
  loop := ⟨rfl, fun _ _ h => absurd h (Nat.not_lt_zero _), fun _ _ h => by simp at h⟩
theorem calls_of_acalls {P : Program} {f : FuncId} {W : World} {vals : Array Value} {args : List AV} {r : Value} (h : ACalls P W f args ⟨[], [], []⟩ fun v st => v = .val r ∧ st = ⟨[], [], []⟩) (hr : RowR W Mem.start W vals args) :
    Calls P f vals W fun e w' => e = .returned r ∧ Below W.heap.size W w' :=
  (h.2 Mem.start W vals (start_rel W) hr).mono fun en w' ⟨v, M', a, st, h1, ⟨h2, _⟩, _, h4, h5⟩ => by
    subst h2
    have := h5.val_inv.1
    subst this
    exact ⟨h1, h4.below⟩
theorem rowR_two {W : World} {v u : Value} {x y : AV} (h : R W Mem.start W v x) (k : R W Mem.start W u y) : RowR W Mem.start W #[v, u] [x, y] := ⟨rfl, fun i h1 h2 => by
  have : i = 0 ∨ i = 1 := by simp at h2; omega
  rcases this with rfl | rfl
  · exact h
  · exact k⟩
end Go.Ev
namespace Go.Proofs.YtggimoedcamonaaGreatDoor
open Go Go.Shelf Go.ChangeShapes Go.WideShapes Go.ChangeAt Go.RowKit Go.Lib Go.Ev
open Go.ChangeMaps (open_string shut_string)
set_option maxRecDepth 100000
theorem law_own : ownKnob Tryz.prog.godebug = none := by kernel_rfl
def flat1 : DataW Unit → List Value
  | .lit (.int k z) => [.int k z]
  | .agg l => l.flatMap fun | .lit (.int k z) => [.int k z] | _ => []
  | _ => []
def flat2 : DataW Unit → List Value
  | .agg l => l.flatMap flat1
  | _ => []
noncomputable def lawWorld (os : Os) : World :=
  let w0 := World.holding Tryz.prog os ⟨#[], #[], []⟩
  let put (h : Array Obj) (g : Nat) (d : DataW Unit) : Array Obj := h.modify g fun
    | .cells _ t frozen => .cells (flat2 d).toArray t frozen
    | o => o
  { w0 with heap := put (put (put (put (put w0.heap 0 Rows.laid_unicode_utf8_first) 1 Rows.laid_unicode_utf8_acceptRanges) 3 Rows.laid_internal_strconv_uint64pow10) 4 Rows.laid_math_bits_deBruijn32tab) 5 Rows.laid_math_bits_deBruijn64tab }
theorem law_laid_met (os : Os) (args : Array Value) : laidMet Tryz.prog Rows.schemaKindsRow.laid ((lawWorld os).forCall (fun _ _ => 0) ⟨#[], args, []⟩).memory :=
  (LaidIn.of_run (l := Rows.schemaKindsRow.laid) [4, 5, 3, 1, 0] 8 (by kernel_rfl) (by kernel_rfl) (by kernel_rfl) (by kernel_rfl)).met
theorem pow10_of_reads {W : World} (h : Lib.VarReads Tryz.prog W pow10Name Rows.laid_internal_strconv_uint64pow10) : Pow10 W := by
  obtain ⟨g, t, cs, fuel, p, h1, h2, h3, h4⟩ := h
  obtain rfl := Option.some.inj ((show Tryz.prog.globalNamed pow10Name = some 3 by kernel_rfl).symm.trans h1)
  obtain rfl := Option.some.inj ((show (Tryz.prog.globals[3]?).map (·.type) = some 227 by kernel_rfl).symm.trans h2)
  have e : (Rows.laid_internal_strconv_uint64pow10 : DataW Unit) = Lib.tabData .u64 Lib.pow10Tab := by kernel_rfl
  rw [e] at h4
  unfold Pow10 Lib.TabIs
  rw [h3, ← Lib.cells_of_tab (n := 20) (k := .u64) (zs := Lib.pow10Tab) Tryz.underlying227 Tryz.underlying192 (by kernel_rfl) (by kernel_rfl) h4]
set_option maxRecDepth 100000 in
theorem law_tabs {W : World} (hL : laidMet Tryz.prog Rows.schemaKindsRow.laid W) : Lib.Utf8Tabs 0 1 W ∧ Pow10 W :=
  ⟨utf8Tabs_of_readsT (U8Types.of196 Tryz.laysValid) ⟨by kernel_rfl, by kernel_rfl, by kernel_rfl, by kernel_rfl, by kernel_rfl, by kernel_rfl, by kernel_rfl⟩ (Lib.laidMet.reads hL (.tail _ (.tail _ (.tail _ (.tail _ (.head _)))))) (Lib.laidMet.reads hL (.tail _ (.tail _ (.tail _ (.head _))))),
    pow10_of_reads (Lib.laidMet.reads hL (.tail _ (.tail _ (.head _))))⟩
end Go.Proofs.YtggimoedcamonaaGreatDoor
namespace Go.Proofs.YtggimoedcamonaaGreatDoor
open Go Go.Shelf Go.ChangeShapes Go.WideShapes Go.ChangeAt Go.RowKit Go.Lib Go.Ev
set_option maxRecDepth 100000
set_option linter.unusedVariables false
set_option linter.unusedSimpArgs false
mutual
def Vl.wf : Vl → Prop
  | .mk k i s t l f => I64 k ∧ I64 i ∧ I64 s ∧ t.size ≤ maxLen ∧ l.length ≤ maxLen ∧ f.length ≤ maxLen ∧ wfVs l ∧ wfFs f
def wfVs : List Vl → Prop
  | [] => True
  | v :: r => v.wf ∧ wfVs r
def wfFs : List (ByteArray × Vl) → Prop
  | [] => True
  | (n, v) :: r => n.size ≤ maxLen ∧ v.wf ∧ wfFs r
end
theorem wfVs_iff : ∀ l, wfVs l ↔ ∀ v ∈ l, v.wf
  | [] => by simp [wfVs]
  | v :: r => by simp [wfVs, wfVs_iff r]
theorem wfFs_iff : ∀ l, wfFs l ↔ ∀ p ∈ l, p.1.size ≤ maxLen ∧ p.2.wf
  | [] => by simp [wfFs]
  | (n, v) :: r => by simp [wfFs, wfFs_iff r, and_assoc]
mutual
def Ty.wf : Ty → Prop
  | .mk k lo hi s w e f => I64 k ∧ I64 lo ∧ I64 hi ∧ I64 s ∧ (∀ x ∈ w, x.size ≤ maxLen) ∧ w.length ≤ maxLen ∧ e.length ≤ maxLen ∧ f.length ≤ maxLen ∧ wfTs e ∧ wfTFs f
def wfTs : List Ty → Prop
  | [] => True
  | v :: r => v.wf ∧ wfTs r
def wfTFs : List (Int × ByteArray × Int × Ty × List Vl) → Prop
  | [] => True
  | (n, s, d, t, l) :: r => (I64 n ∧ s.size ≤ maxLen ∧ I64 d ∧ t.wf ∧ l.length ≤ maxLen ∧ ∀ v ∈ l, v.wf) ∧ wfTFs r
end
theorem wfTs_iff : ∀ l, wfTs l ↔ ∀ v ∈ l, v.wf
  | [] => by simp [wfTs]
  | v :: r => by simp [wfTs, wfTs_iff r]
theorem wfTFs_iff : ∀ l, wfTFs l ↔ ∀ p ∈ l, I64 p.1 ∧ p.2.1.size ≤ maxLen ∧ I64 p.2.2.1 ∧ p.2.2.2.1.wf ∧ p.2.2.2.2.length ≤ maxLen ∧ ∀ v ∈ p.2.2.2.2, v.wf
  | [] => by simp [wfTFs]
  | (n, s, d, t, l) :: r => by simp [wfTFs, wfTFs_iff r]
def Part.wf (p : Part) : Prop := I64 p.kind ∧ I64 p.index ∧ p.name.size ≤ maxLen
def Sch.wf (s : Sch) : Prop := s.name.size ≤ maxLen ∧ I64 s.version ∧ s.type.wf
section
variable {H : Type} {enc : TypeId × Value → H} {W : World}
def RC (W : World) (cs : List Value) (xs : List AV) : Prop := cs.length = xs.length ∧ ∀ i (h1 : i < cs.length) (h2 : i < xs.length), R W Mem.start W cs[i] xs[i]
theorem RC.nil : RC W [] [] := ⟨rfl, fun i h1 => absurd h1 (by simp)⟩
theorem RC.cons {v : Value} {x : AV} {cs : List Value} {xs : List AV} (h : R W Mem.start W v x) (k : RC W cs xs) : RC W (v :: cs) (x :: xs) := ⟨by simp [k.1], fun i h1 h2 => by
  cases i with
  | zero => exact h
  | succ i => simpa using k.2 i (by simpa using h1) (by simpa using h2)⟩
theorem RC.app {cs ds : List Value} {xs ys : List AV} (h : RC W cs xs) (k : RC W ds ys) : RC W (cs ++ ds) (xs ++ ys) := by
  refine ⟨by simp [h.1, k.1], fun i h1 h2 => ?_⟩
  by_cases c : i < cs.length
  · rw [List.getElem_append_left c, List.getElem_append_left (h.1 ▸ c)]; exact h.2 i c _
  · rw [List.getElem_append_right (Nat.le_of_not_lt c), List.getElem_append_right (h.1 ▸ Nat.le_of_not_lt c)]
    simp only [h.1]
    exact k.2 _ (by have := h.1; rw [List.length_append] at h1; omega) (by have := h.1; rw [List.length_append] at h2; omega)
theorem RC.agg {cs : List Value} {xs : List AV} (h : RC W cs xs) (h1 : ∀ x ∈ xs, x.one = true) : R W Mem.start W (.agg cs.toArray) (.agg xs) := .agg (by simpa using h.1) h1 (fun i a b => by simpa using h.2 i (by simpa using a) b)
noncomputable abbrev Td (enc : TypeId × Value → H) (W : World) (n : Nat) (t : TypeId) (cs : List Value) : Option (DataW H × List MemPlace) := DataW.trod enc Tryz.prog W 0 (fun _ => true) true n t cs
theorem td_int {n : Nat} {cs : List Value} {x : DataW H × List MemPlace} (h : Td enc W n 3 cs = some x) : ∃ z, I64 z ∧ cs = [.int .i64 z] := by
  obtain ⟨z, rfl, _, hw⟩ := DataW.trod_int Tryz.underlying3 h
  refine ⟨z, ?_, rfl⟩
  simp [Lit.wf, IntKind.min, IntKind.max, IntKind.signed, IntKind.bits] at hw
  unfold I64
  omega
theorem td_str {n : Nat} {cs : List Value} {x : DataW H × List MemPlace} (h : Td enc W n 9 cs = some x) : ∃ s : ByteArray, s.size ≤ maxLen ∧ cs = [.string s] := by
  obtain ⟨s, rfl, _, hw⟩ := DataW.trod_string Tryz.underlying9 h
  exact ⟨s, hw, rfl⟩
theorem td_slice {α : Type} (f : α → AV) (p : α → Prop) {t e : TypeId} {sz : Nat} (ht : Tryz.prog.underlying t = some (.slice e)) (hc : Tryz.prog.cellsOf e = sz) (hsz : 0 < sz) {n : Nat}
    (H0 : ∀ cs x, Td enc W n e cs = some x → ∃ y u, p y ∧ u.cells.toList = cs ∧ R W Mem.start W u (f y)) {cs : List Value} {x : DataW H × List MemPlace} (h : Td enc W (n + 1) t cs = some x) :
    ∃ (l : List α) (v : Value), (∀ y ∈ l, p y) ∧ l.length ≤ maxLen ∧ cs = [v] ∧ R W Mem.start W v (.list (l.map f) .none) := by
  rcases DataW.trod_slice ht h with ⟨rfl, _⟩ | ⟨a, len, cap, elems, rest, n', hn, rfl, _, hb, hl, hm, hlen, hel, hsp, _⟩
  · exact ⟨[], _, by simp, by simp, rfl, .nil (fun id => by simp)⟩
  · cases hn
    by_cases hcap : cap = 0
    · subst hcap
      obtain rfl : len = 0 := by omega
      exact ⟨[], _, by simp, by simp, rfl, .emp (fun id => by simp)⟩
    have hspot : a.spot = none := by
      have get : ∀ (c : DataW H × List MemPlace) (r : List Value → Option (DataW H × List MemPlace)), (W.cells? 0 (a.add (0 * Tryz.prog.cellsOf e)) (Tryz.prog.cellsOf e)).bind r = some c → a.spot = none := fun c r hr => by
        obtain ⟨cs', h1, _⟩ := Option.bind_eq_some_iff.1 hr
        obtain ⟨_, h2, h3⟩ := World.cells?_some h1
        have h4 := h3 0 (by omega)
        rw [List.getElem?_eq_getElem (by omega)] at h4
        have e0 : (a.add (0 * Tryz.prog.cellsOf e)).add 0 = a := by simp [Addr.add]
        rw [e0] at h4
        unfold World.cell? at h4
        split at h4
        · split at h4
          · cases h4
          · rename_i q; simpa using q
        · cases h4
      by_cases h0 : 0 < len
      · have := hel 0 h0
        rw [List.getElem?_eq_getElem (by omega)] at this
        exact get _ _ this
      · obtain ⟨h1, h2⟩ := hsp rfl
        have := h2 0 (by omega)
        rw [List.getElem?_eq_getElem (by omega)] at this
        obtain rfl : len = 0 := by omega
        exact get _ _ this
    obtain ⟨b, off, sp⟩ := a
    simp only at hspot
    subst hspot
    have key : ∀ i, i < len → ∃ y u, p y ∧ R W Mem.start W u (f y) ∧ u.cells.size = sz ∧ ∀ j, j < sz → W.cell? ⟨b, off + i * sz + j, none⟩ = u.cells[j]? := fun i hi => by
      have h1 := hel i hi
      rw [List.getElem?_eq_getElem (by omega)] at h1
      obtain ⟨cs', h2, h3⟩ := Option.bind_eq_some_iff.1 h1
      obtain ⟨y, u, h4, h5, h6⟩ := H0 _ _ h3
      obtain ⟨_, h7, h8⟩ := World.cells?_some h2
      rw [hc] at h7 h8
      refine ⟨y, u, h4, h6, by rw [← h7, ← h5, Array.length_toList], fun j hj => ?_⟩
      have := h8 j hj
      rw [← h5, Array.getElem?_toList] at this
      rw [← this]
      congr 1
      have ea : ∀ (o m : Nat), (⟨b, o, none⟩ : Addr).add m = ⟨b, o + m, none⟩ := fun o m => by unfold Addr.add; split <;> simp_all
      rw [ea, ea]
    classical
    let y : Nat → Option (α × Value) := fun i => if hi : i < len then some (Classical.choose (key i hi), Classical.choose (Classical.choose_spec (key i hi))) else none
    have hne : len = 0 ∨ Nonempty (α × Value) := by
      by_cases h0 : 0 < len
      · obtain ⟨z, u, _⟩ := key 0 h0; exact .inr ⟨(z, u)⟩
      · exact .inl (by omega)
    rcases hne with h0 | ⟨⟨d⟩⟩
    · subst h0
      exact ⟨[], _, by simp, by simp, rfl, .list (xs := []) 0 (fun _ => undef) (Nat.zero_le _) hm (fun i hi => absurd hi (by simp)) (fun i hi => absurd hi (by simp)) trivial⟩
    · let g : Nat → α × Value := fun i => if hi : i < len then (Classical.choose (key i hi), Classical.choose (Classical.choose_spec (key i hi))) else d
      have hg : ∀ i, i < len → p (g i).1 ∧ R W Mem.start W (g i).2 (f (g i).1) ∧ (g i).2.cells.size = sz ∧ ∀ j, j < sz → W.cell? ⟨b, off + i * sz + j, none⟩ = (g i).2.cells[j]? := fun i hi => by
        have := Classical.choose_spec (Classical.choose_spec (key i hi))
        simp only [g, dif_pos hi]
        exact this
      have hlen2 : (((List.range len).map fun i => (g i).1).map f).length = len := by simp
      refine ⟨(List.range len).map fun i => (g i).1, .slice (some ⟨b, off, none⟩) len cap, fun z hz => ?_, by simp; omega, rfl, ?_⟩
      · obtain ⟨i, hi, rfl⟩ := List.mem_map.1 hz
        exact (hg i (by simpa using hi)).1
      · have := Ev.R.list (w0 := W) (M := Ev.Mem.start) (w := W) (b := b) (off := off) (cap := cap) (xs := ((List.range len).map fun i => (g i).1).map f) (o := .none) sz (fun i => (g i).2) (by rw [hlen2]; exact hl) hm
          (fun i hi => by
            rw [hlen2] at hi
            obtain ⟨_, _, h3, h4⟩ := hg i hi
            refine ⟨h3, fun j hj => ⟨.inl ?_, h4 j hj⟩⟩
            have := h4 j hj
            rw [Array.getElem?_eq_getElem (by rw [h3]; exact hj)] at this
            exact World.block_lt_of_cell? W _ this) (fun i hi => by
            rw [hlen2] at hi
            simp only [List.getElem_map, List.getElem_range]
            exact (hg i hi).2.1) trivial
        rw [hlen2] at this
        exact this
theorem Vl.ones (v : Vl) : ∀ x ∈ v.cs, x.one = true := by
  cases v; intro x hx
  simp only [Vl.cs, List.mem_cons, List.not_mem_nil, or_false] at hx
  rcases hx with rfl | rfl | rfl | rfl | rfl | rfl <;> rfl
theorem Ty.ones (v : Ty) : ∀ x ∈ v.cs, x.one = true := by
  cases v; intro x hx
  simp only [Ty.cs, List.mem_cons, List.not_mem_nil, or_false] at hx
  rcases hx with rfl | rfl | rfl | rfl | rfl | rfl | rfl <;> rfl
theorem td_val : ∀ (n : Nat) (cs : List Value) (x : DataW H × List MemPlace), Td enc W n 34 cs = some x → ∃ v : Vl, v.wf ∧ RC W cs v.cs
  | 0, cs, x, h => by simp [Td, DataW.trod] at h
  | n + 1, cs, x, h => by
    obtain ⟨xs, n', hn, _, hl, hx, hf⟩ := DataW.trod_struct Tryz.underlying34 h
    cases hn
    have hl6 : cs.length = 6 := hl.trans (by kernel_rfl)
    have hx6 : xs.length = 6 := hx
    match cs, hl6 with
    | [c0, c1, c2, c3, c4, c5], _ =>
    have g : ∀ i (hi : i < 6), xs[i]? = some (xs[i]'(by omega)) := fun i hi => List.getElem?_eq_getElem _
    have f0 := hf 0 _ rfl; have f1 := hf 1 _ rfl; have f2 := hf 2 _ rfl; have f3 := hf 3 _ rfl; have f4 := hf 4 _ rfl; have f5 := hf 5 _ rfl
    rw [g 0 (by omega)] at f0; rw [g 1 (by omega)] at f1; rw [g 2 (by omega)] at f2; rw [g 3 (by omega)] at f3; rw [g 4 (by omega)] at f4; rw [g 5 (by omega)] at f5
    obtain ⟨k, hk, ek⟩ := td_int f0
    obtain ⟨i, hi, ei⟩ := td_int f1
    obtain ⟨s, hs, es⟩ := td_int f2
    obtain ⟨t, ht, et⟩ := td_str f3
    cases n with
    | zero => simp [DataW.trod] at f4
    | succ n =>
    obtain ⟨l, vl, hl1, hl2, el, hRl⟩ := td_slice avV Vl.wf Tryz.underlying31 (sz := 6) (by kernel_rfl) (by omega) (fun cs x h => by
      obtain ⟨v, hv, hR⟩ := td_val n cs x h
      exact ⟨v, .agg cs.toArray, hv, by simp [Value.cells], hR.agg v.ones⟩) f4
    obtain ⟨fl, vf, hf1, hf2, ef, hRf⟩ := td_slice avF (fun p => p.1.size ≤ maxLen ∧ p.2.wf) Tryz.underlying32 (sz := 7) (by kernel_rfl) (by omega) (fun cs x h => by
      cases n with
      | zero => simp [DataW.trod] at h
      | succ n =>
      obtain ⟨ys, n', hn, _, hl, hx, hf⟩ := DataW.trod_struct Tryz.underlying83 h
      cases hn
      have hl7 : cs.length = 7 := hl.trans (by kernel_rfl)
      have hx2 : ys.length = 2 := hx
      have q0 := hf 0 _ rfl; have q1 := hf 1 _ rfl
      rw [List.getElem?_eq_getElem (by omega)] at q0 q1
      obtain ⟨nm, hnm, en⟩ := td_str q0
      obtain ⟨v, hv, hR⟩ := td_val n _ _ q1
      have e2 : Tryz.prog.cellsOf 34 = 6 := by kernel_rfl
      have e3 : Tryz.prog.cellsOf 9 = 1 := by kernel_rfl
      simp only [List.getElem_toArray, List.getElem_cons_zero, List.getElem_cons_succ, e2, e3] at en hR
      match cs, hl7 with
      | [c0, c1, c2, c3, c4, c5, c6], _ =>
      simp only [List.drop_zero, List.take_succ_cons, List.take_zero, List.cons.injEq, and_true, List.drop_succ_cons] at en hR
      subst en
      refine ⟨(nm, v), .agg #[.string nm, c1, c2, c3, c4, c5, c6], ⟨hnm, hv⟩, rfl, ?_⟩
      exact RC.agg (cs := [.string nm, c1, c2, c3, c4, c5, c6]) (.cons (.flat (decide_eq_true hnm)) hR) (fun x hx => by
        rcases List.mem_cons.1 hx with rfl | hx
        · rfl
        · exact v.ones x hx)) f5
    have c1' : Tryz.prog.cellsOf 3 = 1 := by kernel_rfl
    have c2' : Tryz.prog.cellsOf 9 = 1 := by kernel_rfl
    have c3' : Tryz.prog.cellsOf 31 = 1 := by kernel_rfl
    have c4' : Tryz.prog.cellsOf 32 = 1 := by kernel_rfl
    simp only [List.getElem_toArray, List.getElem_cons_zero, List.getElem_cons_succ, c1', c2', c3', c4', List.drop_zero, List.take_succ_cons, List.take_zero, List.cons.injEq, and_true, List.drop_succ_cons] at ek ei es et el ef
    subst ek ei es et el ef
    refine ⟨.mk k i s t l fl, ?_, ?_⟩
    · unfold Vl.wf
      exact ⟨hk, hi, hs, ht, hl2, hf2, (wfVs_iff l).2 hl1, (wfFs_iff fl).2 hf1⟩
    · rw [Vl.cs, encVs_av, encFs_av]
      exact .cons (.flat rfl) (.cons (.flat rfl) (.cons (.flat rfl) (.cons (.flat (decide_eq_true ht)) (.cons hRl (.cons hRf .nil)))))
theorem td_typ : ∀ (n : Nat) (cs : List Value) (x : DataW H × List MemPlace), Td enc W n 26 cs = some x → ∃ v : Ty, v.wf ∧ RC W cs v.cs
  | 0, cs, x, h => by simp [Td, DataW.trod] at h
  | n + 1, cs, x, h => by
    obtain ⟨xs, n', hn, _, hl, hx, hf⟩ := DataW.trod_struct Tryz.underlying26 h
    cases hn
    have hl7 : cs.length = 7 := hl.trans (by kernel_rfl)
    have hx7 : xs.length = 7 := hx
    match cs, hl7 with
    | [c0, c1, c2, c3, c4, c5, c6], _ =>
    have g : ∀ i (hi : i < 7), xs[i]? = some (xs[i]'(by omega)) := fun i hi => List.getElem?_eq_getElem _
    have f0 := hf 0 _ rfl; have f1 := hf 1 _ rfl; have f2 := hf 2 _ rfl; have f3 := hf 3 _ rfl; have f4 := hf 4 _ rfl; have f5 := hf 5 _ rfl; have f6 := hf 6 _ rfl
    rw [g 0 (by omega)] at f0; rw [g 1 (by omega)] at f1; rw [g 2 (by omega)] at f2; rw [g 3 (by omega)] at f3; rw [g 4 (by omega)] at f4; rw [g 5 (by omega)] at f5; rw [g 6 (by omega)] at f6
    obtain ⟨k, hk, ek⟩ := td_int f0
    obtain ⟨lo, hlo, elo⟩ := td_int f1
    obtain ⟨hi, hhi, ehi⟩ := td_int f2
    obtain ⟨s, hs, es⟩ := td_int f3
    cases n with
    | zero => simp [DataW.trod] at f4
    | succ n =>
    obtain ⟨w, vw, hw1, hw2, ew, hRw⟩ := td_slice avS (fun s => s.size ≤ maxLen) Tryz.underlying22 (sz := 1) (by kernel_rfl) (by omega) (fun cs x h => by
      obtain ⟨s, hs, rfl⟩ := td_str h
      exact ⟨s, .string s, hs, rfl, .flat (decide_eq_true hs)⟩) f4
    obtain ⟨el, ve, he1, he2, ee, hRe⟩ := td_slice avT Ty.wf Tryz.underlying23 (sz := 7) (by kernel_rfl) (by omega) (fun cs x h => by
      obtain ⟨v, hv, hR⟩ := td_typ n cs x h
      exact ⟨v, .agg cs.toArray, hv, by simp [Value.cells], hR.agg v.ones⟩) f5
    obtain ⟨fl, vf, hf1, hf2, ef, hRf⟩ := td_slice avTF (fun p => I64 p.1 ∧ p.2.1.size ≤ maxLen ∧ I64 p.2.2.1 ∧ p.2.2.2.1.wf ∧ p.2.2.2.2.length ≤ maxLen ∧ ∀ v ∈ p.2.2.2.2, v.wf) Tryz.underlying24 (sz := 11) (by kernel_rfl) (by omega) (fun cs x h => by
      cases n with
      | zero => simp [DataW.trod] at h
      | succ n =>
      obtain ⟨ys, n', hn, _, hl, hx, hf⟩ := DataW.trod_struct Tryz.underlying53 h
      cases hn
      have hl11 : cs.length = 11 := hl.trans (by kernel_rfl)
      have hx5 : ys.length = 5 := hx
      have q0 := hf 0 _ rfl; have q1 := hf 1 _ rfl; have q2 := hf 2 _ rfl; have q3 := hf 3 _ rfl; have q4 := hf 4 _ rfl
      rw [List.getElem?_eq_getElem (by omega)] at q0 q1 q2 q3 q4
      obtain ⟨nu, hnu, enu⟩ := td_int q0
      obtain ⟨nm, hnm, en⟩ := td_str q1
      obtain ⟨nd, hnd, end'⟩ := td_int q2
      obtain ⟨v, hv, hR⟩ := td_typ n _ _ q3
      cases n with
      | zero => simp [DataW.trod] at q4
      | succ n =>
      obtain ⟨dl, vd, hd1, hd2, ed, hRd⟩ := td_slice avV Vl.wf Tryz.underlying31 (sz := 6) (by kernel_rfl) (by omega) (fun cs x h => by
        obtain ⟨v, hv, hR⟩ := td_val n cs x h
        exact ⟨v, .agg cs.toArray, hv, by simp [Value.cells], hR.agg v.ones⟩) q4
      have e1 : Tryz.prog.cellsOf 3 = 1 := by kernel_rfl
      have e2 : Tryz.prog.cellsOf 26 = 7 := by kernel_rfl
      have e3 : Tryz.prog.cellsOf 9 = 1 := by kernel_rfl
      have e4 : Tryz.prog.cellsOf 31 = 1 := by kernel_rfl
      simp only [List.getElem_toArray, List.getElem_cons_zero, List.getElem_cons_succ, e1, e2, e3, e4] at enu en end' hR ed
      match cs, hl11 with
      | [c0, c1, c2, c3, c4, c5, c6, c7, c8, c9, c10], _ =>
      simp only [List.drop_zero, List.take_succ_cons, List.take_zero, List.cons.injEq, and_true, List.drop_succ_cons] at enu en end' hR ed
      subst enu en end' ed
      refine ⟨(nu, nm, nd, v, dl), .agg #[.int .i64 nu, .string nm, .int .i64 nd, c3, c4, c5, c6, c7, c8, c9, c10], ⟨hnu, hnm, hnd, hv, hd2, hd1⟩, rfl, ?_⟩
      exact RC.agg (cs := [.int .i64 nu, .string nm, .int .i64 nd] ++ ([c3, c4, c5, c6, c7, c8, c9] ++ [c10])) (.cons (.flat rfl) (.cons (.flat (show flatV (.string nm) = true from decide_eq_true hnm)) (.cons (.flat rfl) (hR.app (.cons hRd .nil))))) (fun x hx => by
        simp only [List.mem_cons, List.mem_append, List.not_mem_nil, or_false] at hx
        rcases hx with rfl | rfl | rfl | hx | rfl
        · rfl
        · rfl
        · rfl
        · exact v.ones x hx
        · rfl)) f6
    have c1' : Tryz.prog.cellsOf 3 = 1 := by kernel_rfl
    have c2' : Tryz.prog.cellsOf 22 = 1 := by kernel_rfl
    have c3' : Tryz.prog.cellsOf 23 = 1 := by kernel_rfl
    have c4' : Tryz.prog.cellsOf 24 = 1 := by kernel_rfl
    simp only [List.getElem_toArray, List.getElem_cons_zero, List.getElem_cons_succ, c1', c2', c3', c4', List.drop_zero, List.take_succ_cons, List.take_zero, List.cons.injEq, and_true, List.drop_succ_cons] at ek elo ehi es ew ee ef
    subst ek elo ehi es ew ee ef
    refine ⟨.mk k lo hi s w el fl, ?_, ?_⟩
    · unfold Ty.wf
      exact ⟨hk, hlo, hhi, hs, hw1, hw2, he2, hf2, (wfTs_iff el).2 he1, (wfTFs_iff fl).2 hf1⟩
    · rw [Ty.cs, encTs_av, encTFs_av, words_av]
      exact .cons (.flat rfl) (.cons (.flat rfl) (.cons (.flat rfl) (.cons (.flat rfl) (.cons hRw (.cons hRe (.cons hRf .nil))))))
end
section
variable {H : Type} {enc : TypeId × Value → H} {W : World} {base : Nat} {v : Value} {d : DataW H} {p : List MemPlace}
theorem agg_of {t : TypeId} {fs : Array Field} (ht : Tryz.prog.underlying t = some (.struct fs)) (hv : Value.okWide Tryz.prog W .any base t v) : ∃ cs, v = .agg cs := by
  unfold Value.okWide at hv
  rw [ht] at hv
  obtain ⟨cs, h, _⟩ := hv
  exact ⟨cs, h⟩
end
end Go.Proofs.YtggimoedcamonaaGreatDoor
namespace Go.Proofs.YtggimoedcamonaaGreatDoor
open Go Go.RowKit Go.Ev
set_option linter.unusedVariables false
set_option linter.unusedSimpArgs false


theorem idx_nat {α : Type} {l : List α} {k : Nat} (h : k < l.length) : idx l (k : Int) = some l[k] := idx_of h
theorem lt_int {a b : Nat} : decide ((a : Int) < (b : Int)) = decide (a < b) := by simp
theorem I64_succ {k : Nat} (h : k < 1000000000000) : I64 ((k : Int) + 1) := by unfold I64; omega


theorem Ty.size_pos (t : Ty) : 0 < t.size := by cases t; simp [Ty.size]; omega
theorem Ty.size_eq (t : Ty) : t.size = 1 + sizeTs t.elem + sizeTFs t.fields := by cases t; simp [Ty.size, Ty.elem, Ty.fields]
theorem sizeTs_mem : ∀ (l : List Ty) (v : Ty), v ∈ l → v.size ≤ sizeTs l
  | [], _, h => by simp at h
  | a :: r, v, h => by
    rcases List.mem_cons.1 h with rfl | h
    · simp [sizeTs]
    · have := sizeTs_mem r v h
      simp [sizeTs]; omega
theorem sizeTFs_mem : ∀ (l : List (Int × ByteArray × Int × Ty × List Vl)) (p : Int × ByteArray × Int × Ty × List Vl), p ∈ l → p.2.2.2.1.size ≤ sizeTFs l
  | [], _, h => by simp at h
  | (a, b, c, t, d) :: r, p, h => by
    rcases List.mem_cons.1 h with rfl | h
    · simp [sizeTFs]
    · have := sizeTFs_mem r p h
      simp [sizeTFs]; omega
theorem sizeTs_len : ∀ l : List Ty, l.length ≤ sizeTs l
  | [] => Nat.le_refl _
  | v :: r => by have := sizeTs_len r; have := v.size_pos; simp [sizeTs]; omega
theorem sizeTFs_len : ∀ l : List (Int × ByteArray × Int × Ty × List Vl), l.length ≤ sizeTFs l
  | [] => Nat.le_refl _
  | (_, _, _, t, _) :: r => by have := sizeTFs_len r; have := t.size_pos; simp [sizeTFs]; omega
theorem Ty.elem_size (t x : Ty) (h : x ∈ t.elem) : x.size < t.size := by have := sizeTs_mem _ _ h; have := t.size_eq; omega
theorem Ty.field_size (t : Ty) (p) (h : p ∈ t.fields) : p.2.2.2.1.size < t.size := by have := sizeTFs_mem _ _ h; have := t.size_eq; omega
theorem Ty.lens (t : Ty) : t.elem.length < t.size ∧ t.fields.length < t.size := by have := sizeTs_len t.elem; have := sizeTFs_len t.fields; have := t.size_eq; omega
theorem Vl.list_size (v x : Vl) (h : x ∈ v.list) : x.size < v.size := by have := sizeVs_mem _ _ h; have := v.size_eq; omega
theorem Vl.field_size (v : Vl) (p) (h : p ∈ v.fields) : p.2.size < v.size := by have := sizeFs_mem _ _ h; have := v.size_eq; omega
mutual
def Ty.depth : Ty → Nat
  | .mk _ _ _ _ _ e f => 1 + max (depthTs e) (depthTFs f)
def depthTs : List Ty → Nat
  | [] => 0
  | t :: r => max t.depth (depthTs r)
def depthTFs : List (Int × ByteArray × Int × Ty × List Vl) → Nat
  | [] => 0
  | (_, _, _, t, _) :: r => max t.depth (depthTFs r)
end
mutual
def Vl.depth : Vl → Nat
  | .mk _ _ _ _ l f => 1 + max (depthVs l) (depthFs f)
def depthVs : List Vl → Nat
  | [] => 0
  | t :: r => max t.depth (depthVs r)
def depthFs : List (ByteArray × Vl) → Nat
  | [] => 0
  | (_, t) :: r => max t.depth (depthFs r)
end
mutual
def Vl.ok : Vl → Prop
  | .mk _ _ _ t l f => t.size ≤ 2000 ∧ okVs l ∧ okFs f
def okVs : List Vl → Prop
  | [] => True
  | v :: r => v.ok ∧ okVs r
def okFs : List (ByteArray × Vl) → Prop
  | [] => True
  | (n, v) :: r => n.size ≤ 100 ∧ v.ok ∧ okFs r
end
theorem okVs_iff : ∀ l, okVs l ↔ ∀ v ∈ l, v.ok
  | [] => by simp [okVs]
  | v :: r => by simp [okVs, okVs_iff r]
theorem okFs_iff : ∀ l, okFs l ↔ ∀ p ∈ l, p.1.size ≤ 100 ∧ p.2.ok
  | [] => by simp [okFs]
  | (n, v) :: r => by simp [okFs, okFs_iff r, and_assoc]
def Vl.small (v : Vl) : Prop := v.size ≤ 300 ∧ v.depth ≤ 12 ∧ v.ok
mutual
def Ty.ok : Ty → Prop
  | .mk _ _ _ _ w e f => w.length ≤ 70 ∧ (∀ x ∈ w, x.size ≤ 2000) ∧ okTs e ∧ okTFs f
def okTs : List Ty → Prop
  | [] => True
  | v :: r => v.ok ∧ okTs r
def okTFs : List (Int × ByteArray × Int × Ty × List Vl) → Prop
  | [] => True
  | (_, n, _, t, d) :: r => (n.size ≤ 100 ∧ t.ok ∧ d.length ≤ 3 ∧ ∀ v ∈ d, v.small) ∧ okTFs r
end
theorem okTs_iff : ∀ l, okTs l ↔ ∀ v ∈ l, v.ok
  | [] => by simp [okTs]
  | v :: r => by simp [okTs, okTs_iff r]
theorem okTFs_iff : ∀ l, okTFs l ↔ ∀ p ∈ l, p.2.1.size ≤ 100 ∧ p.2.2.2.1.ok ∧ p.2.2.2.2.length ≤ 3 ∧ ∀ v ∈ p.2.2.2.2, v.small
  | [] => by simp [okTFs]
  | (_, n, _, t, d) :: r => by simp [okTFs, okTFs_iff r]
theorem Ty.ok_eq (t : Ty) : t.ok ↔ t.words.length ≤ 70 ∧ (∀ x ∈ t.words, x.size ≤ 2000) ∧ (∀ v ∈ t.elem, v.ok) ∧ ∀ p ∈ t.fields, p.2.1.size ≤ 100 ∧ p.2.2.2.1.ok ∧ p.2.2.2.2.length ≤ 3 ∧ ∀ v ∈ p.2.2.2.2, v.small := by
  cases t; simp only [Ty.ok, Ty.words, Ty.elem, Ty.fields, okTs_iff, okTFs_iff]
theorem Vl.ok_eq (v : Vl) : v.ok ↔ v.text.size ≤ 2000 ∧ (∀ x ∈ v.list, x.ok) ∧ ∀ p ∈ v.fields, p.1.size ≤ 100 ∧ p.2.ok := by
  cases v; simp only [Vl.ok, Vl.text, Vl.list, Vl.fields, okVs_iff, okFs_iff]
theorem depthTs_le : ∀ (l : List Ty) (d : Nat), depthTs l ≤ d ↔ ∀ v ∈ l, v.depth ≤ d
  | [], d => by simp [depthTs]
  | v :: r, d => by simp [depthTs, Nat.max_le, depthTs_le r d]
theorem depthTFs_le : ∀ (l : List (Int × ByteArray × Int × Ty × List Vl)) (d : Nat), depthTFs l ≤ d ↔ ∀ v ∈ l, v.2.2.2.1.depth ≤ d
  | [], d => by simp [depthTFs]
  | (_, _, _, t, _) :: r, d => by simp [depthTFs, Nat.max_le, depthTFs_le r d]
theorem depthVs_le : ∀ (l : List Vl) (d : Nat), depthVs l ≤ d ↔ ∀ v ∈ l, v.depth ≤ d
  | [], d => by simp [depthVs]
  | v :: r, d => by simp [depthVs, Nat.max_le, depthVs_le r d]
theorem depthFs_le : ∀ (l : List (ByteArray × Vl)) (d : Nat), depthFs l ≤ d ↔ ∀ v ∈ l, v.2.depth ≤ d
  | [], d => by simp [depthFs]
  | (_, t) :: r, d => by simp [depthFs, Nat.max_le, depthFs_le r d]
theorem Ty.depth_eq (t : Ty) : t.depth = 1 + Max.max (depthTs t.elem) (depthTFs t.fields) := by cases t; simp [Ty.depth, Ty.elem, Ty.fields]
theorem Vl.depth_eq (v : Vl) : v.depth = 1 + Max.max (depthVs v.list) (depthFs v.fields) := by cases v; simp [Vl.depth, Vl.list, Vl.fields]
theorem Vl.eta (v : Vl) : Vl.mk v.kind v.int v.scale v.text v.list v.fields = v := by cases v; rfl
theorem Ty.eta (v : Ty) : Ty.mk v.kind v.min v.max v.scale v.words v.elem v.fields = v := by cases v; rfl


abbrev TF := Int × ByteArray × Int × Ty × List Vl
end Go.Proofs.YtggimoedcamonaaGreatDoor
namespace Go.Proofs.YtggimoedcamonaaGreatDoor
open Go Go.RowKit Go.Ev
set_option linter.unusedVariables false
set_option linter.unusedSimpArgs false
theorem sizeVs_drop (l : List Vl) (i : Nat) (h : i < l.length) : sizeVs (l.drop i) = l[i].size + sizeVs (l.drop (i + 1)) := by rw [List.drop_eq_getElem_cons h, sizeVs]
theorem sizeFs_drop (l : List (ByteArray × Vl)) (i : Nat) (h : i < l.length) : sizeFs (l.drop i) = l[i].2.size + sizeFs (l.drop (i + 1)) := by
  rw [List.drop_eq_getElem_cons h]
  obtain ⟨a, b⟩ := l[i]
  rfl
theorem sizeTs_drop (l : List Ty) (i : Nat) (h : i < l.length) : sizeTs (l.drop i) = l[i].size + sizeTs (l.drop (i + 1)) := by rw [List.drop_eq_getElem_cons h, sizeTs]
theorem sizeTFs_drop (l : List TF) (i : Nat) (h : i < l.length) : sizeTFs (l.drop i) = l[i].2.2.2.1.size + sizeTFs (l.drop (i + 1)) := by
  rw [List.drop_eq_getElem_cons h]
  obtain ⟨a, b, c, t, d⟩ := l[i]
  rfl
theorem drop_all {α : Type} {p : α → Prop} (l : List α) (i : Nat) (h : i < l.length) (h1 : p l[i]) (h2 : ∀ x ∈ l.drop (i + 1), p x) : ∀ x ∈ l.drop i, p x := by
  rw [List.drop_eq_getElem_cons h]
  intro x hx
  rcases List.mem_cons.1 hx with rfl | hx
  · exact h1
  · exact h2 x hx
theorem drop_nil_all {α : Type} {p : α → Prop} (l : List α) (i : Nat) (h : l.length ≤ i) : ∀ x ∈ l.drop i, p x := by
  rw [List.drop_eq_nil_of_le h]; simp


def SmV (rec : Vl → Int → Int → Option (Bool × Int)) (lv : Nat) : Prop :=
  ∀ (v : Vl) (left : Int), 0 ≤ left → left ≤ 300 → ∃ b left', rec v (lv : Int) left = some (b, left') ∧ -1 ≤ left' ∧ left' < left ∧ (b = true → (v.size : Int) + left' = left ∧ 0 ≤ left' ∧ v.depth ≤ lv ∧ v.ok)
theorem smv_l28 (rec : Vl → Int → Int → Option (Bool × Int)) (n : Nat) (v : Vl) (lv : Nat) (hlv : lv ≤ 100) (hr : SmV rec lv) : ∀ (m i : Nat) (left : Int), 0 ≤ left → left ≤ 300 → (i : Int) + left ≤ 1000 → left + 1 < (m : Int) →
    ∃ b left', l6_smallValue_l28 rec n v ((lv : Int) + 1) m i left = some (b, left') ∧ -1 ≤ left' ∧ left' ≤ left ∧ (b = true → (sizeFs (v.fields.drop i) : Int) + left' = left ∧ 0 ≤ left' ∧ ∀ p ∈ v.fields.drop i, p.1.size ≤ 100 ∧ p.2.ok ∧ p.2.depth ≤ lv)
  | 0, i, left, h1, _, _, h => by omega
  | m + 1, i, left, h1, h2, h3, h => by
    rw [l6_smallValue_l28, lt_int]
    by_cases hlt : i < v.fields.length
    · rw [decide_eq_true hlt]
      simp only [if_true, idx_nat hlt, Option.bind_some]
      by_cases hn : 100 < v.fields[i].1.size
      · rw [decide_eq_true (by omega), if_pos rfl]
        exact ⟨false, left, rfl, by omega, by omega, fun h => by cases h⟩
      · rw [decide_eq_false (by omega)]
        simp only [Bool.false_eq_true, if_false]
        rw [if_pos (by unfold I64; omega), show (lv : Int) + 1 - 1 = lv by omega]
        obtain ⟨b, left', e, k1, k2, k3⟩ := hr v.fields[i].2 left h1 h2
        rw [e]
        simp only [Option.bind_some]
        cases b with
        | false => simp only [Bool.not_false, if_true]; exact ⟨false, left', rfl, k1, by omega, fun h => by cases h⟩
        | true =>
          obtain ⟨q1, q2, q3, q4⟩ := k3 rfl
          simp only [Bool.not_true, Bool.false_eq_true, if_false]
          rw [if_pos (by unfold I64; omega)]
          obtain ⟨b, l2, e2, j1, j2, j3⟩ := smv_l28 rec n v lv hlv hr m (i + 1) left' q2 (by omega) (by omega) (by omega)
          refine ⟨b, l2, e2, j1, by omega, fun hb => ?_⟩
          obtain ⟨p1, p2, p3⟩ := j3 hb
          refine ⟨?_, p2, drop_all _ i hlt ⟨by omega, q4, q3⟩ p3⟩
          rw [sizeFs_drop _ _ hlt]; push_cast; omega
    · rw [decide_eq_false hlt]
      simp only [Bool.false_eq_true, if_false, l6_smallValue_k25]
      refine ⟨true, left, rfl, by omega, by omega, fun _ => ⟨?_, h1, drop_nil_all _ _ (by omega)⟩⟩
      rw [List.drop_eq_nil_of_le (by omega)]; simp [sizeFs]
theorem smv_l12 (rec : Vl → Int → Int → Option (Bool × Int)) (n : Nat) (hn : 310 ≤ n) (v : Vl) (lv : Nat) (hlv : lv ≤ 100) (hr : SmV rec lv) : ∀ (m i : Nat) (left : Int), 0 ≤ left → left ≤ 300 → (i : Int) + left ≤ 1000 → left + 1 < (m : Int) →
    ∃ b left', l6_smallValue_l12 rec n v ((lv : Int) + 1) m i left = some (b, left') ∧ -1 ≤ left' ∧ left' ≤ left ∧ (b = true → (sizeVs (v.list.drop i) : Int) + sizeFs v.fields + left' = left ∧ 0 ≤ left' ∧ (∀ x ∈ v.list.drop i, x.ok ∧ x.depth ≤ lv) ∧ ∀ p ∈ v.fields, p.1.size ≤ 100 ∧ p.2.ok ∧ p.2.depth ≤ lv)
  | 0, i, left, h1, _, _, h => by omega
  | m + 1, i, left, h1, h2, h3, h => by
    rw [l6_smallValue_l12, lt_int]
    by_cases hlt : i < v.list.length
    · rw [decide_eq_true hlt]
      simp only [if_true, idx_nat hlt, Option.bind_some]
      rw [if_pos (by unfold I64; omega), show (lv : Int) + 1 - 1 = lv by omega]
      obtain ⟨b, left', e, k1, k2, k3⟩ := hr v.list[i] left h1 h2
      rw [e]
      simp only [Option.bind_some]
      cases b with
      | false => simp only [Bool.not_false, if_true]; exact ⟨false, left', rfl, k1, by omega, fun h => by cases h⟩
      | true =>
        obtain ⟨q1, q2, q3, q4⟩ := k3 rfl
        simp only [Bool.not_true, Bool.false_eq_true, if_false]
        rw [if_pos (by unfold I64; omega)]
        obtain ⟨b, l2, e2, j1, j2, j3⟩ := smv_l12 rec n hn v lv hlv hr m (i + 1) left' q2 (by omega) (by omega) (by omega)
        refine ⟨b, l2, e2, j1, by omega, fun hb => ?_⟩
        obtain ⟨p1, p2, p3, p4⟩ := j3 hb
        refine ⟨?_, p2, drop_all _ i hlt ⟨q4, q3⟩ p3, p4⟩
        rw [sizeVs_drop _ _ hlt]; push_cast; omega
    · rw [decide_eq_false hlt]
      simp only [Bool.false_eq_true, if_false, l6_smallValue_k9]
      obtain ⟨b, l2, e2, j1, j2, j3⟩ := smv_l28 rec n v lv hlv hr n 0 left h1 h2 (by omega) (by omega)
      refine ⟨b, l2, e2, j1, j2, fun hb => ?_⟩
      obtain ⟨p1, p2, p3⟩ := j3 hb
      rw [List.drop_zero] at p1 p3
      refine ⟨?_, p2, drop_nil_all _ _ (by omega), p3⟩
      rw [List.drop_eq_nil_of_le (by omega)]; simp only [sizeVs]; omega
theorem smv_F : ∀ (lv n : Nat), lv ≤ 100 → lv + 311 ≤ n → SmV (l6_smallValue_F n) lv
  | _, 0, _, h => by omega
  | lv, n + 1, hlv, hn => by
    intro v left h1 h2
    rw [l6_smallValue_F, l6_smallValue_B, if_pos (by unfold I64; omega)]
    by_cases hc : left - 1 < 0 ∨ (lv : Int) = 0 ∨ 2000 < v.text.size
    · rw [if_pos (by simp only [Bool.or_eq_true, decide_eq_true_eq]; omega)]
      exact ⟨false, left - 1, rfl, by omega, by omega, fun h => by cases h⟩
    · rw [if_neg (by simp only [Bool.or_eq_true, decide_eq_true_eq]; omega)]
      obtain ⟨lv', rfl⟩ : ∃ k, lv = k + 1 := ⟨lv - 1, by omega⟩
      obtain ⟨b, l2, e2, j1, j2, j3⟩ := smv_l12 (l6_smallValue_F n) n (by omega) v lv' (by omega) (smv_F lv' n (by omega) (by omega)) n 0 (left - 1) (by omega) (by omega) (by omega) (by omega)
      refine ⟨b, l2, by push_cast; exact e2, j1, by omega, fun hb => ?_⟩
      obtain ⟨p1, p2, p3, p4⟩ := j3 hb
      rw [List.drop_zero] at p1 p3
      refine ⟨?_, p2, ?_, v.ok_eq.2 ⟨by omega, fun x hx => (p3 x hx).1, fun p hp => ⟨(p4 p hp).1, (p4 p hp).2.1⟩⟩⟩
      · rw [v.size_eq]; push_cast; omega
      · rw [v.depth_eq]
        have a := (depthVs_le v.list lv').2 fun x hx => (p3 x hx).2
        have b := (depthFs_le v.fields lv').2 fun p hp => (p4 p hp).2.2
        omega
theorem SmallValue_eq (n : Nat) (hn : 400 ≤ n) (v : Vl) : ∃ b, l6_SmallValue_F n v = some b ∧ (b = true → v.small) := by
  obtain ⟨b, l2, e, h1, h2, h3⟩ := smv_F 12 n (by omega) (by omega) v 300 (by omega) (by omega)
  refine ⟨b, by rw [l6_SmallValue_F]; rw [show ((12 : Nat) : Int) = 12 from rfl] at e; rw [e]; rfl, fun hb => ?_⟩
  obtain ⟨p1, p2, p3, p4⟩ := h3 hb
  exact ⟨by omega, p3, p4⟩


def SmT (rec : Ty → Int → Int → Option (Bool × Int)) (lv : Nat) : Prop :=
  ∀ (t : Ty) (left : Int), 0 ≤ left → left ≤ 200 → ∃ b left', rec t (lv : Int) left = some (b, left') ∧ -1 ≤ left' ∧ left' < left ∧ (b = true → (t.size : Int) + left' = left ∧ 0 ≤ left' ∧ t.depth ≤ lv ∧ t.ok)
theorem smt_l58 (rec : Ty → Int → Int → Option (Bool × Int)) (n : Nat) (hn : 400 ≤ n) (ag : Int → Int → Option (Bool × Int)) (x9 : Int) (p : TF) (y : Bool × Int) (hl : p.2.2.2.2.length ≤ 3) : ∀ (k m i : Nat), i + k = p.2.2.2.2.length → k < m →
    (l6_small_l58 rec n ag x9 p y m i = some (false, y.2)) ∨ (l6_small_l58 rec n ag x9 p y m i = l6_small_k47 rec n ag x9 y.2 ∧ ∀ v ∈ p.2.2.2.2.drop i, v.small)
  | k, 0, i, _, h => absurd h (Nat.not_lt_zero _)
  | 0, m + 1, i, hi, _ => by
    rw [l6_small_l58, lt_int, decide_eq_false (by omega)]
    simp only [Bool.false_eq_true, if_false]
    exact .inr ⟨by trivial, drop_nil_all _ _ (by omega)⟩
  | k + 1, m + 1, i, hi, hm => by
    have hlt : i < p.2.2.2.2.length := by omega
    rw [l6_small_l58, lt_int, decide_eq_true hlt]
    simp only [if_true, idx_nat hlt, Option.bind_some]
    obtain ⟨b, e, hb⟩ := SmallValue_eq n hn p.2.2.2.2[i]
    rw [e]
    simp only [Option.bind_some]
    cases b with
    | false => simp only [Bool.not_false, if_true]; exact .inl (by trivial)
    | true =>
      simp only [Bool.not_true, Bool.false_eq_true, if_false]
      rw [if_pos (I64_succ (by omega))]
      rcases smt_l58 rec n hn ag x9 p y hl k m (i + 1) (by omega) (by omega) with h | ⟨h, h2⟩
      · exact .inl h
      · exact .inr ⟨h, drop_all _ i hlt (hb rfl) h2⟩
theorem smt_l42 (rec : Ty → Int → Int → Option (Bool × Int)) (n : Nat) (hn : 400 ≤ n) (t : Ty) (lv : Nat) (hlv : lv ≤ 100) (hr : SmT rec lv) : ∀ (m i : Nat) (left : Int), 0 ≤ left → left ≤ 200 → (i : Int) + left ≤ 1000 → left + 1 < (m : Int) →
    ∃ b left', l6_small_l42 rec n t ((lv : Int) + 1) m i left = some (b, left') ∧ -1 ≤ left' ∧ left' ≤ left ∧ (b = true → (sizeTFs (t.fields.drop i) : Int) + left' = left ∧ 0 ≤ left' ∧ ∀ p ∈ t.fields.drop i, (p.2.1.size ≤ 100 ∧ p.2.2.2.1.ok ∧ p.2.2.2.2.length ≤ 3 ∧ ∀ v ∈ p.2.2.2.2, v.small) ∧ p.2.2.2.1.depth ≤ lv)
  | 0, i, left, h1, _, _, h => by omega
  | m + 1, i, left, h1, h2, h3, h => by
    rw [l6_small_l42, lt_int]
    by_cases hlt : i < t.fields.length
    · rw [decide_eq_true hlt]
      simp only [if_true, idx_nat hlt, Option.bind_some]
      rw [if_pos (by unfold I64; omega), show (lv : Int) + 1 - 1 = lv by omega]
      obtain ⟨b, left', e, k1, k2, k3⟩ := hr t.fields[i].2.2.2.1 left h1 h2
      rw [e]
      simp only [Option.bind_some]
      by_cases hc : b = false ∨ 3 < t.fields[i].2.2.2.2.length ∨ 100 < t.fields[i].2.1.size
      · rw [if_pos (by simp only [Bool.or_eq_true, decide_eq_true_eq, Bool.not_eq_true']; rcases hc with hc | hc | hc; exact .inl (.inl hc); exact .inl (.inr (by omega)); exact .inr (by omega))]
        exact ⟨false, left', rfl, k1, by omega, fun h => by cases h⟩
      · rw [if_neg (by simp only [Bool.or_eq_true, decide_eq_true_eq, Bool.not_eq_true']; intro h; apply hc; rcases h with (h | h) | h; exact .inl h; exact .inr (.inl (by omega)); exact .inr (.inr (by omega)))]
        have hb : b = true := by cases b <;> simp_all
        obtain ⟨q1, q2, q3, q4⟩ := k3 hb
        rcases smt_l58 rec n hn (l6_small_l42 rec n t ((lv : Int) + 1) m) i t.fields[i] (b, left') (by omega) t.fields[i].2.2.2.2.length n 0 (by omega) (by omega) with e3 | ⟨e3, e4⟩
        · refine ⟨false, left', ?_, k1, by omega, fun h => by cases h⟩
          exact e3
        · obtain ⟨b2, l2, e2, j1, j2, j3⟩ := smt_l42 rec n hn t lv hlv hr m (i + 1) left' q2 (by omega) (by omega) (by omega)
          refine ⟨b2, l2, ?_, j1, by omega, fun hb => ?_⟩
          · refine e3.trans ?_
            rw [l6_small_k47, if_pos (by unfold I64; omega)]
            exact e2
          · obtain ⟨p1, p2, p3⟩ := j3 hb
            rw [List.drop_zero] at e4
            refine ⟨?_, p2, drop_all _ i hlt ⟨⟨by omega, q4, by omega, e4⟩, q3⟩ p3⟩
            rw [sizeTFs_drop _ _ hlt]; push_cast; omega
    · rw [decide_eq_false hlt]
      simp only [Bool.false_eq_true, if_false, l6_small_k39]
      refine ⟨true, left, rfl, by omega, by omega, fun _ => ⟨?_, h1, drop_nil_all _ _ (by omega)⟩⟩
      rw [List.drop_eq_nil_of_le (by omega)]; simp [sizeTFs]
theorem smt_l26 (rec : Ty → Int → Int → Option (Bool × Int)) (n : Nat) (hn : 400 ≤ n) (t : Ty) (lv : Nat) (hlv : lv ≤ 100) (hr : SmT rec lv) : ∀ (m i : Nat) (left : Int), 0 ≤ left → left ≤ 200 → (i : Int) + left ≤ 1000 → left + 1 < (m : Int) →
    ∃ b left', l6_small_l26 rec n t ((lv : Int) + 1) m i left = some (b, left') ∧ -1 ≤ left' ∧ left' ≤ left ∧ (b = true → (sizeTs (t.elem.drop i) : Int) + sizeTFs t.fields + left' = left ∧ 0 ≤ left' ∧ (∀ x ∈ t.elem.drop i, x.ok ∧ x.depth ≤ lv) ∧ ∀ p ∈ t.fields, (p.2.1.size ≤ 100 ∧ p.2.2.2.1.ok ∧ p.2.2.2.2.length ≤ 3 ∧ ∀ v ∈ p.2.2.2.2, v.small) ∧ p.2.2.2.1.depth ≤ lv)
  | 0, i, left, h1, _, _, h => by omega
  | m + 1, i, left, h1, h2, h3, h => by
    rw [l6_small_l26, lt_int]
    by_cases hlt : i < t.elem.length
    · rw [decide_eq_true hlt]
      simp only [if_true, idx_nat hlt, Option.bind_some]
      rw [if_pos (by unfold I64; omega), show (lv : Int) + 1 - 1 = lv by omega]
      obtain ⟨b, left', e, k1, k2, k3⟩ := hr t.elem[i] left h1 h2
      rw [e]
      simp only [Option.bind_some]
      cases b with
      | false => simp only [Bool.not_false, if_true]; exact ⟨false, left', rfl, k1, by omega, fun h => by cases h⟩
      | true =>
        obtain ⟨q1, q2, q3, q4⟩ := k3 rfl
        simp only [Bool.not_true, Bool.false_eq_true, if_false]
        rw [if_pos (by unfold I64; omega)]
        obtain ⟨b, l2, e2, j1, j2, j3⟩ := smt_l26 rec n hn t lv hlv hr m (i + 1) left' q2 (by omega) (by omega) (by omega)
        refine ⟨b, l2, e2, j1, by omega, fun hb => ?_⟩
        obtain ⟨p1, p2, p3, p4⟩ := j3 hb
        refine ⟨?_, p2, drop_all _ i hlt ⟨q4, q3⟩ p3, p4⟩
        rw [sizeTs_drop _ _ hlt]; push_cast; omega
    · rw [decide_eq_false hlt]
      simp only [Bool.false_eq_true, if_false, l6_small_k23]
      obtain ⟨b, l2, e2, j1, j2, j3⟩ := smt_l42 rec n hn t lv hlv hr n 0 left h1 h2 (by omega) (by omega)
      refine ⟨b, l2, e2, j1, j2, fun hb => ?_⟩
      obtain ⟨p1, p2, p3⟩ := j3 hb
      rw [List.drop_zero] at p1 p3
      refine ⟨?_, p2, drop_nil_all _ _ (by omega), p3⟩
      rw [List.drop_eq_nil_of_le (by omega)]; simp only [sizeTs]; omega
theorem smt_l12 (rec : Ty → Int → Int → Option (Bool × Int)) (n : Nat) (t : Ty) (a1 a2 : Int) (hw : t.words.length ≤ 70) : ∀ (k m i : Nat), i + k = t.words.length → k < m →
    (l6_small_l12 rec n t a1 a2 m i = some (false, a2 - 1)) ∨ (l6_small_l12 rec n t a1 a2 m i = l6_small_k9 rec n t a1 a2 ∧ ∀ w ∈ t.words.drop i, w.size ≤ 2000)
  | k, 0, i, _, h => absurd h (Nat.not_lt_zero _)
  | 0, m + 1, i, hi, _ => by
    rw [l6_small_l12, lt_int, decide_eq_false (by omega)]
    simp only [Bool.false_eq_true, if_false]
    exact .inr ⟨by trivial, drop_nil_all _ _ (by omega)⟩
  | k + 1, m + 1, i, hi, hm => by
    have hlt : i < t.words.length := by omega
    rw [l6_small_l12, lt_int, decide_eq_true hlt]
    simp only [if_true, idx_nat hlt, Option.bind_some]
    by_cases hs : 2000 < t.words[i].size
    · rw [decide_eq_true (by omega), if_pos rfl]; exact .inl rfl
    · rw [decide_eq_false (by omega)]
      simp only [Bool.false_eq_true, if_false]
      rw [if_pos (I64_succ (by omega))]
      rcases smt_l12 rec n t a1 a2 hw k m (i + 1) (by omega) (by omega) with h | ⟨h, h2⟩
      · exact .inl h
      · exact .inr ⟨h, drop_all _ i hlt (by omega) h2⟩
theorem smt_F : ∀ (lv n : Nat), lv ≤ 100 → lv + 401 ≤ n → SmT (l6_small_F n) lv
  | _, 0, _, h => by omega
  | lv, n + 1, hlv, hn => by
    intro t left h1 h2
    rw [l6_small_F, l6_small_B, if_pos (by unfold I64; omega)]
    by_cases hc : left - 1 < 0 ∨ (lv : Int) = 0 ∨ 70 < t.words.length
    · rw [if_pos (by simp only [Bool.or_eq_true, decide_eq_true_eq]; omega)]
      exact ⟨false, left - 1, rfl, by omega, by omega, fun h => by cases h⟩
    · rw [if_neg (by simp only [Bool.or_eq_true, decide_eq_true_eq]; omega)]
      obtain ⟨lv', rfl⟩ : ∃ k, lv = k + 1 := ⟨lv - 1, by omega⟩
      rcases smt_l12 (l6_small_F n) n t ((lv' + 1 : Nat) : Int) left (by omega) t.words.length n 0 (by omega) (by omega) with e | ⟨e, hw⟩
      · exact ⟨false, left - 1, e, by omega, by omega, fun h => by cases h⟩
      · obtain ⟨b, l2, e2, j1, j2, j3⟩ := smt_l26 (l6_small_F n) n (by omega) t lv' (by omega) (smt_F lv' n (by omega) (by omega)) n 0 (left - 1) (by omega) (by omega) (by omega) (by omega)
        refine ⟨b, l2, ?_, j1, by omega, fun hb => ?_⟩
        · refine e.trans ?_
          rw [l6_small_k9]; push_cast; exact e2
        · obtain ⟨p1, p2, p3, p4⟩ := j3 hb
          rw [List.drop_zero] at p1 p3 hw
          refine ⟨?_, p2, ?_, t.ok_eq.2 ⟨by omega, hw, fun x hx => (p3 x hx).1, fun p hp => (p4 p hp).1⟩⟩
          · rw [t.size_eq]; push_cast; omega
          · rw [t.depth_eq]
            have a := (depthTs_le t.elem lv').2 fun x hx => (p3 x hx).2
            have b := (depthTFs_le t.fields lv').2 fun p hp => (p4 p hp).2
            omega
def Ty.small (t : Ty) : Prop := t.size ≤ 200 ∧ t.depth ≤ 12 ∧ t.ok
theorem Small_eq (n : Nat) (hn : 500 ≤ n) (t : Ty) : ∃ b, l6_Small_F n t = some b ∧ (b = true → t.small) := by
  obtain ⟨b, l2, e, h1, h2, h3⟩ := smt_F 12 n (by omega) (by omega) t 200 (by omega) (by omega)
  refine ⟨b, by rw [l6_Small_F]; rw [show ((12 : Nat) : Int) = 12 from rfl] at e; rw [e]; rfl, fun hb => ?_⟩
  obtain ⟨p1, p2, p3, p4⟩ := h3 hb
  exact ⟨by omega, p3, p4⟩
end Go.Proofs.YtggimoedcamonaaGreatDoor
namespace Go.Proofs.YtggimoedcamonaaGreatDoor
open Go Go.RowKit Go.Ev
set_option linter.unusedVariables false
set_option linter.unusedSimpArgs false
theorem ba_ext {a b : ByteArray} (h : a.data.toList = b.data.toList) : a = b := by
  cases a; cases b; simp at h; rw [h]
theorem cb_zero : ∀ a b : List UInt8, Lib.compareBytes a b = 0 → a = b
  | [], [], _ => rfl
  | [], _ :: _, h => absurd (show (-1 : Int) = 0 from h) (by decide)
  | _ :: _, [], h => absurd (show (1 : Int) = 0 from h) (by decide)
  | x :: a, y :: b, h => by
    simp only [Lib.compareBytes] at h
    by_cases h1 : x < y
    · simp [h1] at h
    · by_cases h2 : y < x
      · simp [h1, h2] at h
      · simp only [h1, h2, if_false] at h
        rw [cb_zero a b h]
        have : x = y := by
          rw [UInt8.lt_iff_toNat_lt] at h1 h2
          exact UInt8.toNat_inj.1 (by omega)
        rw [this]
theorem cmpS_zero (a b : ByteArray) : cmpS a b = 0 ↔ a = b := by
  unfold cmpS
  constructor
  · intro h; exact ba_ext (cb_zero _ _ h)
  · rintro rfl; exact cb_self _
theorem sEq_iff (x y : ByteArray) : sEq x y = true ↔ x = y := by
  unfold sEq
  rw [beq_iff_eq]
  exact ⟨ba_ext, fun h => by rw [h]⟩
theorem sEq_self (x : ByteArray) : sEq x x = true := (sEq_iff x x).2 rfl
theorem sign_ne {a b : Int} (h : a ≠ b) : r4_sign_F a b ≠ 0 := by
  unfold r4_sign_F
  by_cases h1 : a < b
  · simp [h1]
  · by_cases h2 : b < a
    · simp [h1, h2]
    · omega
theorem sign_self (a : Int) : r4_sign_F a a = 0 := by simp [r4_sign_F]
theorem drop_eq_iff {α : Type} (l m : List α) (i : Nat) (h1 : i < l.length) (h2 : i < m.length) : l.drop i = m.drop i ↔ l[i] = m[i] ∧ l.drop (i + 1) = m.drop (i + 1) := by
  rw [List.drop_eq_getElem_cons h1, List.drop_eq_getElem_cons h2, List.cons.injEq]
theorem sz_max {n : Nat} (h : n ≤ 2000) : n ≤ maxLen := by unfold maxLen; omega


theorem r4c_l46 (rec : Vl → Vl → Option Int) (n : Nat) (a b : Vl) (hl : a.fields.length ≤ 1000000000) (ha : a.ok) (hb : b.ok)
    (hr : ∀ p ∈ a.fields, ∀ q ∈ b.fields, ∃ c, rec p.2 q.2 = some c ∧ (c = 0 ↔ p.2 = q.2)) : ∀ (k m i : Nat), i + k = a.fields.length → k < m → ∃ c, r4_Compare_l46 rec n a b m i = some c ∧ (c = 0 → a.fields.drop i = b.fields.drop i) ∧ (a.fields.drop i = b.fields.drop i → a.fields.length = b.fields.length → c = 0)
  | k, 0, i, _, h => absurd h (Nat.not_lt_zero _)
  | k, m + 1, i, hi, hm => by
    rw [r4_Compare_l46, lt_int, lt_int]
    by_cases h1 : i < a.fields.length ∧ i < b.fields.length
    · obtain ⟨h1, h2⟩ := h1
      rw [decide_eq_true h1, decide_eq_true h2]
      simp only [Bool.and_self, if_true, idx_nat h1, idx_nat h2, Option.bind_some]
      have n1 := ((a.ok_eq.1 ha).2.2 _ (List.getElem_mem h1)).1
      have n2 := ((b.ok_eq.1 hb).2.2 _ (List.getElem_mem h2)).1
      rw [if_pos (sz_max (by omega)), if_pos (sz_max (by omega)), drop_eq_iff _ _ i h1 h2]
      by_cases hc : cmpS a.fields[i].1 b.fields[i].1 = 0
      · rw [decide_eq_true hc]
        simp only [Bool.not_true, Bool.false_eq_true, if_false]
        obtain ⟨c, e, hce⟩ := hr _ (List.getElem_mem h1) _ (List.getElem_mem h2)
        rw [e]
        simp only [Option.bind_some]
        by_cases hc0 : c = 0
        · rw [decide_eq_true hc0]
          simp only [Bool.not_true, Bool.false_eq_true, if_false]
          rw [if_pos (I64_succ (by omega))]
          cases k with
          | zero => omega
          | succ k =>
          obtain ⟨c2, e2, q1, q2⟩ := r4c_l46 rec n a b hl ha hb hr k m (i + 1) (by omega) (by omega)
          have e3 : a.fields[i] = b.fields[i] := Prod.ext ((cmpS_zero _ _).1 hc) (hce.1 hc0)
          exact ⟨c2, e2, fun h => ⟨e3, q1 h⟩, fun h1 h2 => q2 h1.2 h2⟩
        · rw [decide_eq_false hc0]
          simp only [Bool.not_false, if_true]
          exact ⟨c, rfl, fun h => absurd h hc0, fun h _ => hce.2 (by rw [h.1])⟩
      · rw [decide_eq_false hc]
        simp only [Bool.not_false, if_true]
        exact ⟨_, rfl, fun h => absurd h hc, fun h _ => (cmpS_zero _ _).2 (by rw [h.1])⟩
    · have e : (decide (i < a.fields.length) && decide (i < b.fields.length)) = false := by
        rw [Bool.and_eq_false_iff, decide_eq_false_iff_not, decide_eq_false_iff_not]; omega
      rw [e]
      simp only [Bool.false_eq_true, if_false, r4_Compare_k43]
      refine ⟨_, rfl, fun h => ?_, fun h h2 => ?_⟩
      · by_cases hlen : a.fields.length = b.fields.length
        · rw [List.drop_eq_nil_of_le (by omega), List.drop_eq_nil_of_le (by omega)]
        · exact absurd h (sign_ne (by omega))
      · rw [h2]; exact sign_self _
theorem r4c_l25 (rec : Vl → Vl → Option Int) (n : Nat) (a b : Vl) (hl : a.fields.length ≤ 1000000000 ∧ a.list.length ≤ 1000000000) (hn : a.fields.length < n) (ha : a.ok) (hb : b.ok)
    (hr : (∀ p ∈ a.list, ∀ q ∈ b.list, ∃ c, rec p q = some c ∧ (c = 0 ↔ p = q)) ∧ ∀ p ∈ a.fields, ∀ q ∈ b.fields, ∃ c, rec p.2 q.2 = some c ∧ (c = 0 ↔ p.2 = q.2)) : ∀ (k m i : Nat), i + k = a.list.length → k < m →
    ∃ c, r4_Compare_l25 rec n a b m i = some c ∧ (c = 0 → a.list.drop i = b.list.drop i ∧ a.fields = b.fields) ∧ (a.list.drop i = b.list.drop i → a.list.length = b.list.length → a.fields = b.fields → c = 0)
  | k, 0, i, _, h => absurd h (Nat.not_lt_zero _)
  | k, m + 1, i, hi, hm => by
    rw [r4_Compare_l25, lt_int, lt_int]
    by_cases h1 : i < a.list.length ∧ i < b.list.length
    · obtain ⟨h1, h2⟩ := h1
      rw [decide_eq_true h1, decide_eq_true h2]
      simp only [Bool.and_self, if_true, idx_nat h1, idx_nat h2, Option.bind_some]
      rw [drop_eq_iff _ _ i h1 h2]
      obtain ⟨c, e, hce⟩ := hr.1 _ (List.getElem_mem h1) _ (List.getElem_mem h2)
      rw [e]
      simp only [Option.bind_some]
      by_cases hc0 : c = 0
      · rw [decide_eq_true hc0]
        simp only [Bool.not_true, Bool.false_eq_true, if_false]
        rw [if_pos (I64_succ (by omega))]
        cases k with
        | zero => omega
        | succ k =>
        obtain ⟨c2, e2, q1, q2⟩ := r4c_l25 rec n a b hl hn ha hb hr k m (i + 1) (by omega) (by omega)
        exact ⟨c2, e2, fun h => ⟨⟨hce.1 hc0, (q1 h).1⟩, (q1 h).2⟩, fun h1 h2 h3 => q2 h1.2 h2 h3⟩
      · rw [decide_eq_false hc0]
        simp only [Bool.not_false, if_true]
        exact ⟨c, rfl, fun h => absurd h hc0, fun h _ _ => hce.2 h.1⟩
    · have e : (decide (i < a.list.length) && decide (i < b.list.length)) = false := by
        rw [Bool.and_eq_false_iff, decide_eq_false_iff_not, decide_eq_false_iff_not]; omega
      rw [e]
      simp only [Bool.false_eq_true, if_false, r4_Compare_k22]
      by_cases hlen : a.list.length = b.list.length
      · rw [decide_eq_true (by omega)]
        simp only [Bool.not_true, Bool.false_eq_true, if_false]
        obtain ⟨c, e2, q1, q2⟩ := r4c_l46 rec n a b hl.1 ha hb hr.2 a.fields.length n 0 (by omega) hn
        rw [List.drop_zero, List.drop_zero] at q1 q2
        refine ⟨c, e2, fun h => ⟨?_, q1 h⟩, fun _ _ h => q2 h (by rw [h])⟩
        rw [List.drop_eq_nil_of_le (by omega), List.drop_eq_nil_of_le (by omega)]
      · rw [decide_eq_false (by omega)]
        simp only [Bool.not_false, if_true]
        exact ⟨_, rfl, fun h => absurd h (sign_ne (by omega)), fun _ h _ => absurd h hlen⟩
theorem Vl.ext' {a b : Vl} (h1 : a.kind = b.kind) (h2 : a.int = b.int) (h3 : a.scale = b.scale) (h4 : a.text = b.text) (h5 : a.list = b.list) (h6 : a.fields = b.fields) : a = b := by
  rw [← a.eta, ← b.eta, h1, h2, h3, h4, h5, h6]
theorem r4Compare_eq : ∀ (n : Nat) (a b : Vl), a.size < n → a.size ≤ 1000000000 → a.ok → b.ok → ∃ c, r4_Compare_F n a b = some c ∧ (c = 0 ↔ a = b)
  | 0, a, b, h, _, _, _ => absurd h (Nat.not_lt_zero _)
  | n + 1, a, b, h, hs, ha, hb => by
    have hl := parts_len a
    have a1 := a.ok_eq.1 ha
    have b1 := b.ok_eq.1 hb
    rw [r4_Compare_F, r4_Compare_B]
    by_cases h1 : a.kind = b.kind
    · rw [decide_eq_true h1]; simp only [Bool.not_true, Bool.false_eq_true, if_false]
      by_cases h2 : a.int = b.int
      · rw [decide_eq_true h2]; simp only [Bool.not_true, Bool.false_eq_true, if_false]
        by_cases h3 : a.scale = b.scale
        · rw [decide_eq_true h3]; simp only [Bool.not_true, Bool.false_eq_true, if_false]
          rw [if_pos (sz_max a1.1), if_pos (sz_max b1.1)]
          by_cases h4 : cmpS a.text b.text = 0
          · rw [decide_eq_true h4]; simp only [Bool.not_true, Bool.false_eq_true, if_false]
            obtain ⟨c, e, q1, q2⟩ := r4c_l25 (r4_Compare_F n) n a b ⟨by omega, by omega⟩ (by omega) ha hb
              ⟨fun p hp q hq => r4Compare_eq n p q (by have := a.list_size p hp; omega) (by have := a.list_size p hp; omega) (a1.2.1 p hp) (b1.2.1 q hq),
                fun p hp q hq => r4Compare_eq n p.2 q.2 (by have := a.field_size p hp; omega) (by have := a.field_size p hp; omega) (a1.2.2 p hp).2 (b1.2.2 q hq).2⟩ a.list.length n 0 (by omega) (by omega)
            rw [List.drop_zero, List.drop_zero] at q1 q2
            refine ⟨c, e, fun h => Vl.ext' h1 h2 h3 ((cmpS_zero _ _).1 h4) (q1 h).1 (q1 h).2, fun h => ?_⟩
            subst h
            exact q2 rfl rfl rfl
          · rw [decide_eq_false h4]; simp only [Bool.not_false, if_true]
            exact ⟨_, rfl, fun h => absurd h h4, fun h => by subst h; exact (cmpS_zero _ _).2 rfl⟩
        · rw [decide_eq_false h3]; simp only [Bool.not_false, if_true]
          exact ⟨_, rfl, fun h => absurd h (sign_ne h3), fun h => by subst h; exact absurd rfl h3⟩
      · rw [decide_eq_false h2]; simp only [Bool.not_false, if_true]
        exact ⟨_, rfl, fun h => absurd h (sign_ne h2), fun h => by subst h; exact absurd rfl h2⟩
    · rw [decide_eq_false h1]; simp only [Bool.not_false, if_true]
      exact ⟨_, rfl, fun h => absurd h (sign_ne h1), fun h => by subst h; exact absurd rfl h1⟩
theorem r4Equal_eq (n : Nat) (a b : Vl) (h : a.size < n) (hs : a.size ≤ 1000000000) (ha : a.ok) (hb : b.ok) : ∃ c, r4_Equal_F n a b = some c ∧ (c = true ↔ a = b) := by
  obtain ⟨c, e, hc⟩ := r4Compare_eq n a b h hs ha hb
  refine ⟨decide (c = 0), ?_, by rw [decide_eq_true_eq]; exact hc⟩
  rw [r4_Equal_F, e]; rfl


theorem r6e_l60 (rec : Ty → Ty → Option Bool) (n : Nat) (ag : Int → Option Bool) (x7 : Int) (p q : TF) (hl : p.2.2.2.2.length ≤ 1000000000) (hpq : p.2.2.2.2.length = q.2.2.2.2.length)
    (hr : ∀ v ∈ p.2.2.2.2, ∀ w ∈ q.2.2.2.2, ∃ c, r4_Equal_F n v w = some c ∧ (c = true ↔ v = w)) : ∀ (k m i : Nat), i + k = p.2.2.2.2.length → k < m →
    (r6_Equal_l60 rec n ag x7 p q m i = some false ∧ p.2.2.2.2.drop i ≠ q.2.2.2.2.drop i) ∨ (r6_Equal_l60 rec n ag x7 p q m i = r6_Equal_k46 rec n ag x7 ∧ p.2.2.2.2.drop i = q.2.2.2.2.drop i)
  | k, 0, i, _, h => absurd h (Nat.not_lt_zero _)
  | 0, m + 1, i, hi, _ => by
    rw [r6_Equal_l60, lt_int, decide_eq_false (by omega)]
    simp only [Bool.false_eq_true, if_false]
    exact .inr ⟨by trivial, by rw [List.drop_eq_nil_of_le (by omega), List.drop_eq_nil_of_le (by omega)]⟩
  | k + 1, m + 1, i, hi, hm => by
    have h1 : i < p.2.2.2.2.length := by omega
    have h2 : i < q.2.2.2.2.length := by omega
    rw [r6_Equal_l60, lt_int, decide_eq_true h1]
    simp only [if_true, idx_nat h1, idx_nat h2, Option.bind_some]
    obtain ⟨c, e, hc⟩ := hr _ (List.getElem_mem h1) _ (List.getElem_mem h2)
    rw [e, ne_eq, drop_eq_iff _ _ i h1 h2]
    simp only [Option.bind_some]
    cases c with
    | false => simp only [Bool.not_false, if_true]; exact .inl ⟨by trivial, fun h => by simpa using hc.2 h.1⟩
    | true =>
      simp only [Bool.not_true, Bool.false_eq_true, if_false]
      rw [if_pos (I64_succ (by omega))]
      rcases r6e_l60 rec n ag x7 p q hl hpq hr k m (i + 1) (by omega) (by omega) with ⟨e1, e2⟩ | ⟨e1, e2⟩
      · exact .inl ⟨e1, fun h => e2 h.2⟩
      · exact .inr ⟨e1, hc.1 rfl, e2⟩
theorem TF.ext' {p q : TF} (h1 : p.1 = q.1) (h2 : p.2.1 = q.2.1) (h3 : p.2.2.1 = q.2.2.1) (h4 : p.2.2.2.1 = q.2.2.2.1) (h5 : p.2.2.2.2 = q.2.2.2.2) : p = q := by
  obtain ⟨a, b, c, d, e⟩ := p
  obtain ⟨a', b', c', d', e'⟩ := q
  simp only at h1 h2 h3 h4 h5
  rw [h1, h2, h3, h4, h5]
theorem r6e_l41 (rec : Ty → Ty → Option Bool) (n : Nat) (hn : 400 ≤ n) (a b : Ty) (hl : a.fields.length ≤ 1000000000) (hab : a.fields.length = b.fields.length) (ha : a.ok) (hb : b.ok)
    (hr : ∀ p ∈ a.fields, ∀ q ∈ b.fields, ∃ c, rec p.2.2.2.1 q.2.2.2.1 = some c ∧ (c = true ↔ p.2.2.2.1 = q.2.2.2.1)) : ∀ (k m i : Nat), i + k = a.fields.length → k < m → ∃ c, r6_Equal_l41 rec n a b m i = some c ∧ (c = true ↔ a.fields.drop i = b.fields.drop i)
  | k, 0, i, _, h => absurd h (Nat.not_lt_zero _)
  | 0, m + 1, i, hi, _ => by
    rw [r6_Equal_l41, lt_int, decide_eq_false (by omega)]
    simp only [Bool.false_eq_true, if_false, r6_Equal_k38]
    exact ⟨true, rfl, by rw [List.drop_eq_nil_of_le (by omega), List.drop_eq_nil_of_le (by omega)]; simp⟩
  | k + 1, m + 1, i, hi, hm => by
    have h1 : i < a.fields.length := by omega
    have h2 : i < b.fields.length := by omega
    rw [r6_Equal_l41, lt_int, decide_eq_true h1]
    simp only [if_true, idx_nat h1, idx_nat h2, Option.bind_some]
    rw [drop_eq_iff _ _ i h1 h2]
    obtain ⟨_, _, o3, o4⟩ := (a.ok_eq.1 ha).2.2.2 _ (List.getElem_mem h1)
    obtain ⟨_, _, _, o5⟩ := (b.ok_eq.1 hb).2.2.2 _ (List.getElem_mem h2)
    by_cases hc : a.fields[i].1 = b.fields[i].1 ∧ a.fields[i].2.1 = b.fields[i].2.1 ∧ a.fields[i].2.2.1 = b.fields[i].2.2.1 ∧ a.fields[i].2.2.2.2.length = b.fields[i].2.2.2.2.length
    · obtain ⟨c1, c2, c3, c4⟩ := hc
      rw [if_neg (by rw [c1, c2, c3, c4, sEq_self]; simp)]
      obtain ⟨c, e, hce⟩ := hr _ (List.getElem_mem h1) _ (List.getElem_mem h2)
      rw [e]
      simp only [Option.bind_some]
      cases c with
      | false => simp only [Bool.not_false, if_true]; exact ⟨false, rfl, by simp only [Bool.false_eq_true, false_iff]; intro h; simpa using hce.2 (by rw [h.1])⟩
      | true =>
        simp only [Bool.not_true, Bool.false_eq_true, if_false]
        rcases r6e_l60 rec n (r6_Equal_l41 rec n a b m) i a.fields[i] b.fields[i] (by omega) c4 (fun v hv w hw => r4Equal_eq n v w (by have := (o4 v hv).1; omega) (by have := (o4 v hv).1; omega) (o4 v hv).2.2 (o5 w hw).2.2) a.fields[i].2.2.2.2.length n 0 (by omega) (by omega) with ⟨e1, e2⟩ | ⟨e1, e2⟩
        · refine ⟨false, e1, ?_⟩
          rw [List.drop_zero, List.drop_zero] at e2
          simp only [Bool.false_eq_true, false_iff]
          exact fun h => e2 (by rw [h.1])
        · rw [List.drop_zero, List.drop_zero] at e2
          obtain ⟨c5, e5, h5⟩ := r6e_l41 rec n hn a b hl hab ha hb hr k m (i + 1) (by omega) (by omega)
          refine ⟨c5, ?_, ?_⟩
          · refine e1.trans ?_
            rw [r6_Equal_k46, if_pos (I64_succ (by omega))]; exact e5
          · rw [h5]
            exact ⟨fun h => ⟨TF.ext' c1 c2 c3 (hce.1 rfl) e2, h⟩, fun h => h.2⟩
    · rw [if_pos]
      · exact ⟨false, rfl, by simp only [Bool.false_eq_true, false_iff]; intro h; exact hc (by rw [h.1]; exact ⟨rfl, rfl, rfl, rfl⟩)⟩
      · have := sEq_iff a.fields[i].2.1 b.fields[i].2.1
        simp only [Bool.or_eq_true, Bool.not_eq_true', decide_eq_false_iff_not]
        by_cases s : sEq a.fields[i].2.1 b.fields[i].2.1 = true
        · have := this.1 s; by_cases x1 : a.fields[i].1 = b.fields[i].1
          · by_cases x2 : a.fields[i].2.2.1 = b.fields[i].2.2.1
            · exact .inr (fun h => hc ⟨x1, this, x2, by omega⟩)
            · exact .inl (.inr x2)
          · exact .inl (.inl (.inl x1))
        · exact .inl (.inl (.inr (by simpa using s)))
theorem r6e_l25 (rec : Ty → Ty → Option Bool) (n : Nat) (a b : Ty) (hl : a.elem.length ≤ 1000000000) (hab : a.elem.length = b.elem.length)
    (hr : ∀ p ∈ a.elem, ∀ q ∈ b.elem, ∃ c, rec p q = some c ∧ (c = true ↔ p = q)) : ∀ (k m i : Nat), i + k = a.elem.length → k < m →
    (r6_Equal_l25 rec n a b m i = some false ∧ a.elem.drop i ≠ b.elem.drop i) ∨ (r6_Equal_l25 rec n a b m i = r6_Equal_k22 rec n a b ∧ a.elem.drop i = b.elem.drop i)
  | k, 0, i, _, h => absurd h (Nat.not_lt_zero _)
  | 0, m + 1, i, hi, _ => by
    rw [r6_Equal_l25, lt_int, decide_eq_false (by omega)]
    simp only [Bool.false_eq_true, if_false]
    exact .inr ⟨by trivial, by rw [List.drop_eq_nil_of_le (by omega), List.drop_eq_nil_of_le (by omega)]⟩
  | k + 1, m + 1, i, hi, hm => by
    have h1 : i < a.elem.length := by omega
    have h2 : i < b.elem.length := by omega
    rw [r6_Equal_l25, lt_int, decide_eq_true h1]
    simp only [if_true, idx_nat h1, idx_nat h2, Option.bind_some]
    obtain ⟨c, e, hc⟩ := hr _ (List.getElem_mem h1) _ (List.getElem_mem h2)
    rw [e, ne_eq, drop_eq_iff _ _ i h1 h2]
    simp only [Option.bind_some]
    cases c with
    | false => simp only [Bool.not_false, if_true]; exact .inl ⟨by trivial, fun h => by simpa using hc.2 h.1⟩
    | true =>
      simp only [Bool.not_true, Bool.false_eq_true, if_false]
      rw [if_pos (I64_succ (by omega))]
      rcases r6e_l25 rec n a b hl hab hr k m (i + 1) (by omega) (by omega) with ⟨e1, e2⟩ | ⟨e1, e2⟩
      · exact .inl ⟨e1, fun h => e2 h.2⟩
      · exact .inr ⟨e1, hc.1 rfl, e2⟩
theorem r6e_l10 (rec : Ty → Ty → Option Bool) (n : Nat) (a b : Ty) (hl : a.words.length ≤ 1000000000) (hab : a.words.length = b.words.length) : ∀ (k m i : Nat), i + k = a.words.length → k < m →
    (r6_Equal_l10 rec n a b m i = some false ∧ a.words.drop i ≠ b.words.drop i) ∨ (r6_Equal_l10 rec n a b m i = r6_Equal_k7 rec n a b ∧ a.words.drop i = b.words.drop i)
  | k, 0, i, _, h => absurd h (Nat.not_lt_zero _)
  | 0, m + 1, i, hi, _ => by
    rw [r6_Equal_l10, lt_int, decide_eq_false (by omega)]
    simp only [Bool.false_eq_true, if_false]
    exact .inr ⟨by trivial, by rw [List.drop_eq_nil_of_le (by omega), List.drop_eq_nil_of_le (by omega)]⟩
  | k + 1, m + 1, i, hi, hm => by
    have h1 : i < a.words.length := by omega
    have h2 : i < b.words.length := by omega
    rw [r6_Equal_l10, lt_int, decide_eq_true h1]
    simp only [if_true, idx_nat h1, idx_nat h2, Option.bind_some]
    rw [ne_eq, drop_eq_iff _ _ i h1 h2]
    by_cases s : a.words[i] = b.words[i]
    · rw [s, sEq_self]
      simp only [Bool.not_true, Bool.false_eq_true, if_false]
      rw [if_pos (I64_succ (by omega))]
      rcases r6e_l10 rec n a b hl hab k m (i + 1) (by omega) (by omega) with ⟨e1, e2⟩ | ⟨e1, e2⟩
      · exact .inl ⟨e1, fun h => e2 h.2⟩
      · exact .inr ⟨e1, by trivial, e2⟩
    · have : sEq a.words[i] b.words[i] = false := by
        cases h : sEq a.words[i] b.words[i]
        · rfl
        · exact absurd ((sEq_iff _ _).1 h) s
      rw [this]
      simp only [Bool.not_false, if_true]
      exact .inl ⟨trivial, fun h => s h.1⟩
theorem Ty.ext' {a b : Ty} (h1 : a.kind = b.kind) (h2 : a.min = b.min) (h3 : a.max = b.max) (h4 : a.scale = b.scale) (h5 : a.words = b.words) (h6 : a.elem = b.elem) (h7 : a.fields = b.fields) : a = b := by
  rw [← a.eta, ← b.eta, h1, h2, h3, h4, h5, h6, h7]
theorem r6Equal_eq : ∀ (n : Nat) (a b : Ty), a.size + 400 < n → a.size ≤ 1000000000 → a.ok → b.ok → ∃ c, r6_Equal_F n a b = some c ∧ (c = true ↔ a = b)
  | 0, a, b, h, _, _, _ => absurd h (Nat.not_lt_zero _)
  | n + 1, a, b, h, hs, ha, hb => by
    have hl := a.lens
    have a1 := a.ok_eq.1 ha
    have b1 := b.ok_eq.1 hb
    rw [r6_Equal_F, r6_Equal_B]
    by_cases hc : a.kind = b.kind ∧ a.min = b.min ∧ a.max = b.max ∧ a.scale = b.scale ∧ a.words.length = b.words.length ∧ a.elem.length = b.elem.length ∧ a.fields.length = b.fields.length
    · obtain ⟨c1, c2, c3, c4, c5, c6, c7⟩ := hc
      rw [if_neg (by rw [c1, c2, c3, c4, c5, c6, c7]; simp)]
      rcases r6e_l10 (r6_Equal_F n) n a b (by omega) c5 a.words.length n 0 (by omega) (by omega) with ⟨e1, e2⟩ | ⟨e1, e2⟩
      · rw [List.drop_zero, List.drop_zero] at e2
        exact ⟨false, e1, by simp only [Bool.false_eq_true, false_iff]; intro h; exact e2 (by rw [h])⟩
      rw [List.drop_zero, List.drop_zero] at e2
      have w := e2
      rcases r6e_l25 (r6_Equal_F n) n a b (by omega) c6 (fun p hp q hq => r6Equal_eq n p q (by have := a.elem_size p hp; omega) (by have := a.elem_size p hp; omega) (a1.2.2.1 p hp) (b1.2.2.1 q hq)) a.elem.length n 0 (by omega) (by omega) with ⟨e3, e4⟩ | ⟨e3, e4⟩
      · rw [List.drop_zero, List.drop_zero] at e4
        refine ⟨false, ?_, by simp only [Bool.false_eq_true, false_iff]; intro h; exact e4 (by rw [h])⟩
        exact e1.trans (by rw [r6_Equal_k7]; exact e3)
      rw [List.drop_zero, List.drop_zero] at e4
      obtain ⟨c, e5, h5⟩ := r6e_l41 (r6_Equal_F n) n (by omega) a b (by omega) c7 ha hb (fun p hp q hq => r6Equal_eq n _ _ (by have := a.field_size p hp; omega) (by have := a.field_size p hp; omega) (a1.2.2.2 p hp).2.1 (b1.2.2.2 q hq).2.1) a.fields.length n 0 (by omega) (by omega)
      rw [List.drop_zero, List.drop_zero] at h5
      refine ⟨c, ?_, h5.trans ⟨fun h => Ty.ext' c1 c2 c3 c4 w e4 h, fun h => by rw [h]⟩⟩
      refine e1.trans ?_
      rw [r6_Equal_k7]
      refine e3.trans ?_
      rw [r6_Equal_k22]; exact e5
    · rw [if_pos]
      · exact ⟨false, rfl, by simp only [Bool.false_eq_true, false_iff]; intro h; subst h; exact hc ⟨rfl, rfl, rfl, rfl, rfl, rfl, rfl⟩⟩
      · simp only [Bool.or_eq_true, Bool.not_eq_true', decide_eq_false_iff_not]
        have : ∀ x y : Nat, ((x : Int) = (y : Int)) = (x = y) := fun x y => propext ⟨fun h => by omega, fun h => by omega⟩
        simp only [this]
        by_cases x1 : a.kind = b.kind
        · by_cases x2 : a.min = b.min
          · by_cases x3 : a.max = b.max
            · by_cases x4 : a.scale = b.scale
              · by_cases x5 : a.words.length = b.words.length
                · by_cases x6 : a.elem.length = b.elem.length
                  · exact .inr fun x7 => hc ⟨x1, x2, x3, x4, x5, x6, x7⟩
                  · exact .inl (.inr x6)
                · exact .inl (.inl (.inr x5))
              · exact .inl (.inl (.inl (.inr x4)))
            · exact .inl (.inl (.inl (.inl (.inr x3))))
          · exact .inl (.inl (.inl (.inl (.inl (.inr x2)))))
        · exact .inl (.inl (.inl (.inl (.inl (.inl x1)))))
end Go.Proofs.YtggimoedcamonaaGreatDoor
namespace Go.Proofs.YtggimoedcamonaaGreatDoor
open Go Go.RowKit Go.Ev
set_option linter.unusedVariables false
set_option linter.unusedSimpArgs false
theorem len_int {a b : Nat} : decide ((a : Int) = (b : Int)) = decide (a = b) := decide_eq_decide.2 ⟨fun h => by omega, fun h => by omega⟩
theorem le_int {a b : Nat} : decide ((a : Int) ≤ (b : Int)) = decide (a ≤ b) := decide_eq_decide.2 ⟨fun h => by omega, fun h => by omega⟩
theorem efType_l10 (n : Nat) (a b : List (Ty)) (f : Ty → Ty → Option Bool) (hl : a.length ≤ 1000000000) (hab : a.length = b.length)
    (hr : ∀ p ∈ a, ∀ q ∈ b, ∃ c, f p q = some c ∧ (c = true ↔ p = q)) : ∀ (k m i : Nat), i + k = a.length → k < m → ∃ c, sl_EqualFunc_Type_l10 n a b f m i = some c ∧ (c = true ↔ a.drop i = b.drop i)
  | k, 0, i, _, h => absurd h (Nat.not_lt_zero _)
  | 0, m + 1, i, hi, _ => by
    rw [sl_EqualFunc_Type_l10, lt_int, decide_eq_false (by omega)]
    simp only [Bool.false_eq_true, if_false]
    exact ⟨true, rfl, by rw [List.drop_eq_nil_of_le (by omega), List.drop_eq_nil_of_le (by omega)]; simp⟩
  | k + 1, m + 1, i, hi, hm => by
    have h1 : i < a.length := by omega
    have h2 : i < b.length := by omega
    rw [sl_EqualFunc_Type_l10, lt_int, decide_eq_true h1]
    simp only [if_true, idx_nat h1, idx_nat h2, Option.bind_some]
    obtain ⟨c, e, hc⟩ := hr _ (List.getElem_mem h1) _ (List.getElem_mem h2)
    rw [e, drop_eq_iff _ _ i h1 h2]
    simp only [Option.bind_some]
    cases c with
    | false => simp only [Bool.not_false, if_true]; exact ⟨false, rfl, by simp only [Bool.false_eq_true, false_iff]; intro h; simpa using hc.2 h.1⟩
    | true =>
      simp only [Bool.not_true, Bool.false_eq_true, if_false]
      rw [if_pos (I64_succ (by omega))]
      obtain ⟨c2, e2, h2⟩ := efType_l10 n a b f hl hab hr k m (i + 1) (by omega) (by omega)
      exact ⟨c2, e2, h2.trans ⟨fun h => ⟨hc.1 rfl, h⟩, fun h => h.2⟩⟩
theorem efType_eq (n : Nat) (a b : List (Ty)) (f : Ty → Ty → Option Bool) (hl : a.length ≤ 1000000000) (hn : a.length < n)
    (hr : ∀ p ∈ a, ∀ q ∈ b, ∃ c, f p q = some c ∧ (c = true ↔ p = q)) : ∃ c, sl_EqualFunc_Type_F n a b f = some c ∧ (c = true ↔ a = b) := by
  rw [sl_EqualFunc_Type_F, len_int]
  by_cases h : a.length = b.length
  · rw [decide_eq_true h]
    simp only [Bool.not_true, Bool.false_eq_true, if_false]
    exact efType_l10 n a b f hl h hr a.length n 0 (by omega) hn
  · rw [decide_eq_false h]
    exact ⟨false, rfl, by simp only [Bool.false_eq_true, false_iff]; intro e; exact h (by rw [e])⟩
theorem efTypeField_l10 (n : Nat) (a b : List (TF)) (f : TF → TF → Option Bool) (hl : a.length ≤ 1000000000) (hab : a.length = b.length)
    (hr : ∀ p ∈ a, ∀ q ∈ b, ∃ c, f p q = some c ∧ (c = true ↔ p = q)) : ∀ (k m i : Nat), i + k = a.length → k < m → ∃ c, sl_EqualFunc_TypeField_l10 n a b f m i = some c ∧ (c = true ↔ a.drop i = b.drop i)
  | k, 0, i, _, h => absurd h (Nat.not_lt_zero _)
  | 0, m + 1, i, hi, _ => by
    rw [sl_EqualFunc_TypeField_l10, lt_int, decide_eq_false (by omega)]
    simp only [Bool.false_eq_true, if_false]
    exact ⟨true, rfl, by rw [List.drop_eq_nil_of_le (by omega), List.drop_eq_nil_of_le (by omega)]; simp⟩
  | k + 1, m + 1, i, hi, hm => by
    have h1 : i < a.length := by omega
    have h2 : i < b.length := by omega
    rw [sl_EqualFunc_TypeField_l10, lt_int, decide_eq_true h1]
    simp only [if_true, idx_nat h1, idx_nat h2, Option.bind_some]
    obtain ⟨c, e, hc⟩ := hr _ (List.getElem_mem h1) _ (List.getElem_mem h2)
    rw [e, drop_eq_iff _ _ i h1 h2]
    simp only [Option.bind_some]
    cases c with
    | false => simp only [Bool.not_false, if_true]; exact ⟨false, rfl, by simp only [Bool.false_eq_true, false_iff]; intro h; simpa using hc.2 h.1⟩
    | true =>
      simp only [Bool.not_true, Bool.false_eq_true, if_false]
      rw [if_pos (I64_succ (by omega))]
      obtain ⟨c2, e2, h2⟩ := efTypeField_l10 n a b f hl hab hr k m (i + 1) (by omega) (by omega)
      exact ⟨c2, e2, h2.trans ⟨fun h => ⟨hc.1 rfl, h⟩, fun h => h.2⟩⟩
theorem efTypeField_eq (n : Nat) (a b : List (TF)) (f : TF → TF → Option Bool) (hl : a.length ≤ 1000000000) (hn : a.length < n)
    (hr : ∀ p ∈ a, ∀ q ∈ b, ∃ c, f p q = some c ∧ (c = true ↔ p = q)) : ∃ c, sl_EqualFunc_TypeField_F n a b f = some c ∧ (c = true ↔ a = b) := by
  rw [sl_EqualFunc_TypeField_F, len_int]
  by_cases h : a.length = b.length
  · rw [decide_eq_true h]
    simp only [Bool.not_true, Bool.false_eq_true, if_false]
    exact efTypeField_l10 n a b f hl h hr a.length n 0 (by omega) hn
  · rw [decide_eq_false h]
    exact ⟨false, rfl, by simp only [Bool.false_eq_true, false_iff]; intro e; exact h (by rw [e])⟩
theorem efValue_l10 (n : Nat) (a b : List (Vl)) (f : Vl → Vl → Option Bool) (hl : a.length ≤ 1000000000) (hab : a.length = b.length)
    (hr : ∀ p ∈ a, ∀ q ∈ b, ∃ c, f p q = some c ∧ (c = true ↔ p = q)) : ∀ (k m i : Nat), i + k = a.length → k < m → ∃ c, sl_EqualFunc_Value_l10 n a b f m i = some c ∧ (c = true ↔ a.drop i = b.drop i)
  | k, 0, i, _, h => absurd h (Nat.not_lt_zero _)
  | 0, m + 1, i, hi, _ => by
    rw [sl_EqualFunc_Value_l10, lt_int, decide_eq_false (by omega)]
    simp only [Bool.false_eq_true, if_false]
    exact ⟨true, rfl, by rw [List.drop_eq_nil_of_le (by omega), List.drop_eq_nil_of_le (by omega)]; simp⟩
  | k + 1, m + 1, i, hi, hm => by
    have h1 : i < a.length := by omega
    have h2 : i < b.length := by omega
    rw [sl_EqualFunc_Value_l10, lt_int, decide_eq_true h1]
    simp only [if_true, idx_nat h1, idx_nat h2, Option.bind_some]
    obtain ⟨c, e, hc⟩ := hr _ (List.getElem_mem h1) _ (List.getElem_mem h2)
    rw [e, drop_eq_iff _ _ i h1 h2]
    simp only [Option.bind_some]
    cases c with
    | false => simp only [Bool.not_false, if_true]; exact ⟨false, rfl, by simp only [Bool.false_eq_true, false_iff]; intro h; simpa using hc.2 h.1⟩
    | true =>
      simp only [Bool.not_true, Bool.false_eq_true, if_false]
      rw [if_pos (I64_succ (by omega))]
      obtain ⟨c2, e2, h2⟩ := efValue_l10 n a b f hl hab hr k m (i + 1) (by omega) (by omega)
      exact ⟨c2, e2, h2.trans ⟨fun h => ⟨hc.1 rfl, h⟩, fun h => h.2⟩⟩
theorem efValue_eq (n : Nat) (a b : List (Vl)) (f : Vl → Vl → Option Bool) (hl : a.length ≤ 1000000000) (hn : a.length < n)
    (hr : ∀ p ∈ a, ∀ q ∈ b, ∃ c, f p q = some c ∧ (c = true ↔ p = q)) : ∃ c, sl_EqualFunc_Value_F n a b f = some c ∧ (c = true ↔ a = b) := by
  rw [sl_EqualFunc_Value_F, len_int]
  by_cases h : a.length = b.length
  · rw [decide_eq_true h]
    simp only [Bool.not_true, Bool.false_eq_true, if_false]
    exact efValue_l10 n a b f hl h hr a.length n 0 (by omega) hn
  · rw [decide_eq_false h]
    exact ⟨false, rfl, by simp only [Bool.false_eq_true, false_iff]; intro e; exact h (by rw [e])⟩
theorem es_l10 (n : Nat) (a b : List ByteArray) (hl : a.length ≤ 1000000000) (hab : a.length = b.length) : ∀ (k m i : Nat), i + k = a.length → k < m → ∃ c, sl_Equal_string_l10 n a b m i = some c ∧ (c = true ↔ a.drop i = b.drop i)
  | k, 0, i, _, h => absurd h (Nat.not_lt_zero _)
  | 0, m + 1, i, hi, _ => by
    rw [sl_Equal_string_l10, lt_int, decide_eq_false (by omega)]
    simp only [Bool.false_eq_true, if_false]
    exact ⟨true, rfl, by rw [List.drop_eq_nil_of_le (by omega), List.drop_eq_nil_of_le (by omega)]; simp⟩
  | k + 1, m + 1, i, hi, hm => by
    have h1 : i < a.length := by omega
    have h2 : i < b.length := by omega
    rw [sl_Equal_string_l10, lt_int, decide_eq_true h1]
    simp only [if_true, idx_nat h1, idx_nat h2, Option.bind_some]
    rw [drop_eq_iff _ _ i h1 h2]
    have hc := sEq_iff a[i] b[i]
    cases hs : sEq a[i] b[i] with
    | false =>
      rw [hs] at hc
      simp only [Bool.not_false, if_true]; exact ⟨false, rfl, by simp only [Bool.false_eq_true, false_iff]; intro h; simpa using hc.2 h.1⟩
    | true =>
      rw [hs] at hc
      simp only [Bool.not_true, Bool.false_eq_true, if_false]
      rw [if_pos (I64_succ (by omega))]
      obtain ⟨c2, e2, h2⟩ := es_l10 n a b hl hab k m (i + 1) (by omega) (by omega)
      exact ⟨c2, e2, h2.trans ⟨fun h => ⟨hc.1 rfl, h⟩, fun h => h.2⟩⟩
theorem es_eq (n : Nat) (a b : List ByteArray) (hl : a.length ≤ 1000000000) (hn : a.length < n) : ∃ c, sl_Equal_string_F n a b = some c ∧ (c = true ↔ a = b) := by
  rw [sl_Equal_string_F, len_int]
  by_cases h : a.length = b.length
  · rw [decide_eq_true h]
    simp only [Bool.not_true, Bool.false_eq_true, if_false]
    exact es_l10 n a b hl h a.length n 0 (by omega) hn
  · rw [decide_eq_false h]
    exact ⟨false, rfl, by simp only [Bool.false_eq_true, false_iff]; intro e; exact h (by rw [e])⟩
theorem cfValue_l6 (n : Nat) (a b : List (Vl)) (f : Vl → Vl → Option Int) (hl : a.length ≤ 1000000000)
    (hr : ∀ p ∈ a, ∀ q ∈ b, ∃ c, f p q = some c ∧ (c = 0 ↔ p = q)) : ∀ (k m i : Nat), i + k = a.length → k < m → ∃ c, sl_CompareFunc_Value_l6 n a b f m i = some c ∧ (c = 0 ↔ a.drop i = b.drop i)
  | k, 0, i, _, h => absurd h (Nat.not_lt_zero _)
  | 0, m + 1, i, hi, _ => by
    rw [sl_CompareFunc_Value_l6, lt_int, decide_eq_false (by omega)]
    simp only [Bool.false_eq_true, if_false]
    rw [sl_CompareFunc_Value_k3, lt_int, List.drop_eq_nil_of_le (show a.length ≤ i by omega)]
    by_cases h : a.length < b.length
    · rw [decide_eq_true h]
      simp only [if_true]
      exact ⟨-1, rfl, ⟨fun h => absurd h (by decide), fun e => by have := List.drop_eq_nil_iff.1 e.symm; omega⟩⟩
    · rw [decide_eq_false h]
      simp only [Bool.false_eq_true, if_false]
      exact ⟨0, rfl, ⟨fun _ => (List.drop_eq_nil_of_le (by omega)).symm, fun _ => rfl⟩⟩
  | k + 1, m + 1, i, hi, hm => by
    have h1 : i < a.length := by omega
    rw [sl_CompareFunc_Value_l6, lt_int, decide_eq_true h1]
    simp only [if_true, idx_nat h1, Option.bind_some, le_int]
    by_cases h2 : i < b.length
    · rw [decide_eq_false (show ¬ b.length ≤ i by omega)]
      simp only [Bool.false_eq_true, if_false, idx_nat h2, Option.bind_some]
      obtain ⟨c, e, hc⟩ := hr _ (List.getElem_mem h1) _ (List.getElem_mem h2)
      rw [e, drop_eq_iff _ _ i h1 h2]
      simp only [Option.bind_some]
      by_cases h0 : c = 0
      · rw [decide_eq_true h0]
        simp only [Bool.not_true, Bool.false_eq_true, if_false]
        rw [if_pos (I64_succ (by omega))]
        obtain ⟨c2, e2, h2⟩ := cfValue_l6 n a b f hl hr k m (i + 1) (by omega) (by omega)
        exact ⟨c2, e2, h2.trans ⟨fun h => ⟨hc.1 h0, h⟩, fun h => h.2⟩⟩
      · rw [decide_eq_false h0]
        simp only [Bool.not_false, if_true]
        exact ⟨c, rfl, ⟨fun h => absurd h h0, fun h => absurd (hc.2 h.1) h0⟩⟩
    · rw [decide_eq_true (show b.length ≤ i by omega)]
      simp only [if_true]
      refine ⟨1, rfl, ⟨fun h => absurd h (by decide), fun e => ?_⟩⟩
      rw [List.drop_eq_nil_of_le (show b.length ≤ i by omega)] at e
      have := List.drop_eq_nil_iff.1 e
      omega
theorem cfValue_eq (n : Nat) (a b : List (Vl)) (f : Vl → Vl → Option Int) (hl : a.length ≤ 1000000000) (hn : a.length < n)
    (hr : ∀ p ∈ a, ∀ q ∈ b, ∃ c, f p q = some c ∧ (c = 0 ↔ p = q)) : ∃ c, sl_CompareFunc_Value_F n a b f = some c ∧ (c = 0 ↔ a = b) :=
  cfValue_l6 n a b f hl hr a.length n 0 (by omega) hn
theorem cfField_l6 (n : Nat) (a b : List (ByteArray × Vl)) (f : ByteArray × Vl → ByteArray × Vl → Option Int) (hl : a.length ≤ 1000000000)
    (hr : ∀ p ∈ a, ∀ q ∈ b, ∃ c, f p q = some c ∧ (c = 0 ↔ p = q)) : ∀ (k m i : Nat), i + k = a.length → k < m → ∃ c, sl_CompareFunc_Field_l6 n a b f m i = some c ∧ (c = 0 ↔ a.drop i = b.drop i)
  | k, 0, i, _, h => absurd h (Nat.not_lt_zero _)
  | 0, m + 1, i, hi, _ => by
    rw [sl_CompareFunc_Field_l6, lt_int, decide_eq_false (by omega)]
    simp only [Bool.false_eq_true, if_false]
    rw [sl_CompareFunc_Field_k3, lt_int, List.drop_eq_nil_of_le (show a.length ≤ i by omega)]
    by_cases h : a.length < b.length
    · rw [decide_eq_true h]
      simp only [if_true]
      exact ⟨-1, rfl, ⟨fun h => absurd h (by decide), fun e => by have := List.drop_eq_nil_iff.1 e.symm; omega⟩⟩
    · rw [decide_eq_false h]
      simp only [Bool.false_eq_true, if_false]
      exact ⟨0, rfl, ⟨fun _ => (List.drop_eq_nil_of_le (by omega)).symm, fun _ => rfl⟩⟩
  | k + 1, m + 1, i, hi, hm => by
    have h1 : i < a.length := by omega
    rw [sl_CompareFunc_Field_l6, lt_int, decide_eq_true h1]
    simp only [if_true, idx_nat h1, Option.bind_some, le_int]
    by_cases h2 : i < b.length
    · rw [decide_eq_false (show ¬ b.length ≤ i by omega)]
      simp only [Bool.false_eq_true, if_false, idx_nat h2, Option.bind_some]
      obtain ⟨c, e, hc⟩ := hr _ (List.getElem_mem h1) _ (List.getElem_mem h2)
      rw [e, drop_eq_iff _ _ i h1 h2]
      simp only [Option.bind_some]
      by_cases h0 : c = 0
      · rw [decide_eq_true h0]
        simp only [Bool.not_true, Bool.false_eq_true, if_false]
        rw [if_pos (I64_succ (by omega))]
        obtain ⟨c2, e2, h2⟩ := cfField_l6 n a b f hl hr k m (i + 1) (by omega) (by omega)
        exact ⟨c2, e2, h2.trans ⟨fun h => ⟨hc.1 h0, h⟩, fun h => h.2⟩⟩
      · rw [decide_eq_false h0]
        simp only [Bool.not_false, if_true]
        exact ⟨c, rfl, ⟨fun h => absurd h h0, fun h => absurd (hc.2 h.1) h0⟩⟩
    · rw [decide_eq_true (show b.length ≤ i by omega)]
      simp only [if_true]
      refine ⟨1, rfl, ⟨fun h => absurd h (by decide), fun e => ?_⟩⟩
      rw [List.drop_eq_nil_of_le (show b.length ≤ i by omega)] at e
      have := List.drop_eq_nil_iff.1 e
      omega
theorem cfField_eq (n : Nat) (a b : List (ByteArray × Vl)) (f : ByteArray × Vl → ByteArray × Vl → Option Int) (hl : a.length ≤ 1000000000) (hn : a.length < n)
    (hr : ∀ p ∈ a, ∀ q ∈ b, ∃ c, f p q = some c ∧ (c = 0 ↔ p = q)) : ∃ c, sl_CompareFunc_Field_F n a b f = some c ∧ (c = 0 ↔ a = b) :=
  cfField_l6 n a b f hl hr a.length n 0 (by omega) hn
theorem or_l7 (n : Nat) (l : List Int) (hl : l.length ≤ 1000000000) : ∀ (k m i : Nat), i + k = l.length → k < m → ∃ c, cmp_Or_int_l7 n l m i = some c ∧ (c = 0 ↔ ∀ x ∈ l.drop i, x = 0)
  | k, 0, i, _, h => absurd h (Nat.not_lt_zero _)
  | 0, m + 1, i, hi, _ => by
    rw [cmp_Or_int_l7, lt_int, decide_eq_false (by omega)]
    simp only [Bool.false_eq_true, if_false]
    exact ⟨0, rfl, by rw [List.drop_eq_nil_of_le (by omega)]; simp⟩
  | k + 1, m + 1, i, hi, hm => by
    have h1 : i < l.length := by omega
    rw [cmp_Or_int_l7, lt_int, decide_eq_true h1]
    simp only [if_true, idx_nat h1, Option.bind_some]
    rw [List.drop_eq_getElem_cons h1]
    by_cases h0 : l[i] = 0
    · rw [decide_eq_true h0]
      simp only [Bool.not_true, Bool.false_eq_true, if_false]
      rw [if_pos (I64_succ (by omega))]
      obtain ⟨c2, e2, h2⟩ := or_l7 n l hl k m (i + 1) (by omega) (by omega)
      exact ⟨c2, e2, h2.trans ⟨fun h x hx => by rcases List.mem_cons.1 hx with rfl | hx; exact h0; exact h x hx, fun h x hx => h x (List.mem_cons_of_mem _ hx)⟩⟩
    · rw [decide_eq_false h0]
      simp only [Bool.not_false, if_true]
      exact ⟨_, rfl, ⟨fun h => absurd h h0, fun h => absurd (h _ (List.mem_cons_self ..)) h0⟩⟩
theorem or_eq (n : Nat) (l : List Int) (hl : l.length < n) (h2 : l.length ≤ 1000000000) : ∃ c, cmp_Or_int_F n l = some c ∧ (c = 0 ↔ ∀ x ∈ l, x = 0) := or_l7 n l h2 l.length n 0 (by omega) hl
theorem cmpI_zero (a b : Int) : (if a < b then (-1 : Int) else if a = b then 0 else 1) = 0 ↔ a = b := by
  by_cases h1 : a < b
  · rw [if_pos h1]; omega
  · rw [if_neg h1]
    by_cases h2 : a = b
    · simp [h2]
    · simp [h2]
theorem Vl.lens' (v : Vl) : v.list.length < v.size ∧ v.fields.length < v.size := by have := sizeVs_len v.list; have := sizeFs_len v.fields; have := v.size_eq; omega
theorem vCompare_eq : ∀ (n : Nat) (a b : Vl), a.size + 10 ≤ n → a.size ≤ 1000000000 → ∃ c, v_Compare_F n a b = some c ∧ (c = 0 ↔ a = b)
  | 0, a, b, h, _ => by omega
  | n + 1, a, b, h, hs => by
    have hl := a.lens'
    rw [v_Compare_F, v_Compare_B]
    obtain ⟨c1, e1, h1⟩ := cfValue_eq n a.list b.list (fun x y => v_Compare_F n x y) (by omega) (by omega) (fun p hp q _ => vCompare_eq n p q (by have := a.list_size p hp; omega) (by have := a.list_size p hp; omega))
    obtain ⟨c2, e2, h2⟩ := cfField_eq n a.fields b.fields (fun x y => v_Compare_1_F (v_Compare_F n) n x y) (by omega) (by omega) (fun p hp q _ => by
      obtain ⟨c, e, hc⟩ := vCompare_eq n p.2 q.2 (by have := a.field_size p hp; omega) (by have := a.field_size p hp; omega)
      obtain ⟨c2, e2, h2⟩ := or_eq n [cmpS p.1 q.1, c] (by simp; omega) (by simp)
      refine ⟨c2, by rw [v_Compare_1_F, e, Option.bind_some, e2]; rfl, h2.trans ?_⟩
      simp only [List.mem_cons, List.not_mem_nil, or_false, forall_eq_or_imp, forall_eq, cmpS_zero, hc]
      exact ⟨fun h => Prod.ext h.1 h.2, fun h => by rw [h]; exact ⟨rfl, rfl⟩⟩)
    rw [e1, Option.bind_some, e2, Option.bind_some]
    obtain ⟨c, e, hc⟩ := or_eq n [if a.kind < b.kind then -1 else if a.kind = b.kind then 0 else 1, if a.int < b.int then -1 else if a.int = b.int then 0 else 1, if a.scale < b.scale then -1 else if a.scale = b.scale then 0 else 1, cmpS a.text b.text, c1, c2] (by simp; omega) (by simp)
    refine ⟨c, by rw [e]; rfl, hc.trans ?_⟩
    simp only [List.mem_cons, List.not_mem_nil, or_false, forall_eq_or_imp, forall_eq, cmpS_zero, cmpI_zero, h1, h2]
    exact ⟨fun ⟨x1, x2, x3, x4, x5, x6⟩ => Vl.ext' x1 x2 x3 x4 x5 x6, fun h => by rw [h]; exact ⟨rfl, rfl, rfl, rfl, rfl, rfl⟩⟩
theorem vEqual_eq (n : Nat) (a b : Vl) (h : a.size + 10 ≤ n) (hs : a.size ≤ 1000000000) : ∃ c, v_Equal_F n a b = some c ∧ (c = true ↔ a = b) := by
  obtain ⟨c, e, hc⟩ := vCompare_eq n a b h hs
  exact ⟨decide (c = 0), by rw [v_Equal_F, e]; rfl, by rw [decide_eq_true_eq]; exact hc⟩
theorem sEqual_eq : ∀ (n : Nat) (a b : Ty), a.size + 400 ≤ n → a.size ≤ 1000000000 → a.ok → ∃ c, s_Equal_F n a b = some c ∧ (c = true ↔ a = b)
  | 0, a, b, h, _, _ => by omega
  | n + 1, a, b, h, hs, ha => by
    have hl := a.lens
    have a1 := a.ok_eq.1 ha
    rw [s_Equal_F, s_Equal_B]
    by_cases hc : a.kind = b.kind ∧ a.min = b.min ∧ a.max = b.max ∧ a.scale = b.scale
    · obtain ⟨k1, k2, k3, k4⟩ := hc
      rw [if_pos (by rw [k1, k2, k3, k4]; simp)]
      obtain ⟨c, e, hc⟩ := es_eq n a.words b.words (by omega) (by omega)
      rw [e, Option.bind_some]
      cases c with
      | false => simp only [Bool.false_eq_true, if_false]; exact ⟨false, rfl, by simp only [Bool.false_eq_true, false_iff]; intro h; simpa using hc.2 (by rw [h])⟩
      | true =>
      obtain ⟨c2, e2, h2⟩ := efType_eq n a.elem b.elem (fun x y => s_Equal_F n x y) (by omega) (by omega) (fun p hp q _ => sEqual_eq n p q (by have := a.elem_size p hp; omega) (by have := a.elem_size p hp; omega) (a1.2.2.1 p hp))
      simp only [if_true, e2, Option.bind_some]
      cases c2 with
      | false => simp only [Bool.false_eq_true, if_false]; exact ⟨false, rfl, by simp only [Bool.false_eq_true, false_iff]; intro h; simpa using h2.2 (by rw [h])⟩
      | true =>
      obtain ⟨c3, e3, h3⟩ := efTypeField_eq n a.fields b.fields (fun x y => s_Equal_1_F (s_Equal_F n) n x y) (by omega) (by omega) (fun p hp q _ => by
        obtain ⟨_, o2, o3, o4⟩ := a1.2.2.2 p hp
        rw [s_Equal_1_F]
        by_cases hc : p.1 = q.1 ∧ p.2.1 = q.2.1 ∧ p.2.2.1 = q.2.2.1
        · obtain ⟨w1, w2, w3⟩ := hc
          rw [if_pos (by rw [w1, w2, w3, sEq_self]; simp)]
          obtain ⟨c, e, hc⟩ := sEqual_eq n p.2.2.2.1 q.2.2.2.1 (by have := a.field_size p hp; omega) (by have := a.field_size p hp; omega) o2
          rw [e, Option.bind_some]
          cases c with
          | false => simp only [Bool.false_eq_true, if_false]; exact ⟨false, rfl, by simp only [Bool.false_eq_true, false_iff]; intro h; simpa using hc.2 (by rw [h])⟩
          | true =>
          obtain ⟨c2, e2, h2⟩ := efValue_eq n p.2.2.2.2 q.2.2.2.2 (fun x y => v_Equal_F n x y) (by omega) (by omega) (fun v hv w _ => vEqual_eq n v w (by have := (o4 v hv).1; omega) (by have := (o4 v hv).1; omega))
          simp only [if_true, e2, Option.bind_some]
          exact ⟨c2, rfl, h2.trans ⟨fun h => TF.ext' w1 w2 w3 (hc.1 rfl) h, fun h => by rw [h]⟩⟩
        · rw [if_neg]
          · exact ⟨false, rfl, by simp only [Bool.false_eq_true, false_iff]; intro h; exact hc (by rw [h]; exact ⟨rfl, rfl, rfl⟩)⟩
          · simp only [Bool.and_eq_true, decide_eq_true_eq, sEq_iff]
            exact fun h => hc ⟨h.1.1, h.1.2, h.2⟩)
      simp only [if_true, e3, Option.bind_some]
      exact ⟨c3, rfl, h3.trans ⟨fun h => Ty.ext' k1 k2 k3 k4 (hc.1 rfl) (h2.1 rfl) h, fun h => by rw [h]⟩⟩
    · rw [if_neg]
      · exact ⟨false, rfl, by simp only [Bool.false_eq_true, false_iff]; intro h; exact hc (by rw [h]; exact ⟨rfl, rfl, rfl, rfl⟩)⟩
      · simp only [Bool.and_eq_true, decide_eq_true_eq]
        exact fun h => hc ⟨h.1.1.1, h.1.1.2, h.1.2, h.2⟩
end Go.Proofs.YtggimoedcamonaaGreatDoor
namespace Go.Proofs.YtggimoedcamonaaGreatDoor
open Go Go.RowKit Go.Ev
set_option maxRecDepth 100000 in
theorem known_n (m : Nat) : l6_known_F (m + 60) = some true := by kernel_rfl
theorem known_ge (n : Nat) (h : 60 ≤ n) : l6_known_F n = some true := by
  obtain ⟨m, rfl⟩ : ∃ m, n = m + 60 := ⟨n - 60, by omega⟩
  exact known_n m
end Go.Proofs.YtggimoedcamonaaGreatDoor
namespace Go.Proofs.YtggimoedcamonaaGreatDoor
open Go Go.RowKit Go.Ev
set_option linter.unusedVariables false
set_option linter.unusedSimpArgs false
theorem equals_plain (n : Nat) (hn : 100000 ≤ n) (s u : Sch) : l6_SchemaEquals_F n s u = some true := by
  have kn := known_ge n (by omega)
  rw [l6_SchemaEquals_F, kn]
  simp only [Option.bind_some, Bool.not_true, Bool.false_eq_true, if_false]
  obtain ⟨b, e, hb⟩ := Small_eq n (by omega) s.type
  rw [e]
  simp only [Option.bind_some]
  cases b with
  | false => rfl
  | true =>
  obtain ⟨b2, e2, hb2⟩ := Small_eq n (by omega) u.type
  simp only [Bool.not_true, Bool.false_eq_true, if_false]
  rw [e2]
  simp only [Option.bind_some]
  cases b2 with
  | false => rfl
  | true =>
  obtain ⟨z1, _, o1⟩ := hb rfl
  obtain ⟨z2, _, o2⟩ := hb2 rfl
  simp only [Bool.not_true, Bool.false_eq_true, if_false]
  obtain ⟨c, ec, hc⟩ := r6Equal_eq n s.type u.type (by omega) (by omega) o1 o2
  obtain ⟨d, ed, hd⟩ := sEqual_eq n s.type u.type (by omega) (by omega) o1
  obtain ⟨f, ef, hf⟩ := sEqual_eq n u.type s.type (by omega) (by omega) o2
  have hdc : d = c := by rw [Bool.eq_iff_iff, hd, hc]
  have hfc : f = c := by rw [Bool.eq_iff_iff, hf, hc]; exact eq_comm
  subst hdc
  subst hfc
  rw [ec, Option.bind_some, ed, Option.bind_some, ef]
  simp only [BEq.rfl, if_true, Option.bind_some]
  rw [s_EqualSchema_F, ed]
  cases h : sEq s.name u.name && decide (s.version = u.version) with
  | false =>
    simp only [Bool.false_eq_true, if_false, Option.bind_some, Option.some.injEq]
    rw [Bool.and_assoc, h, Bool.and_false]; rfl
  | true =>
    simp only [if_true, Option.bind_some, Option.some.injEq]
    rw [Bool.and_assoc, h, Bool.and_true]; exact beq_self_eq_true _
end Go.Proofs.YtggimoedcamonaaGreatDoor
namespace Go.Proofs.YtggimoedcamonaaGreatDoor
open Go Go.Shelf Go.ChangeShapes Go.WideShapes Go.ChangeAt Go.RowKit Go.Lib Go.Ev
set_option maxRecDepth 100000
set_option linter.unusedVariables false
set_option linter.unusedSimpArgs false
section
variable {H : Type} {enc : TypeId × Value → H} {W : World}
theorem td_sch : ∀ (n : Nat) (cs : List Value) (x : DataW H × List MemPlace), Td enc W n 60 cs = some x → ∃ s : Sch, s.wf ∧ RC W cs (.val (.string s.name) :: .val (.int .i64 s.version) :: s.type.cs)
  | 0, cs, x, h => by simp [Td, DataW.trod] at h
  | n + 1, cs, x, h => by
    obtain ⟨xs, n', hn, _, hl, hx, hf⟩ := DataW.trod_struct Tryz.underlying60 h
    cases hn
    have hl9 : cs.length = 9 := hl.trans (by kernel_rfl)
    have hx3 : xs.length = 3 := hx
    have f0 := hf 0 _ rfl; have f1 := hf 1 _ rfl; have f2 := hf 2 _ rfl
    rw [List.getElem?_eq_getElem (by omega)] at f0 f1 f2
    obtain ⟨nm, hnm, en⟩ := td_str f0
    obtain ⟨ve, hve, ev⟩ := td_int f1
    obtain ⟨t, ht, hR⟩ := td_typ n _ _ f2
    have e1 : Tryz.prog.cellsOf 3 = 1 := by kernel_rfl
    have e2 : Tryz.prog.cellsOf 26 = 7 := by kernel_rfl
    have e3 : Tryz.prog.cellsOf 9 = 1 := by kernel_rfl
    simp only [List.getElem_toArray, List.getElem_cons_zero, List.getElem_cons_succ, e1, e2, e3] at en ev hR
    match cs, hl9 with
    | [c0, c1, c2, c3, c4, c5, c6, c7, c8], _ =>
    simp only [List.drop_zero, List.take_succ_cons, List.take_zero, List.cons.injEq, and_true, List.drop_succ_cons] at en ev hR
    subst en ev
    exact ⟨⟨nm, ve, t⟩, ⟨hnm, hve, ht⟩, .cons (.flat (show flatV (.string nm) = true from decide_eq_true hnm)) (.cons (.flat rfl) hR)⟩
end
section
variable {H : Type} {enc : TypeId × Value → H} {W : World} {base : Nat} {v : Value} {d : DataW H} {p : List MemPlace}
theorem open_c (hv : Value.okWide Tryz.prog W .any base 60 v) (h : DataW.Trod enc Tryz.prog W 0 (fun _ => true) true 60 v d p) :
    ∃ s : Sch, s.wf ∧ R W Mem.start W v (.agg (.val (.string s.name) :: .val (.int .i64 s.version) :: s.type.cs)) := by
  obtain ⟨cs, rfl⟩ := agg_of Tryz.underlying60 hv
  obtain ⟨n, hn⟩ := h
  obtain ⟨t, h1, h2⟩ := td_sch n _ _ hn
  exact ⟨t, h1, by simpa [Value.cells] using h2.agg (fun x hx => by
    rcases List.mem_cons.1 hx with rfl | hx
    · rfl
    rcases List.mem_cons.1 hx with rfl | hx
    · rfl
    exact t.type.ones x hx)⟩
end
end Go.Proofs.YtggimoedcamonaaGreatDoor
namespace Go.Proofs.YtggimoedcamonaaGreatDoor
open Go Go.Shelf Go.ChangeShapes Go.WideShapes Go.ChangeAt Go.RowKit Go.Lib Go.Ev
abbrev schEqualsSpec : OpenSpec := OpenSpec.ofChange Rows.schemaEqualsSpec
theorem schEquals_witness (os : Os) {H : Type} (enc : TypeId × Value → H) :
    schEqualsSpec.preRow enc Tryz.prog Tryz.f12 Rows.schemaEqualsRow.domain false Rows.schemaEqualsRow.laid ((lawWorld os).forCall (fun _ _ => 0) ⟨#[], #[Value.agg #[Value.string ⟨#[]⟩, Value.int .i64 0, Value.int .i64 0, Value.int .i64 0, Value.int .i64 0, Value.int .i64 0, Value.slice none 0 0, Value.slice none 0 0, Value.slice none 0 0], Value.agg #[Value.string ⟨#[]⟩, Value.int .i64 0, Value.int .i64 0, Value.int .i64 0, Value.int .i64 0, Value.int .i64 0, Value.slice none 0 0, Value.slice none 0 0, Value.slice none 0 0]], []⟩).memory #[Value.agg #[Value.string ⟨#[]⟩, Value.int .i64 0, Value.int .i64 0, Value.int .i64 0, Value.int .i64 0, Value.int .i64 0, Value.slice none 0 0, Value.slice none 0 0, Value.slice none 0 0], Value.agg #[Value.string ⟨#[]⟩, Value.int .i64 0, Value.int .i64 0, Value.int .i64 0, Value.int .i64 0, Value.int .i64 0, Value.slice none 0 0, Value.slice none 0 0, Value.slice none 0 0]] := by
  have hw : (DataW.whole enc Tryz.prog ((lawWorld os).forCall (fun _ _ => 0) ⟨#[], #[Value.agg #[Value.string ⟨#[]⟩, Value.int .i64 0, Value.int .i64 0, Value.int .i64 0, Value.int .i64 0, Value.int .i64 0, Value.slice none 0 0, Value.slice none 0 0, Value.slice none 0 0], Value.agg #[Value.string ⟨#[]⟩, Value.int .i64 0, Value.int .i64 0, Value.int .i64 0, Value.int .i64 0, Value.int .i64 0, Value.slice none 0 0, Value.slice none 0 0, Value.slice none 0 0]], []⟩).memory Tryz.f12.params.toList schEqualsSpec.vars false (#[Value.agg #[Value.string ⟨#[]⟩, Value.int .i64 0, Value.int .i64 0, Value.int .i64 0, Value.int .i64 0, Value.int .i64 0, Value.slice none 0 0, Value.slice none 0 0, Value.slice none 0 0], Value.agg #[Value.string ⟨#[]⟩, Value.int .i64 0, Value.int .i64 0, Value.int .i64 0, Value.int .i64 0, Value.int .i64 0, Value.slice none 0 0, Value.slice none 0 0, Value.slice none 0 0]]).toList 8).map (fun x => (x.1, x.2.1)) =
      some ([.agg [.lit (.string []), .lit (.int .i64 0), .agg [.lit (.int .i64 0), .lit (.int .i64 0), .lit (.int .i64 0), .lit (.int .i64 0), .nil, .nil, .nil]], .agg [.lit (.string []), .lit (.int .i64 0), .agg [.lit (.int .i64 0), .lit (.int .i64 0), .lit (.int .i64 0), .lit (.int .i64 0), .nil, .nil, .nil]]], []) := by kernel_rfl
  obtain ⟨⟨x1, x2, x3⟩, hx, hx1⟩ := Option.map_eq_some_iff.1 hw
  simp only [Prod.mk.injEq] at hx1
  obtain ⟨rfl, rfl⟩ := hx1
  exact OpenSpec.preRow_of_cond 8 hx (by kernel_rfl) (fun k hk => by cases hk) (by kernel_rfl) (law_laid_met os _)
set_option maxRecDepth 100000 in
set_option maxHeartbeats 2000000 in
theorem schEquals_lifted (os : Os) (started : os.Started) (H : Type) (enc : TypeId × Value → H) (F : Stop.Interp) :
    ReturnsInHanded {} Tryz.checked os 12 .any (schEqualsSpec.preRow enc Tryz.prog Tryz.f12 Rows.schemaEqualsRow.domain false Rows.schemaEqualsRow.laid) ((schEqualsSpec.at F).post enc Tryz.prog Tryz.f12 false true false false) := by
  refine returnsInHanded_of_row (C := Tryz.checked) (s := schEqualsSpec) law_own started (by kernel_rfl) Tryz.func12
    (witness_row_atRef (enc := enc) (C := Tryz.checked) false (lawWorld os) #[Value.agg #[Value.string ⟨#[]⟩, Value.int .i64 0, Value.int .i64 0, Value.int .i64 0, Value.int .i64 0, Value.int .i64 0, Value.slice none 0 0, Value.slice none 0 0, Value.slice none 0 0], Value.agg #[Value.string ⟨#[]⟩, Value.int .i64 0, Value.int .i64 0, Value.int .i64 0, Value.int .i64 0, Value.int .i64 0, Value.slice none 0 0, Value.slice none 0 0, Value.slice none 0 0]] rfl (by kernel_rfl) (by kernel_rfl) (by kernel_rfl) (schEquals_witness os enc)) ?_
  intro W base args ds gs before hval0 hW _ _ _ hL _ _
  have hval : ∀ (j : Nat) t v, Tryz.f12.params[j]? = some t → args[j]? = some v → Value.okWide Tryz.prog W .any base t v := hval0
  have hW' := hW
  obtain ⟨p, q, hA0, hV0, rfl, _, _⟩ := hW
  have hA : DataW.TrodAll enc Tryz.prog W 0 (fun _ => true) true Tryz.f12.params.toList args.toList ds p := hA0
  rw [Tryz.params12] at hA hval
  obtain ⟨v0, v1, d0, d1, p0, p1, rfl, rfl, rfl, h0, h1⟩ := trodAll_two hA
  obtain ⟨rfl, rfl⟩ := trodVars_none hV0
  have hwt := hA.lt
  obtain ⟨x0, hx0, hR0⟩ := open_c (hval 0 _ v0 rfl rfl) h0
  obtain ⟨x1, hx1, hR1⟩ := open_c (hval 1 _ v1 rfl rfl) h1
  clear hA0 hV0 hval0
  obtain ⟨htab, hpow⟩ := law_tabs hL
  have hc := Ev.calls_of_acalls (l6_SchemaEquals_at W hpow htab 100000 [] [] [] x0 x1 true (equals_plain 100000 (by omega) x0 x1)) (rowR_two hR0 hR1)
  refine hc.mono ?_
  rintro e W' ⟨rfl, bel⟩
  have e1 : (schEqualsSpec.at F).fn H ([d0, d1] ++ []) = { results := [.lit (.bool true)], args := [d0, d1] } := rfl
  refine ⟨_, rfl, _, _, _, [], (p0 ++ p1), [], hW', ?_, ?_, ?_, bel.frame _, fun h => by cases h⟩
  · rw [e1]; exact trodAll_mk1 (shut_bool Tryz.underlying4 _)
  · rw [e1]; exact trodAll_mk2 (Below.trod (by kernel_rfl) (by kernel_rfl) (of_decide_eq_true (by kernel_rfl)) h0 bel (fun x hx => hwt x (by simp only [List.mem_append]; exact Or.inl hx))) (Below.trod (by kernel_rfl) (by kernel_rfl) (of_decide_eq_true (by kernel_rfl)) h1 bel (fun x hx => hwt x (by simp only [List.mem_append]; exact Or.inr hx)))
  · rw [e1]; rfl
theorem schEquals_holds : Rows.SchemaEqualsSaid :=
  OpenClaim.holds_of_cond 12 Tryz.f12 rfl rfl rfl rfl rfl rfl rfl ⟨rfl, rfl, rfl, rfl, rfl⟩ rfl rfl rfl rfl rfl (by kernel_rfl) Tryz.func12 (by kernel_rfl)
    (of_decide_eq_true (by kernel_rfl)) (by unfold Func.isWrapper; rw [if_neg (of_decide_eq_false (by kernel_rfl))]; exact ⟨rfl, rfl⟩)
    (fun os started H enc _ F0 => by rw [OpenClaim.pre_eq_preRow]; exact schEquals_lifted os started H enc F0)
end Go.Proofs.YtggimoedcamonaaGreatDoor
namespace Go.Proofs.YtggimoedcamonaaGreatDoor
open Go
theorem equals_card : Rows.SchemaEqualsCardSaid :=
  Claim7.holds_tied_plain_at .later [] [.data, .data, .data, .data, .pinned] true (true, "fcc1e7a57a9ce17606b8959cd2b5942f9c281f0752ea4614b237ba76011cbc81") false
    schEquals_holds (fun _ h => by cases h) (by kernel_rfl) (fun _ h => by cases h) schemaEquals_row_tie rfl ⟨rfl, rfl⟩ (by kernel_rfl) rfl
    (fun f fn hf hfn => by
      obtain rfl : f = 12 := Option.some.inj ((show Tryz.prog.funcNamed Rows.schemaEqualsRow.func = some 12 by kernel_rfl).symm.trans hf) |>.symm
      obtain rfl : fn = Tryz.f12 := (Option.some.inj (Tryz.func12.symm.trans hfn)).symm
      exact ⟨by kernel_rfl, fun j t ht => by
        rw [Tryz.params12] at ht
        have h3 : t = 60 := by
          rcases j with _ | _ | j
          · simpa using ht.symm
          · simpa using ht.symm
          · simp at ht
        rcases h3 with rfl
        · exact (show Tryz.prog.wantsStandIn 60 = false by kernel_rfl)⟩)
    (by kernel_rfl)
#print axioms equals_card
end Go.Proofs.YtggimoedcamonaaGreatDoor
