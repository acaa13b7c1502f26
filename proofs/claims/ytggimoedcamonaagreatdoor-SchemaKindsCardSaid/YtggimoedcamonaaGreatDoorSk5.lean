/-
  SchemaKinds: for any kind and any name the law of the package manifoldlaw06 answers true; whatever the input, no condition.
-/
import Derived.Carry
import Derived.ChangeOld
import Derived.ChangeSlices
import Derived.Deep.DeepHandedRow
import Derived.Deep.DeepWitnessRowRef
import Derived.Lib.LaidIn
import Derived.Lib.LaidU8T
import Derived.PinnedBridge
import Derived.ProofKit
import Derived.SevenTiedAt
import Derived.SizedLaws
import Derived.Test.YtggimoedcamonaaGreatDoorCards
import Derived.Test.YtggimoedcamonaaGreatDoorTie
import Derived.Test.YtggimoedcamonaaGreatDoorSk4
namespace Go.Proofs.YtggimoedcamonaaGreatDoor
open Go Go.RowKit Go.Ev
set_option linter.unusedSimpArgs false
set_option linter.unusedVariables false
def s_step_F (n : Nat) (a0 : Ty) (a1 : Part) : Option (Ty × Bool × Int) :=
  (idx ([0, 9, 8, 8, 10]) a1.kind).bind fun x3 =>
  if !(decide (a0.kind = x3)) then
    some ((Ty.mk 0 0 0 0 ([]) ([]) ([]), false, 11))
  else
    if decide (a1.kind = 3) then
      (idx a0.elem 0).bind fun x13 =>
      some ((x13, decide (a0.min = 0), 0))
    else
      if decide (a1.kind = 2) then
        if decide (a0.max ≤ a1.index) then
          some ((Ty.mk 0 0 0 0 ([]) ([]) ([]), false, 2))
        else
          (idx a0.elem 0).bind fun x21 =>
          some ((x21, decide (a0.min ≤ a1.index), 0))
      else
        (s_Field_F n a0 a1.name).bind fun y23 =>
        if !y23.2 then
          some ((Ty.mk 0 0 0 0 ([]) ([]) ([]), false, 21))
        else
          if decide (a1.kind = 4) then
            some ((y23.1.2.2.2.1, decide (1 < ((a0.fields.length : Int))), 0))
          else
            some ((y23.1.2.2.2.1, decide (y23.1.2.2.1 = 2), 0))
set_option maxRecDepth 100000 in
set_option maxHeartbeats 4000000 in
theorem s_step_at (w0 : World) (n : Nat) (B : List (List AV)) (Rw : List RowA) (L : List LoopA) (a0 : Ty) (a1 : Part) (r : Ty × Bool × Int) (h : s_step_F n a0 a1 = some r) :
    ACalls Tryz.prog w0 65 [.agg (a0.cs), .agg (.val (.int .i64 a1.kind) :: (.val (.int .i64 a1.index) :: ([.val (.string a1.name)])))] ⟨B, Rw, L⟩ fun x st => x = .tup [.agg (r.1.cs), .val (.bool r.2.1), .val (.int .i64 r.2.2)] ∧ st = ⟨B, Rw, L⟩ := by
  rw [s_step_F] at h
  refine ACalls.finP (acalls_of (rs := [.cell 4 26, .tmp 5, .tmp 6]) Tryz.func65 rfl rfl Tryz.ntmps65 (enters_some Tryz.func65 rfl (by decide)) (Nat.le_of_ble_eq_true rfl) ?_)
  intro M0 W0 hN hNR hNL hcalm hu
  dsimp only at hN hNR hNL hcalm hu
  simp only [argsE]
  have hO := Owns.none Rw
  have hs := fact0
  refine rg [2, 3, 4] hs ?_
  apply awp_seq; intro K2 hK2
  obtain ⟨x3, hx3, h⟩ := bind_some h
  obtain ⟨hx3a, hx3b, hx3c⟩ := idx_some hx3
  have hx3d := getD_map (f := avI) hx3c
  simp only [List.map_cons, List.map_nil, avI_eq] at hx3d
  have hx3n : ([0, 9, 8, 8, 10]).length = 5 := rfl
  first | rw [hx3n] at hx3b | simp only [List.length_cons, List.length_nil, Nat.reduceAdd, Nat.zero_add] at hx3b
  apply awp_region 1 [2, 3, 4, 7]
  rw [evK_succ]; simp +decide only [go_sem, Nat.reduceAdd, hx3d, fillA, fillOk, placeT, List.getElem?_cons_zero, List.getElem?_cons_succ, List.nil_append, List.cons_append, Nat.mul_one]
  (repeat' apply And.intro) <;> first | refine hK2 _ _ ?_ | exact cl
  clear hK2
  apply awp_seq; intro K4 hK4
  have hs := And.intro hx3d hs
  refine rg [2, 3, 4, 17] hs ?_
  refine cnd h hs (fun hs h => ?_) (fun hs h => ?_)
  · skip
    have hb6 := hs.1
    apply awp_seq; intro K7 hK7
    apply awp_region 1 [4, 5, 6]
    rw [evK_succ]; simp +decide only [go_sem, Nat.reduceAdd, hx3d, hb6, fillA, fillOk, placeT]
    (repeat' apply And.intro) <;> first | refine hK7 _ _ ?_ | exact cl
    clear hK7
    exact rt h hs hcalm hO
  have hb6 := hs.1
  refine sk [2, 3, 4] hs hK4 ?_
  clear hK4
  apply awp_seq; intro K8 hK8
  refine rg [2, 3, 4, 20] hs ?_
  apply awp_block
  refine rg [2, 3, 4, 20, 21] hs ?_
  refine cnd h hs (fun hs h => ?_) (fun hs h => ?_)
  · skip
    have hb11 := hs.1
    apply awp_seq; intro K12 hK12
    obtain ⟨x13, hx13, h⟩ := bind_some h
    obtain ⟨hx13a, hx13b, hx13c⟩ := idx_some hx13
    have hx13d := getD_map (f := avT) hx13c
    have hx13e : (a0.elem.map avT).getD 0 .junk = _ := hx13d
    apply awp_any mix [7] [4, 5, 6] (by kernel_rfl) (fun s => ∃ (X : List (List AV)) (rows : List RowA) (c2 : List AV), s = ⟨B ++ ([a0.cs, .val (.int .i64 a1.kind) :: (.val (.int .i64 a1.index) :: ([.val (.string a1.name)])), c2] ++ X), rows, L⟩) 2 (B.length + 3)
    · simp +decide only [go_sem, Nat.reduceAdd]
    · rintro s ⟨X, rows, c2, rfl⟩
      refine ⟨1, ?_⟩
      rw [evK_succ]; simp +decide only [go_sem, Nat.reduceAdd, skipE, hx3d, hb6, hb11, hx13d, hx13e]
      (repeat' apply And.intro) <;> first | rfl | exact cl
    · skip
      refine Good.mk [7] (by kernel_rfl) ⟨[], _, _, by first | rfl | simp only [List.append_nil, List.nil_append]⟩ ?_ ?_
      · intro h; exact absurd h (by decide)
      · intro i hi; simp only [List.mem_cons, List.not_mem_nil, or_false] at hi
        subst hi
        · apply good_step rfl rfl ev
          · simp +decide only [go_sem, Nat.reduceAdd, StepOk, hx3d, hb6, hb11, hx13d, hx13e]
            (repeat' apply And.intro) <;> first | rfl | exact cl
          · simp +decide only [go_sem, Nat.reduceAdd, hx3d, hb6, hb11, hx13d, hx13e]
            refine Good.mk [] (by kernel_rfl) ⟨[], _, _, by first | rfl | simp only [List.append_nil, List.nil_append]⟩ ?_ ?_
            · intro _; apply conv_keep [4, 5, 6]; first | (simp +decide only [go_sem, Nat.reduceAdd, hx3d, hb6, hb11, hx13d, hx13e]; done) | (simp +decide only [go_sem, Nat.reduceAdd, hx3d, hb6, hb11, hx13d, hx13e]; rfl)
            · intro i hi; cases hi
    simp +decide only [go_sem, Nat.reduceAdd, hx3d, hb6, hb11, hx13d, hx13e]
    (repeat' apply And.intro) <;> first | refine hK12 _ _ ?_ | exact cl
    clear hK12
    have hs := And.intro hx13d hs
    have hs := And.intro hx13e hs
    exact rt h hs hcalm hO
  have hb11 := hs.1
  refine rg [2, 3, 4, 30] hs ?_
  refine cnd h hs (fun hs h => ?_) (fun hs h => ?_)
  · skip
    have hb15 := hs.1
    apply awp_seq; intro K16 hK16
    refine rg [2, 3, 4, 36] hs ?_
    refine cnd h hs (fun hs h => ?_) (fun hs h => ?_)
    · skip
      have hb18 := hs.1
      apply awp_seq; intro K19 hK19
      apply awp_region 1 [4, 5, 6]
      rw [evK_succ]; simp +decide only [go_sem, Nat.reduceAdd, hx3d, hb6, hb11, hb15, hb18, fillA, fillOk, placeT]
      (repeat' apply And.intro) <;> first | refine hK19 _ _ ?_ | exact cl
      clear hK19
      exact rt h hs hcalm hO
    have hb18 := hs.1
    refine sk [2, 3, 4] hs hK16 ?_
    clear hK16
    apply awp_seq; intro K20 hK20
    obtain ⟨x21, hx21, h⟩ := bind_some h
    obtain ⟨hx21a, hx21b, hx21c⟩ := idx_some hx21
    have hx21d := getD_map (f := avT) hx21c
    have hx21e : (a0.elem.map avT).getD 0 .junk = _ := hx21d
    apply awp_any mix [9] [4, 5, 6] (by kernel_rfl) (fun s => ∃ (X : List (List AV)) (rows : List RowA) (c2 : List AV), s = ⟨B ++ ([a0.cs, .val (.int .i64 a1.kind) :: (.val (.int .i64 a1.index) :: ([.val (.string a1.name)])), c2] ++ X), rows, L⟩) 2 (B.length + 3)
    · simp +decide only [go_sem, Nat.reduceAdd]
    · rintro s ⟨X, rows, c2, rfl⟩
      refine ⟨1, ?_⟩
      rw [evK_succ]; simp +decide only [go_sem, Nat.reduceAdd, skipE, hx3d, hb6, hb11, hb15, hb18, hx21d, hx21e]
      (repeat' apply And.intro) <;> first | rfl | exact cl
    · skip
      refine Good.mk [9] (by kernel_rfl) ⟨[], _, _, by first | rfl | simp only [List.append_nil, List.nil_append]⟩ ?_ ?_
      · intro h; exact absurd h (by decide)
      · intro i hi; simp only [List.mem_cons, List.not_mem_nil, or_false] at hi
        subst hi
        · apply good_step rfl rfl ev
          · simp +decide only [go_sem, Nat.reduceAdd, StepOk, hx3d, hb6, hb11, hb15, hb18, hx21d, hx21e]
            (repeat' apply And.intro) <;> first | rfl | exact cl
          · simp +decide only [go_sem, Nat.reduceAdd, hx3d, hb6, hb11, hb15, hb18, hx21d, hx21e]
            refine Good.mk [] (by kernel_rfl) ⟨[], _, _, by first | rfl | simp only [List.append_nil, List.nil_append]⟩ ?_ ?_
            · intro _; apply conv_keep [4, 5, 6]; first | (simp +decide only [go_sem, Nat.reduceAdd, hx3d, hb6, hb11, hb15, hb18, hx21d, hx21e]; done) | (simp +decide only [go_sem, Nat.reduceAdd, hx3d, hb6, hb11, hb15, hb18, hx21d, hx21e]; rfl)
            · intro i hi; cases hi
    simp +decide only [go_sem, Nat.reduceAdd, hx3d, hb6, hb11, hb15, hb18, hx21d, hx21e]
    (repeat' apply And.intro) <;> first | refine hK20 _ _ ?_ | exact cl
    clear hK20
    have hs := And.intro hx21d hs
    have hs := And.intro hx21e hs
    exact rt h hs hcalm hO
  have hb15 := hs.1
  refine sk [2, 3, 4] hs hK8 ?_
  clear hK8
  obtain ⟨y23, hy23, h⟩ := bind_some h
  refine rc 2 [2, 3, 4, 8, 9] hs ?_; intro K22 hK22
  refine callK_p _ (s_Field_at w0 n _ _ _ a0 a1.name _ hy23) (hv hs) ?_
  refine ne hs hK22 ?_
  clear hK22
  apply awp_seq; intro K24 hK24
  refine rg [2, 3, 4, 8, 55] hs ?_
  refine cnd h hs (fun hs h => ?_) (fun hs h => ?_)
  · skip
    have hb26 := hs.1
    apply awp_seq; intro K27 hK27
    apply awp_region 1 [4, 5, 6]
    rw [evK_succ]; simp +decide only [go_sem, Nat.reduceAdd, hx3d, hb6, hb11, hb15, hb26, fillA, fillOk, placeT]
    (repeat' apply And.intro) <;> first | refine hK27 _ _ ?_ | exact cl
    clear hK27
    exact rt h hs hcalm hO
  have hb26 := hs.1
  refine sk [2, 3, 4, 8] hs hK24 ?_
  clear hK24
  apply awp_seq; intro K28 hK28
  refine rg [2, 4, 8, 59] hs ?_
  refine cnd h hs (fun hs h => ?_) (fun hs h => ?_)
  · skip
    have hb30 := hs.1
    apply awp_seq; intro K31 hK31
    apply awp_any mix [6] [4, 5, 6] (by kernel_rfl) (fun s => ∃ (X : List (List AV)) (rows : List RowA) (c2 : List AV), s = ⟨B ++ ([a0.cs, .val (.int .i64 a1.kind) :: (.val (.int .i64 a1.index) :: ([.val (.string a1.name)])), c2, .val (.int .i64 y23.1.1) :: (.val (.string y23.1.2.1) :: (.val (.int .i64 y23.1.2.2.1) :: ((y23.1.2.2.2.1.cs) ++ ([.list (y23.1.2.2.2.2.map avV) .none]))))] ++ X), rows, L⟩) 2 (B.length + 4)
    · simp +decide only [go_sem, Nat.reduceAdd]
    · rintro s ⟨X, rows, c2, rfl⟩
      refine ⟨1, ?_⟩
      rw [evK_succ]; simp +decide only [go_sem, Nat.reduceAdd, skipE, hx3d, hb6, hb11, hb15, hb26, hb30]
      (repeat' apply And.intro) <;> first | rfl | exact cl
    · skip
      refine Good.mk [6] (by kernel_rfl) ⟨[], _, _, by first | rfl | simp only [List.append_nil, List.nil_append]⟩ ?_ ?_
      · intro h; exact absurd h (by decide)
      · intro i hi; simp only [List.mem_cons, List.not_mem_nil, or_false] at hi
        subst hi
        · apply good_step rfl rfl ev
          · simp +decide only [go_sem, Nat.reduceAdd, StepOk, hx3d, hb6, hb11, hb15, hb26, hb30]
            (repeat' apply And.intro) <;> first | rfl | exact cl
          · simp +decide only [go_sem, Nat.reduceAdd, hx3d, hb6, hb11, hb15, hb26, hb30]
            refine Good.mk [] (by kernel_rfl) ⟨[], _, _, by first | rfl | simp only [List.append_nil, List.nil_append]⟩ ?_ ?_
            · intro _; apply conv_keep [4, 5, 6]; first | (simp +decide only [go_sem, Nat.reduceAdd, hx3d, hb6, hb11, hb15, hb26, hb30]; done) | (simp +decide only [go_sem, Nat.reduceAdd, hx3d, hb6, hb11, hb15, hb26, hb30]; rfl)
            · intro i hi; cases hi
    simp +decide only [go_sem, Nat.reduceAdd, hx3d, hb6, hb11, hb15, hb26, hb30]
    (repeat' apply And.intro) <;> first | refine hK31 _ _ ?_ | exact cl
    clear hK31
    exact rt h hs hcalm hO
  have hb30 := hs.1
  refine sk [4, 8] hs hK28 ?_
  clear hK28
  apply awp_seq; intro K32 hK32
  apply awp_any mix [5] [4, 5, 6] (by kernel_rfl) (fun s => ∃ (X : List (List AV)) (rows : List RowA) (c2 : List AV), s = ⟨B ++ ([a0.cs, .val (.int .i64 a1.kind) :: (.val (.int .i64 a1.index) :: ([.val (.string a1.name)])), c2, .val (.int .i64 y23.1.1) :: (.val (.string y23.1.2.1) :: (.val (.int .i64 y23.1.2.2.1) :: ((y23.1.2.2.2.1.cs) ++ ([.list (y23.1.2.2.2.2.map avV) .none]))))] ++ X), rows, L⟩) 2 (B.length + 4)
  · simp +decide only [go_sem, Nat.reduceAdd]
  · rintro s ⟨X, rows, c2, rfl⟩
    refine ⟨1, ?_⟩
    rw [evK_succ]; simp +decide only [go_sem, Nat.reduceAdd, skipE, hx3d, hb6, hb11, hb15, hb26, hb30]
    (repeat' apply And.intro) <;> first | rfl | exact cl
  · skip
    refine Good.mk [5] (by kernel_rfl) ⟨[], _, _, by first | rfl | simp only [List.append_nil, List.nil_append]⟩ ?_ ?_
    · intro h; exact absurd h (by decide)
    · intro i hi; simp only [List.mem_cons, List.not_mem_nil, or_false] at hi
      subst hi
      · apply good_step rfl rfl ev
        · simp +decide only [go_sem, Nat.reduceAdd, StepOk, hx3d, hb6, hb11, hb15, hb26, hb30]
          (repeat' apply And.intro) <;> first | rfl | exact cl
        · simp +decide only [go_sem, Nat.reduceAdd, hx3d, hb6, hb11, hb15, hb26, hb30]
          refine Good.mk [] (by kernel_rfl) ⟨[], _, _, by first | rfl | simp only [List.append_nil, List.nil_append]⟩ ?_ ?_
          · intro _; apply conv_keep [4, 5, 6]; first | (simp +decide only [go_sem, Nat.reduceAdd, hx3d, hb6, hb11, hb15, hb26, hb30]; done) | (simp +decide only [go_sem, Nat.reduceAdd, hx3d, hb6, hb11, hb15, hb26, hb30]; rfl)
          · intro i hi; cases hi
  simp +decide only [go_sem, Nat.reduceAdd, hx3d, hb6, hb11, hb15, hb26, hb30]
  (repeat' apply And.intro) <;> first | refine hK32 _ _ ?_ | exact cl
  clear hK32
  exact rt h hs hcalm hO
end Go.Proofs.YtggimoedcamonaaGreatDoor
namespace Go.Proofs.YtggimoedcamonaaGreatDoor
open Go Go.RowKit Go.Ev
set_option linter.unusedSimpArgs false
set_option linter.unusedVariables false
def s_At_k16 (n : Nat)  (x5_k16 : Bool) (b1_k16 : Ty) : Option (Ty × Bool × Int) :=
  (s_Clone_F n b1_k16).bind fun y34 =>
  some ((y34, x5_k16, 0))
def s_At_l19 (n : Nat) (a1 : List Part) : Nat → Bool → Int → Ty → Option (Ty × Bool × Int)
  | 0, _, _, _ => none
  | m + 1, x5_l19, x29_l19, b1_l19 =>
    if decide (x29_l19 < ((a1.length : Int))) then
      (idx a1 x29_l19).bind fun x25 =>
      (s_step_F n b1_l19 x25).bind fun y27 =>
      if !(decide (y27.2.2 = 0)) then
        some ((Ty.mk 0 0 0 0 ([]) ([]) ([]), false, y27.2.2))
      else
        if I64 (x29_l19 + 1) then
          (s_At_l19 n a1 m) (x5_l19 || y27.2.1) (x29_l19 + 1) y27.1
        else none
    else
      s_At_k16 n x5_l19 b1_l19
def s_At_F (n : Nat) (a0 : Ty) (a1 : List Part) : Option (Ty × Bool × Int) :=
  (s_Check_F n a0).bind fun y4 =>
  if !(decide (y4 = 0)) then
    some ((Ty.mk 0 0 0 0 ([]) ([]) ([]), false, y4))
  else
    (p_Check_F n a1).bind fun y10 =>
    if !(decide (y10 = 0)) then
      some ((Ty.mk 0 0 0 0 ([]) ([]) ([]), false, y10))
    else
      s_At_l19 n a1 n false 0 a0
set_option maxRecDepth 100000 in
set_option maxHeartbeats 4000000 in
theorem s_At_at (w0 : World) (hP : Pow10 w0) (hT : Lib.Utf8Tabs 0 1 w0) (n : Nat) (B : List (List AV)) (Rw : List RowA) (L : List LoopA) (a0 : Ty) (a1 : List Part) (r : Ty × Bool × Int) (h : s_At_F n a0 a1 = some r) :
    ACalls Tryz.prog w0 26 [.agg (a0.cs), .list (a1.map avPt) .none] ⟨B, Rw, L⟩ fun x st => x = .tup [.agg (r.1.cs), .val (.bool r.2.1), .val (.int .i64 r.2.2)] ∧ st = ⟨B, Rw, L⟩ := by
  rw [s_At_F] at h
  refine ACalls.finP (acalls_of (rs := [.cell 4 26, .tmp 5, .tmp 6]) Tryz.func26 rfl rfl Tryz.ntmps26 (enters_some Tryz.func26 rfl (by decide)) (Nat.le_of_ble_eq_true rfl) ?_)
  intro M0 W0 hN hNR hNL hcalm hu
  dsimp only at hN hNR hNL hcalm hu
  simp only [argsE]
  have hO := Owns.none Rw
  have hs := fact0
  refine rg [1, 2, 4, 5] hs ?_
  apply awp_seq; intro K2 hK2
  obtain ⟨y4, hy4, h⟩ := bind_some h
  refine rc 2 [1, 2, 4, 5, 7] hs ?_; intro K3 hK3
  refine callK_p _ (s_Check_at w0 hT n _ _ _ a0 _ hy4) (hv hs) ?_
  refine ne hs hK3 ?_
  clear hK3
  refine rg [1, 2, 4, 5, 7, 17] hs ?_
  refine cnd h hs (fun hs h => ?_) (fun hs h => ?_)
  · skip
    have hb6 := hs.1
    apply awp_seq; intro K7 hK7
    apply awp_region 1 [4, 5, 6]
    rw [evK_succ]; simp +decide only [go_sem, Nat.reduceAdd, hb6, fillA, fillOk, placeT]
    (repeat' apply And.intro) <;> first | refine hK7 _ _ ?_ | exact cl
    clear hK7
    exact rt h hs hcalm hO
  have hb6 := hs.1
  refine sk [1, 2, 4, 5] hs hK2 ?_
  clear hK2
  apply awp_seq; intro K8 hK8
  obtain ⟨y10, hy10, h⟩ := bind_some h
  refine rc 2 [1, 2, 4, 5, 8] hs ?_; intro K9 hK9
  refine callK_p _ (p_Check_at w0 hP n _ _ _ a1 _ hy10) (hv hs) ?_
  refine ne hs hK9 ?_
  clear hK9
  refine rg [1, 2, 4, 5, 8, 23] hs ?_
  refine cnd h hs (fun hs h => ?_) (fun hs h => ?_)
  · skip
    have hb12 := hs.1
    apply awp_seq; intro K13 hK13
    apply awp_region 1 [4, 5, 6]
    rw [evK_succ]; simp +decide only [go_sem, Nat.reduceAdd, hb6, hb12, fillA, fillOk, placeT]
    (repeat' apply And.intro) <;> first | refine hK13 _ _ ?_ | exact cl
    clear hK13
    exact rt h hs hcalm hO
  have hb12 := hs.1
  refine sk [1, 2, 4, 5] hs hK8 ?_
  clear hK8
  refine rg [1, 4, 5] hs ?_
  refine awp_mid (fun e st => ∃ (x5_k16 : Bool) (b1_k16 : Ty) (cb1_k16 : List AV) (X_k16 : List (List AV)) (rows_k16 : List RowA), e = [(4, true, .box (B.length + 1) 0), (5, true, .val (.bool x5_k16))] ∧ st = ⟨B ++ ([a0.cs, cb1_k16] ++ X_k16), rows_k16, L⟩ ∧ Owns Rw rows_k16 [] ∧ cb1_k16.map AV.pubCell = b1_k16.cs ∧ s_At_k16 n x5_k16 b1_k16 = some r) ?_ ?_
  · intro K17 hK17
    refine rg [4, 5, 27, 28, 29] hs ?_
    apply awp_block
    refine awp_loop (fun m e st => ∃ (x5_l19 : Bool) (x29_l19 : Int) (b1_l19 : Ty) (cb1_l19 : List AV) (X_l19 : List (List AV)) (rows_l19 : List RowA), e = [(4, true, .box (B.length + 1) 0), (5, true, .val (.bool x5_l19)), (27, true, .list (a1.map avPt) .none), (28, true, .val (.int .i64 ((a1.length : Int)))), (29, true, .val (.int .i64 x29_l19))] ∧ st = ⟨B ++ ([a0.cs, cb1_l19] ++ X_l19), rows_l19, L⟩ ∧ Owns Rw rows_l19 [] ∧ cb1_l19.map AV.pubCell = b1_l19.cs ∧ s_At_l19 n a1 m x5_l19 x29_l19 b1_l19 = some r) n ⟨false, 0, a0, _, ([]), Rw, ef hs, ef hs, hO, ef hs, h⟩ ?_
    rintro m_l19 e st ⟨x5_l19, x29_l19, b1_l19, cb1_l19, X_l19, rows_l19, rfl, rfl, hO, hr0, h⟩ KR_l19 hKR_l19
    cases m_l19 with
    | zero => cases h
    | succ m_l19 =>
    rw [s_At_l19] at h
    refine awp_pub_cells (B.length + 1) (by first | rfl | (simp only [box_own, box_own0, box_sown, box_sown0]; rfl)) hr0 ?_; simp +decide only [go_sem, Nat.reduceAdd]
    show awp _ _ _ _ _ _ _ _ [(4, true, .box (B.length + 1) 0), (5, true, .val (.bool x5_l19)), (27, true, .list (a1.map avPt) .none), (28, true, .val (.int .i64 ((a1.length : Int)))), (29, true, .val (.int .i64 x29_l19))] ⟨B ++ ([a0.cs, b1_l19.cs] ++ X_l19), rows_l19, L⟩
    refine td hN hNR hNL hcalm hO ?_
    refine rg [4, 5, 27, 28, 29, 30] hs ?_
    apply awp_seq; intro K21 hK21
    refine cnd h hs (fun hs h => ?_) (fun hs h => ?_)
    rotate_left
    · skip
      have hb22 := hs.1
      refine sx [4, 5] hs hK17 ?_
      exact ⟨x5_l19, b1_l19, _, ([]), rows_l19, ef hs, ef hs, hO, ef hs, h⟩
    have hb22 := hs.1
    refine sk [4, 5, 27, 28, 29] hs hK21 ?_
    clear hK21
    apply awp_seq; intro K23 hK23
    apply awp_block
    obtain ⟨x25, hx25, h⟩ := bind_some h
    obtain ⟨hx25a, hx25b, hx25c⟩ := idx_some hx25
    have hx25d := getD_map (f := avPt) hx25c
    have hs := And.intro hx25d hs
    refine rg [4, 5, 10, 27, 28, 29] hs ?_
    obtain ⟨y27, hy27, h⟩ := bind_some h
    refine rc 2 [4, 5, 11, 12, 13, 27, 28, 29] hs ?_; intro K26 hK26
    refine callK_p _ (s_step_at w0 n _ _ _ b1_l19 x25 _ hy27) (hv hs) ?_
    refine ne hs hK26 ?_
    clear hK26
    apply awp_seq; intro K28 hK28
    refine rg [4, 5, 11, 12, 13, 27, 28, 29, 41] hs ?_
    refine cnd h hs (fun hs h => ?_) (fun hs h => ?_)
    · skip
      have hb30 := hs.1
      apply awp_seq; intro K31 hK31
      apply awp_region 1 [4, 5, 6]
      rw [evK_succ]; simp +decide only [go_sem, Nat.reduceAdd, hb6, hb12, hb22, hx25d, hb30, fillA, fillOk, placeT]
      (repeat' apply And.intro) <;> first | refine hK31 _ _ ?_ | exact cl
      clear hK31
      exact rt h hs hcalm hO
    have hb30 := hs.1
    refine sk [4, 5, 11, 12, 27, 28, 29] hs hK28 ?_
    clear hK28
    apply awp_region 1 [4, 5, 27, 28, 29]
    rw [evK_succ]; simp +decide only [go_sem, Nat.reduceAdd, hb6, hb12, hb22, hx25d, hb30]
    (repeat' apply And.intro) <;> first | refine hK23 _ _ ?_ | exact cl
    clear hK23
    obtain ⟨hg32, h⟩ := guard_some h
    apply awp_region 1 [4, 5, 27, 28, 29]
    rw [evK_succ]; simp +decide only [go_sem, Nat.reduceAdd, hb6, hb12, hb22, hx25d, hb30]
    (repeat' apply And.intro) <;> first | refine hKR_l19 m_l19 _ _ (Nat.lt_succ_self m_l19) ⟨(x5_l19 || y27.2.1), (x29_l19 + 1), y27.1, _, ([.val (.int .i64 x25.kind) :: (.val (.int .i64 x25.index) :: ([.val (.string x25.name)])), y27.1.cs]), rows_l19, ef hs, ef hs, hO, ef hs, h⟩ | exact cl
  · clear h; rintro e st ⟨x5_k16, b1_k16, cb1_k16, X_k16, rows_k16, rfl, rfl, hO, hr0, h⟩
    rw [s_At_k16] at h
    refine awp_pub_cells (B.length + 1) (by first | rfl | (simp only [box_own, box_own0, box_sown, box_sown0]; rfl)) hr0 ?_; simp +decide only [go_sem, Nat.reduceAdd]
    show awp _ _ _ _ _ _ _ _ [(4, true, .box (B.length + 1) 0), (5, true, .val (.bool x5_k16))] ⟨B ++ ([a0.cs, b1_k16.cs] ++ X_k16), rows_k16, L⟩
    refine td hN hNR hNL hcalm hO ?_
    obtain ⟨y34, hy34, h⟩ := bind_some h
    refine rc 2 [4, 5, 6] hs ?_; intro K33 hK33
    refine callK_p _ (s_Clone_at w0 n _ _ _ b1_k16 _ hy34) (hv hs) ?_
    refine ne hs hK33 ?_
    clear hK33
    exact rt h hs hcalm hO
end Go.Proofs.YtggimoedcamonaaGreatDoor
namespace Go.Proofs.YtggimoedcamonaaGreatDoor
open Go Go.RowKit Go.Ev
set_option linter.unusedSimpArgs false
set_option linter.unusedVariables false
def v_Bytes_F (a0 : ByteArray) : Vl :=
  Vl.mk 5 0 0 a0 ([]) ([])
set_option maxRecDepth 100000 in
set_option maxHeartbeats 4000000 in
theorem v_Bytes_at (w0 : World) (B : List (List AV)) (Rw : List RowA) (L : List LoopA) (a0 : ByteArray) (r : Vl) (h : v_Bytes_F a0 = r) :
    ACalls Tryz.prog w0 107 [.val (.string a0)] ⟨B, Rw, L⟩ fun x st => x = .agg (r.cs) ∧ st = ⟨B, Rw, L⟩ := by
  rw [v_Bytes_F] at h
  refine ACalls.finP (acalls_of (rs := [.cell 2 34]) Tryz.func107 rfl rfl Tryz.ntmps107 (enters_some Tryz.func107 rfl (by decide)) (Nat.le_of_ble_eq_true rfl) ?_)
  intro M0 W0 hN hNR hNL hcalm hu
  dsimp only at hN hNR hNL hcalm hu
  simp only [argsE]
  have hO := Owns.none Rw
  have hs := fact0
  refine rg [0, 2] hs ?_
  apply awp_seq; intro K2 hK2
  apply awp_region 1 [2]
  rw [evK_succ]; simp +decide only [go_sem, Nat.reduceAdd, fillA, fillOk, placeT]
  (repeat' apply And.intro) <;> first | refine hK2 _ _ ?_ | exact cl
  clear hK2
  apply awp_ret; simp +decide only [go_sem, Nat.reduceAdd]
  subst h
  first | refine fin_q0 hcalm rfl hO.pre ev ⟨?_, rfl⟩ | refine fin_q hcalm rfl hO.pre ev ⟨?_, rfl⟩
  first | rfl | (simp +decide only [go_sem, Nat.reduceAdd]; done) | (simp +decide only [go_sem, Nat.reduceAdd, Vl.cs, Ty.cs]; done)
theorem v_Bytes_at' (w0 : World) (B : List (List AV)) (Rw : List RowA) (L : List LoopA) (a0 : ByteArray) :
    ACalls Tryz.prog w0 107 [.val (.string a0)] ⟨B, Rw, L⟩ fun x st => x = .agg ((v_Bytes_F a0).cs) ∧ st = ⟨B, Rw, L⟩ := v_Bytes_at w0 B Rw L a0 _ rfl
end Go.Proofs.YtggimoedcamonaaGreatDoor
namespace Go.Proofs.YtggimoedcamonaaGreatDoor
open Go Go.RowKit Go.Ev
set_option linter.unusedSimpArgs false
set_option linter.unusedVariables false
def v_List_F (n : Nat) (a0 : List Vl) : Option Vl :=
  (v_Clone_F n (Vl.mk 8 0 0 ((⟨#[]⟩ : ByteArray)) a0 ([]))).bind fun y3 =>
  some (y3)
set_option maxRecDepth 100000 in
set_option maxHeartbeats 4000000 in
theorem v_List_at (w0 : World) (n : Nat) (B : List (List AV)) (Rw : List RowA) (L : List LoopA) (a0 : List Vl) (r : Vl) (h : v_List_F n a0 = some r) :
    ACalls Tryz.prog w0 108 [.list (a0.map avV) .none] ⟨B, Rw, L⟩ fun x st => x = .agg (r.cs) ∧ st = ⟨B, Rw, L⟩ := by
  rw [v_List_F] at h
  refine ACalls.finP (acalls_of (rs := [.cell 2 34]) Tryz.func108 rfl rfl Tryz.ntmps108 (enters_some Tryz.func108 rfl (by decide)) (Nat.le_of_ble_eq_true rfl) ?_)
  intro M0 W0 hN hNR hNL hcalm hu
  dsimp only at hN hNR hNL hcalm hu
  simp only [argsE]
  have hO := Owns.none Rw
  have hs := fact0
  refine rg [0, 2] hs ?_
  apply awp_seq; intro K2 hK2
  obtain ⟨y3, hy3, h⟩ := bind_some h
  apply awp_region 2 [2]
  rw [evK_succ]; simp +decide only [go_sem, Nat.reduceAdd, fillA, fillOk, placeT]
  (repeat' apply And.intro) <;> first | refine callK_p _ (v_Clone_at w0 n _ _ _ (Vl.mk 8 0 0 ((⟨#[]⟩ : ByteArray)) a0 ([])) _ hy3) (by first | rfl | (simp +decide only [go_sem, Nat.reduceAdd, fillA, fillOk, placeT]; done) | (simp +decide only [go_sem, Nat.reduceAdd, Vl.cs, Ty.cs, fillA, fillOk, placeT]; done)) ?_ | exact cl
  rw [evK_succ]; simp +decide only [go_sem, Nat.reduceAdd, fillA, fillOk, placeT]
  (repeat' apply And.intro) <;> first | refine hK2 _ _ ?_ | exact cl
  clear hK2
  exact rt h hs hcalm hO
end Go.Proofs.YtggimoedcamonaaGreatDoor
namespace Go.Proofs.YtggimoedcamonaaGreatDoor
open Go Go.RowKit Go.Ev
set_option linter.unusedSimpArgs false
set_option linter.unusedVariables false
def sl_ContainsFunc_Field_F (n : Nat) (a0 : List (ByteArray × Vl)) (a1 : (ByteArray × Vl) → Option Bool) : Option Bool :=
  (sl_IndexFunc_Field_F n a0 a1).bind fun y3 =>
  some (decide (0 ≤ y3))
set_option maxRecDepth 100000 in
set_option maxHeartbeats 4000000 in
theorem sl_ContainsFunc_Field_at (w0 : World) (n : Nat) (B : List (List AV)) (Rw : List RowA) (L : List LoopA) (a0 : List (ByteArray × Vl)) (fa1 : FuncId) (ca1 : List AV) (a1 : (ByteArray × Vl) → Option Bool) (ha1 : ∀ (x0 : ByteArray × Vl) r, a1 x0 = some r → ∀ B' rows, B <+: B' → Rw <+: rows → ACalls Tryz.prog w0 fa1 ([.agg (.val (.string x0.1) :: (x0.2.cs))] ++ ca1) ⟨B', rows, L⟩ fun v s => v = .val (.bool r) ∧ s = ⟨B', rows, L⟩) (r : Bool) (h : sl_ContainsFunc_Field_F n a0 a1 = some r) :
    ACalls Tryz.prog w0 166 [.list (a0.map avF) .none, .clo fa1 ca1] ⟨B, Rw, L⟩ fun x st => x = .val (.bool r) ∧ st = ⟨B, Rw, L⟩ := by
  rw [sl_ContainsFunc_Field_F] at h
  refine ACalls.finP (acalls_of (rs := [.tmp 4]) Tryz.func166 rfl rfl Tryz.ntmps166 (enters_some Tryz.func166 rfl (by decide)) (Nat.le_of_ble_eq_true rfl) ?_)
  intro M0 W0 hN hNR hNL hcalm hu
  dsimp only at hN hNR hNL hcalm hu
  simp only [argsE]
  have hO := Owns.none Rw
  have hs := fact0
  have hU_a1 := under_caps (hu (.clo fa1 ca1) (by simp))
  refine rg [0, 1] hs ?_
  obtain ⟨y3, hy3, h⟩ := bind_some h
  refine rc 2 [4] hs ?_; intro K2 hK2
  refine callK_p _ (sl_IndexFunc_Field_at w0 n _ _ _ a0 fa1 ca1 a1 (fun x0 r hx B'' rows'' q1 q2 => ha1 x0 r hx B'' rows'' (List.IsPrefix.trans (by first | exact List.prefix_append _ _ | exact List.prefix_refl _) q1) (hO.pre.trans q2)) _ hy3) (hv hs) ?_
  refine ne hs hK2 ?_
  clear hK2
  exact rt h hs hcalm hO
end Go.Proofs.YtggimoedcamonaaGreatDoor
namespace Go.Proofs.YtggimoedcamonaaGreatDoor
open Go Go.RowKit Go.Ev
set_option linter.unusedSimpArgs false
set_option linter.unusedVariables false
def v_Record_1_F (a0 : ByteArray × Vl) (a1 : ByteArray × Vl) : Bool :=
  (sEq a0.1 a1.1) && (!(v_IsNull_F a0.2))
set_option maxRecDepth 100000 in
set_option maxHeartbeats 4000000 in
theorem v_Record_1_at (w0 : World) (B : List (List AV)) (Rw : List RowA) (L : List LoopA) (a0 : ByteArray × Vl) (la1 : Nat) (a1 : ByteArray × Vl) (hla1 : B[la1]? = some (.val (.string a1.1) :: (a1.2.cs))) (r : Bool) (h : v_Record_1_F a0 a1 = r) :
    ACalls Tryz.prog w0 167 [.agg (.val (.string a0.1) :: (a0.2.cs)), .box la1 0] ⟨B, Rw, L⟩ fun x st => x = .val (.bool r) ∧ st = ⟨B, Rw, L⟩ := by
  rw [v_Record_1_F] at h
  refine ACalls.finP (acalls_of (rs := [.tmp 3]) Tryz.func167 rfl rfl Tryz.ntmps167 (enters_some Tryz.func167 rfl (by decide)) (Nat.le_of_ble_eq_true rfl) ?_)
  intro M0 W0 hN hNR hNL hcalm hu
  dsimp only at hN hNR hNL hcalm hu
  simp only [argsE]
  have hO := Owns.none Rw
  have hs := fact0
  have hltla1 := (List.getElem?_eq_some_iff.1 hla1).1
  have hs := And.intro (ptr_of hla1) hs
  refine rg [1, 2] hs ?_
  refine rc 2 [3] hs ?_; intro K2 hK2
  refine callK_p_if _ (fun _ => v_IsNull_at' w0 _ _ _ a0.2) (hv hs) ?_
  refine ne hs hK2 ?_
  clear hK2
  apply awp_ret; simp +decide only [go_sem, Nat.reduceAdd, ptr_of hla1]
  subst h
  first | refine fin_q0 hcalm rfl hO.pre ev ⟨?_, rfl⟩ | refine fin_q hcalm rfl hO.pre ev ⟨?_, rfl⟩
  first | rfl | (simp +decide only [go_sem, Nat.reduceAdd, ptr_of hla1]; done) | (simp +decide only [go_sem, Nat.reduceAdd, Vl.cs, Ty.cs, ptr_of hla1]; done)
theorem v_Record_1_at' (w0 : World) (B : List (List AV)) (Rw : List RowA) (L : List LoopA) (a0 : ByteArray × Vl) (la1 : Nat) (a1 : ByteArray × Vl) (hla1 : B[la1]? = some (.val (.string a1.1) :: (a1.2.cs))) :
    ACalls Tryz.prog w0 167 [.agg (.val (.string a0.1) :: (a0.2.cs)), .box la1 0] ⟨B, Rw, L⟩ fun x st => x = .val (.bool (v_Record_1_F a0 a1)) ∧ st = ⟨B, Rw, L⟩ := v_Record_1_at w0 B Rw L a0 la1 a1 hla1 _ rfl
end Go.Proofs.YtggimoedcamonaaGreatDoor
namespace Go.Proofs.YtggimoedcamonaaGreatDoor
open Go Go.RowKit Go.Ev
set_option linter.unusedSimpArgs false
set_option linter.unusedVariables false
structure VPre (Rw rows : List RowA) : Prop where
  pre : Rw <+: rows
def dflF : ByteArray × Vl := (⟨#[]⟩, Vl.mk 0 0 0 ⟨#[]⟩ [] [])
def sortF (l : List (ByteArray × Vl)) : List (ByteArray × Vl) := sortL Prod.fst dflF l
theorem sortF_length (l : List (ByteArray × Vl)) : (sortF l).length = l.length := by simp only [sortF, sortL, List.length_map]; exact sortI_length _ _
theorem avF_cellsOne (x : ByteArray × Vl) : (avF x).cells.length = 7 ∧ notTup (avF x) = true := by simp +decide only [go_sem, and_self]
theorem avF_pubOne (x : ByteArray × Vl) : (avF x).pub = avF x := by simp +decide only [go_sem]
theorem avF_underOne (x : ByteArray × Vl) : ∀ c ∈ (avF x).cells, ∀ a b d, Under a b d c := by
  intro c hc a b d
  simp only [avF, AV.cells, List.mem_cons] at hc
  rcases hc with rfl | hc
  · exact .val _
  · exact x.2.under a b d c hc
theorem sortF_nil (w0 : World) (st : St) : ACalls Tryz.prog w0 168 [.list [] .none, .clo 169 []] st fun r s => r = .tup [] ∧ s = st := by
  refine ⟨enters_some Tryz.func168 rfl (by decide), fun M w vals hst hrow => ?_⟩
  obtain ⟨v0, v1, rfl⟩ : ∃ v0 v1, vals = #[v0, v1] := by
    have hs := hrow.1
    simp only [List.length_cons, List.length_nil] at hs
    match vals, hs with
    | ⟨[a, b]⟩, _ => exact ⟨a, b, rfl⟩
  have h0 : R w0 M w v0 (.list [] .none) := hrow.2 0 (by simp) (by simp)
  obtain ⟨p, cap, rfl⟩ : ∃ p cap, v0 = .slice p 0 cap := by
    generalize hx : AV.list [] Ev.Own.none = x at h0
    cases h0 with
    | nil ho => exact ⟨_, _, rfl⟩
    | emp ho => exact ⟨_, _, rfl⟩
    | list sz us hc hm hcell hu ho => cases hx; exact ⟨_, _, rfl⟩
    | _ => cases hx
  have h := AnyF.slices_SortFunc_none (P := Tryz.prog) (ρ := Tryz.laysSort_ren) Tryz.laysSort p cap v1 w
  refine h.mono ?_
  rintro en w' ⟨rfl, rfl⟩
  exact ⟨.tuple #[], M, .tup [], st, rfl, ⟨rfl, rfl⟩, .refl _ _ _, hst, .tup rfl (fun i h1 _ => absurd h1 (by simp))⟩
theorem sortF_vec (w0 : World) {st : St} {id ver : Nat} (l : List (ByteArray × Vl)) (hid : st.rows[id]? = some (.vec ver 7 (l.flatMap fun x => (avF x).cells))) (hn : 0 < l.length) (hz : l.length < 4611686018427387904) :
    ACalls Tryz.prog w0 168 [.vec id ver 0 l.length, .clo 169 []] st fun r s => r = .tup [] ∧ s = { st with rows := st.rows.set id (.vec ver 7 ((sortF l).flatMap fun x => (avF x).cells)) } :=
  sort_lift (ρ := Tryz.laysSort_ren) Tryz.laysSort (enters_some Tryz.func168 rfl (by decide)) 6 Tryz.isAgg83 Tryz.sizeOf83 169 (enters_some Tryz.func169 rfl (by decide))
    (fun s s' r r' W h1 h2 h3 h4 => cmpF_calls s s' r r' W h1 h2 h3 h4) avF Prod.fst dflF l (fun x => ⟨x.2.cs, rfl, Vl.cs_length _⟩) hid hn hz
def v_Record_k12 (n : Nat) (again_l7 : Int → (List (ByteArray × Vl)) → Option Vl) (x10_l7 : Int) (b1_k12_5 : List (ByteArray × Vl)) : Option Vl :=
  if I64 (x10_l7 + 1) then
    again_l7 (x10_l7 + 1) b1_k12_5
  else none
def v_Record_k4 (n : Nat)  (b1_k4_5 : List (ByteArray × Vl)) : Option Vl :=
  if b1_k4_5.length < 4611686018427387904 then
    (v_Clone_F n (Vl.mk 9 0 0 ((⟨#[]⟩ : ByteArray)) ([]) (sortF b1_k4_5))).bind fun y29 =>
    some (y29)
  else none
def v_Record_l7 (n : Nat) (a0 : List (ByteArray × Vl)) : Nat → Int → (List (ByteArray × Vl)) → Option Vl
  | 0, _, _ => none
  | m + 1, x10_l7, b1_l7_5 =>
    if decide (x10_l7 < ((a0.length : Int))) then
      (idx a0 x10_l7).bind fun x15 =>
      if I64 (x10_l7 + 1) then
        if 0 ≤ x10_l7 + 1 ∧ x10_l7 + 1 ≤ (a0.length : Int) ∧ (a0.length : Int) ≤ (a0.length : Int) then
          (sl_ContainsFunc_Field_F n (a0.drop (x10_l7 + 1).toNat) (fun (x0 : ByteArray × Vl) => some (v_Record_1_F x0 x15))).bind fun y19 =>
          if (!(v_IsNull_F x15.2)) && (!y19) then
            if (b1_l7_5.length + 1) * 104 ≤ 140737488355328 ∧ b1_l7_5.length + 1 ≤ 4611686018427387904 then
              v_Record_k12 n (v_Record_l7 n a0 m) x10_l7 (b1_l7_5 ++ ([x15]))
            else none
          else
            v_Record_k12 n (v_Record_l7 n a0 m) x10_l7 b1_l7_5
        else none
      else none
    else
      v_Record_k4 n b1_l7_5
def v_Record_F (n : Nat) (a0 : List (ByteArray × Vl)) : Option Vl :=
  v_Record_l7 n a0 n 0 ([])
set_option maxRecDepth 100000 in
set_option maxHeartbeats 4000000 in
theorem v_Record_at (w0 : World) (n : Nat) (B : List (List AV)) (Rw : List RowA) (L : List LoopA) (a0 : List (ByteArray × Vl)) (r : Vl) (h : v_Record_F n a0 = some r) :
    ACalls Tryz.prog w0 110 [.list (a0.map avF) .none] ⟨B, Rw, L⟩ fun x st => x = .agg (r.cs) ∧ st = ⟨B, Rw, L⟩ := by
  rw [v_Record_F] at h
  refine ACalls.finP (acalls_of (rs := [.cell 2 34]) Tryz.func110 rfl rfl Tryz.ntmps110 (enters_some Tryz.func110 rfl (by decide)) (Nat.le_of_ble_eq_true rfl) ?_)
  intro M0 W0 hN hNR hNL hcalm hu
  dsimp only at hN hNR hNL hcalm hu
  simp only [argsE]
  have hO := Owns.none Rw
  have hs := fact0
  refine rg [0, 2] hs ?_
  apply awp_seq; intro K2 hK2
  apply awp_region 1 [0, 2, 3]
  rw [evK_succ]; simp +decide only [go_sem, Nat.reduceAdd, fillA, fillOk, placeT]
  (repeat' apply And.intro) <;> first | refine hK2 _ _ ?_ | exact cl
  clear hK2
  refine awp_mid (fun e st => ∃ (b1_k4_5 : List (ByteArray × Vl)) (ob1_k4_5 : AV) (X_k4 : List (List AV)) (rows_k4 : List RowA), e = [(2, true, .box B.length 0), (3, true, .box (B.length + 1) 0)] ∧ st = ⟨B ++ ([[.val (.int .i64 0), .val (.int .i64 0), .val (.int .i64 0), .val (.string ((⟨#[]⟩ : ByteArray))), .list ([]) .full, .list ([]) .full], [.val (.int .i64 9), .val (.int .i64 0), .val (.int .i64 0), .val (.string ((⟨#[]⟩ : ByteArray))), .list ([]) .full, ob1_k4_5]] ++ X_k4), rows_k4, L⟩ ∧ VOne Rw rows_k4 7 (b1_k4_5.map avF) ob1_k4_5 ∧ v_Record_k4 n b1_k4_5 = some r) ?_ ?_
  · intro K5 hK5
    refine awp_seed_box (B.length + 1) 5 (by first | rfl | (simp only [box_own, box_own0]; rfl)) rfl ?_; simp +decide only [go_sem, Nat.reduceAdd, List.set_cons_succ, List.set_cons_zero]
    refine rg [0, 2, 3, 8, 9, 10] hs ?_
    apply awp_block
    refine awp_loop (fun m e st => ∃ (x10_l7 : Int) (b1_l7_5 : List (ByteArray × Vl)) (ob1_l7_5 : AV) (X_l7 : List (List AV)) (rows_l7 : List RowA), e = [(0, true, .list (a0.map avF) .none), (2, true, .box B.length 0), (3, true, .box (B.length + 1) 0), (8, true, .list (a0.map avF) .none), (9, true, .val (.int .i64 ((a0.length : Int)))), (10, true, .val (.int .i64 x10_l7))] ∧ st = ⟨B ++ ([[.val (.int .i64 0), .val (.int .i64 0), .val (.int .i64 0), .val (.string ((⟨#[]⟩ : ByteArray))), .list ([]) .full, .list ([]) .full], [.val (.int .i64 9), .val (.int .i64 0), .val (.int .i64 0), .val (.string ((⟨#[]⟩ : ByteArray))), .list ([]) .full, ob1_l7_5]] ++ X_l7), rows_l7, L⟩ ∧ VOne Rw rows_l7 7 (b1_l7_5.map avF) ob1_l7_5 ∧ v_Record_l7 n a0 m x10_l7 b1_l7_5 = some r) n ⟨0, [], .list [] .seed, [], Rw, ef hs, ef hs, VOne.none Rw 7, h⟩ ?_
    rintro m_l7 e st ⟨x10_l7, b1_l7_5, ob1_l7_5, X_l7, rows_l7, rfl, rfl, hO, h⟩ KR_l7 hKR_l7
    cases m_l7 with
    | zero => cases h
    | succ m_l7 =>
    rw [v_Record_l7] at h
    have hU := hO.under (B.length + 2) L.length
    refine tdV hN hNR hNL hcalm hO ?_
    refine rg [0, 2, 3, 8, 9, 10, 11] hs ?_
    apply awp_seq; intro K9 hK9
    refine cnd h hs (fun hs h => ?_) (fun hs h => ?_)
    rotate_left
    · skip
      have hb10 := hs.1
      refine sx [2, 3] hs hK5 ?_
      exact ⟨b1_l7_5, ob1_l7_5, ([]), rows_l7, ef hs, ef hs, VOne.of_eq hO (by simp only [List.map_append, List.map_cons, List.map_nil]), h⟩
    have hb10 := hs.1
    refine sk [0, 2, 3, 8, 9, 10] hs hK9 ?_
    clear hK9
    refine awp_mid (fun e st => ∃ (b1_k12_5 : List (ByteArray × Vl)) (ob1_k12_5 : AV) (X_k12 : List (List AV)) (rows_k12 : List RowA), e = [(0, true, .list (a0.map avF) .none), (2, true, .box B.length 0), (3, true, .box (B.length + 1) 0), (8, true, .list (a0.map avF) .none), (9, true, .val (.int .i64 ((a0.length : Int)))), (10, true, .val (.int .i64 x10_l7))] ∧ st = ⟨B ++ ([[.val (.int .i64 0), .val (.int .i64 0), .val (.int .i64 0), .val (.string ((⟨#[]⟩ : ByteArray))), .list ([]) .full, .list ([]) .full], [.val (.int .i64 9), .val (.int .i64 0), .val (.int .i64 0), .val (.string ((⟨#[]⟩ : ByteArray))), .list ([]) .full, ob1_k12_5]] ++ X_k12), rows_k12, L⟩ ∧ VOne Rw rows_k12 7 (b1_k12_5.map avF) ob1_k12_5 ∧ v_Record_k12 n (v_Record_l7 n a0 m_l7) x10_l7 b1_k12_5 = some r) ?_ ?_
    · intro K13 hK13
      apply awp_block
      obtain ⟨x15, hx15, h⟩ := bind_some h
      obtain ⟨hx15a, hx15b, hx15c⟩ := idx_some hx15
      have hx15d := getD_map (f := avF) hx15c
      have hs := And.intro hx15d hs
      refine rg [0, 2, 3, 4, 5, 8, 9, 10] hs ?_
      obtain ⟨hg17, h⟩ := guard_some h
      obtain ⟨hg18, h⟩ := guard_some h
      obtain ⟨y19, hy19, h⟩ := bind_some h
      refine rc 2 [0, 2, 3, 5, 6, 8, 9, 10] hs ?_; intro K16 hK16
      refine callK_p _ (sl_ContainsFunc_Field_at w0 n _ _ _ (a0.drop (x10_l7 + 1).toNat) 167 [.box (B.length + 2) 0] (fun (x0 : ByteArray × Vl) => some (v_Record_1_F x0 x15)) (fun x0 r hx B' rows' hB' hR' => by cases hx; exact v_Record_1_at' w0 _ _ _ x0 _ x15 (prefix_get hB' (ef hs))) _ hy19) (hv hs) ?_
      refine ne hs hK16 ?_
      clear hK16
      refine rc 2 [0, 2, 3, 5, 8, 9, 10, 28] hs ?_; intro K20 hK20
      refine callK_p _ (v_IsNull_at' w0 _ _ _ x15.2) (hv hs) ?_
      refine ne hs hK20 ?_
      clear hK20
      refine cnd h hs (fun hs h => ?_) (fun hs h => ?_)
      · skip
        have hb21 := hs.1
        obtain ⟨hg22, h⟩ := guard_some h
        obtain ⟨o23, rows24, hO, hap25⟩ := hO.append (P := Tryz.prog) (y := avF x15) elT_32 (by rw [zeroT_83]; rfl) (by decide) (by rw [List.length_map]; exact hg22.1) (by rw [List.length_map]; exact hg22.2) (avF_cellsOne x15) (avF_pubOne x15) (avF_underOne x15) (fun z hz => by obtain ⟨y, _, rfl⟩ := List.mem_map.1 hz; exact (avF_cellsOne y).1)
        simp only [avF_eq] at hap25
        replace hap25 := And.intro hap25 hO.cell
        apply awp_region 1 [0, 2, 3, 8, 9, 10]
        rw [evK_succ]; simp +decide only [go_sem, Nat.reduceAdd, hb10, hx15d, hb21, hap25]
        have hs := And.intro hap25 hs
        (repeat' apply And.intro) <;> first | refine hK13 _ _ ⟨(b1_l7_5 ++ ([x15])), o23, ([.val (.string x15.1) :: (x15.2.cs)]), rows24, ef hs, ef hs, VOne.of_eq hO (by simp only [List.map_append, List.map_cons, List.map_nil]), h⟩ | exact cl
      have hb21 := hs.1
      refine sk [0, 2, 3, 8, 9, 10] hs hK13 ?_
      exact ⟨b1_l7_5, ob1_l7_5, ([.val (.string x15.1) :: (x15.2.cs)]), rows_l7, ef hs, ef hs, VOne.of_eq hO (by simp only [List.map_append, List.map_cons, List.map_nil]), h⟩
    · clear h; rintro e st ⟨b1_k12_5, ob1_k12_5, X_k12, rows_k12, rfl, rfl, hO, h⟩
      rw [v_Record_k12] at h
      have hU := hO.under (B.length + 2) L.length
      refine tdV hN hNR hNL hcalm hO ?_
      obtain ⟨hg26, h⟩ := guard_some h
      apply awp_region 1 [0, 2, 3, 8, 9, 10]
      rw [evK_succ]; simp +decide only [go_sem, Nat.reduceAdd, hb10]
      (repeat' apply And.intro) <;> first | refine hKR_l7 m_l7 _ _ (Nat.lt_succ_self m_l7) ⟨(x10_l7 + 1), b1_k12_5, ob1_k12_5, ([]), rows_k12, ef hs, ef hs, VOne.of_eq hO (by simp only [List.map_append, List.map_cons, List.map_nil]), h⟩ | exact cl
  · clear h; rintro e st ⟨b1_k4_5, ob1_k4_5, X_k4, rows_k4, rfl, rfl, hO, h⟩
    rw [v_Record_k4] at h
    have hU := hO.under (B.length + 2) L.length
    refine tdV hN hNR hNL hcalm hO ?_
    obtain ⟨hgL, h⟩ := guard_some h
    rcases hO.at_ with ⟨hnil, rfl⟩ | ⟨id, ver, rfl, hpos, hid, hrow⟩
    · have hb0 : b1_k4_5 = [] := List.map_eq_nil_iff.1 hnil
      subst hb0
      refine rc 2 [2, 3] hs ?_; intro K27 hK27
      refine callK_p _ (sortF_nil w0 _) (hv hs) ?_
      refine ne hs hK27 ?_
      clear hK27
      obtain ⟨y29, hy29, h⟩ := bind_some h
      rw [show sortF [] = [] from List.eq_nil_of_length_eq_zero (sortF_length [])] at hy29
      refine rc 2 [2] hs ?_; intro K28 hK28
      refine callK_p _ (v_Clone_at w0 n _ _ _ (Vl.mk 9 0 0 ((⟨#[]⟩ : ByteArray)) ([]) []) _ hy29) (hv hs) ?_
      refine ne hs hK28 ?_
      clear hK28
      exact rt h hs hcalm hO
    · rw [List.length_map] at hpos
      rw [List.length_map]
      rw [show ((b1_k4_5.map avF).flatMap AV.cells) = b1_k4_5.flatMap fun x => (avF x).cells from List.flatMap_map ..] at hrow
      refine rc 2 [2, 3] hs ?_; intro K27 hK27
      refine callK_pp _ (sortF_vec w0 (st := ⟨_, _, _⟩) b1_k4_5 hrow hpos hgL) (hv hs) ?_; rintro _ _ ⟨rfl, rfl⟩
      refine ne hs hK27 ?_
      clear hK27
      have hlt := (List.getElem?_eq_some_iff.1 hrow).1
      have hvr : vecR (rows_k4.set id (.vec ver 7 ((sortF b1_k4_5).flatMap fun x => (avF x).cells))) id ver = some (7, (sortF b1_k4_5).flatMap fun x => (avF x).cells) := by simp [vecR, hlt]
      have hsl : (sortF b1_k4_5).length = b1_k4_5.length := sortF_length _
      refine awp_freeze_box (B.length + 1) 5 true (by first | rfl | (simp only [box_own, box_own0]; rfl)) rfl hvr (.inl rfl) (by rw [Nat.zero_add, fm_len2 (fun x _ => (avF_cellsOne x).1), hsl]; exact Nat.le_refl _) ?_
      have hfz : frzL 7 true ((sortF b1_k4_5).flatMap fun x => (avF x).cells) 0 b1_k4_5.length = (sortF b1_k4_5).map avF := by
        have := frzL_flat (ys := (sortF b1_k4_5).map avF) (sz := 7) (fun y hy => by obtain ⟨x, _, rfl⟩ := List.mem_map.1 hy; exact ⟨_, rfl, (avF_cellsOne x).1⟩)
        rw [List.length_map, hsl, List.flatMap_map] at this
        exact this
      rw [hfz]
      simp +decide only [go_sem, Nat.reduceAdd, List.set_cons_succ, List.set_cons_zero]
      obtain ⟨y29, hy29, h⟩ := bind_some h
      have hO : VPre Rw ((rows_k4.set id (.vec ver 7 ((sortF b1_k4_5).flatMap fun x => (avF x).cells))).set id (.dead (ver + 1))) := ⟨set_grow_pre (set_grow_pre hO.pre hid _) hid _⟩
      refine rc 2 [2] hs ?_; intro K28 hK28
      refine callK_p _ (v_Clone_at w0 n _ _ _ (Vl.mk 9 0 0 ((⟨#[]⟩ : ByteArray)) ([]) (sortF b1_k4_5)) _ hy29) (hv hs) ?_
      refine ne hs hK28 ?_
      clear hK28
      exact rt h hs hcalm hO
end Go.Proofs.YtggimoedcamonaaGreatDoor
namespace Go.Proofs.YtggimoedcamonaaGreatDoor
open Go Go.RowKit Go.Ev
set_option linter.unusedSimpArgs false
set_option linter.unusedVariables false
def v_Variant_F (n : Nat) (a0 : ByteArray) (a1 : Vl) : Option Vl :=
  (v_Clone_F n (Vl.mk 10 0 0 a0 ([a1]) ([]))).bind fun y3 =>
  some (y3)
set_option maxRecDepth 100000 in
set_option maxHeartbeats 4000000 in
theorem v_Variant_at (w0 : World) (n : Nat) (B : List (List AV)) (Rw : List RowA) (L : List LoopA) (a0 : ByteArray) (a1 : Vl) (r : Vl) (h : v_Variant_F n a0 a1 = some r) :
    ACalls Tryz.prog w0 109 [.val (.string a0), .agg (a1.cs)] ⟨B, Rw, L⟩ fun x st => x = .agg (r.cs) ∧ st = ⟨B, Rw, L⟩ := by
  rw [v_Variant_F] at h
  refine ACalls.finP (acalls_of (rs := [.cell 4 34]) Tryz.func109 rfl rfl Tryz.ntmps109 (enters_some Tryz.func109 rfl (by decide)) (Nat.le_of_ble_eq_true rfl) ?_)
  intro M0 W0 hN hNR hNL hcalm hu
  dsimp only at hN hNR hNL hcalm hu
  simp only [argsE]
  have hO := Owns.none Rw
  have hs := fact0
  refine rg [0, 3, 4] hs ?_
  apply awp_seq; intro K2 hK2
  obtain ⟨y3, hy3, h⟩ := bind_some h
  apply awp_region 2 [4]
  rw [evK_succ]; simp +decide only [go_sem, Nat.reduceAdd, fillA, fillOk, placeT]
  (repeat' apply And.intro) <;> first | refine callK_p _ (v_Clone_at w0 n _ _ _ (Vl.mk 10 0 0 a0 ([a1]) ([])) _ hy3) (by first | rfl | (simp +decide only [go_sem, Nat.reduceAdd, fillA, fillOk, placeT]; done) | (simp +decide only [go_sem, Nat.reduceAdd, Vl.cs, Ty.cs, fillA, fillOk, placeT]; done)) ?_ | exact cl
  rw [evK_succ]; simp +decide only [go_sem, Nat.reduceAdd, fillA, fillOk, placeT]
  (repeat' apply And.intro) <;> first | refine hK2 _ _ ?_ | exact cl
  clear hK2
  exact rt h hs hcalm hO
end Go.Proofs.YtggimoedcamonaaGreatDoor
namespace Go.Proofs.YtggimoedcamonaaGreatDoor
open Go Go.RowKit Go.Ev
set_option linter.unusedSimpArgs false
set_option linter.unusedVariables false
def s_least_k34 (rec : Ty → Option Vl) (n : Nat)  (x3_k34 : List Vl) : Option Vl :=
  (v_List_F n x3_k34).bind fun y50 =>
  some (y50)
def s_least_k69 (rec : Ty → Option Vl) (n : Nat) (again_l64 : (List (ByteArray × Vl)) → Int → Option Vl) (x82_l64 : Int) (x4_k69 : List (ByteArray × Vl)) : Option Vl :=
  if I64 (x82_l64 + 1) then
    again_l64 x4_k69 (x82_l64 + 1)
  else none
def s_least_k61 (rec : Ty → Option Vl) (n : Nat)  (x4_k61 : List (ByteArray × Vl)) : Option Vl :=
  (v_Record_F n x4_k61).bind fun y91 =>
  some (y91)
def s_least_k3 (rec : Ty → Option Vl) (n : Nat) (a0 : Ty) : Option Vl :=
  some (Vl.mk a0.kind 0 0 ((⟨#[]⟩ : ByteArray)) ([]) ([]))
def s_least_l37 (rec : Ty → Option Vl) (n : Nat) (a0 : Ty) : Nat → (List Vl) → Int → Option Vl
  | 0, _, _ => none
  | m + 1, x3_l37, x50_l37 =>
    if decide (x50_l37 < a0.min) then
      (idx a0.elem 0).bind fun x42 =>
      (rec x42).bind fun y43 =>
      if (x3_l37.length + 1) * 88 ≤ 140737488355328 ∧ x3_l37.length + 1 ≤ 4611686018427387904 then
        if I64 (x50_l37 + 1) then
          (s_least_l37 rec n a0 m) (x3_l37 ++ ([y43])) (x50_l37 + 1)
        else none
      else none
    else
      s_least_k34 rec n x3_l37
def s_least_l64 (rec : Ty → Option Vl) (n : Nat) (a0 : Ty) : Nat → (List (ByteArray × Vl)) → Int → Option Vl
  | 0, _, _ => none
  | m + 1, x4_l64, x82_l64 =>
    if decide (x82_l64 < ((a0.fields.length : Int))) then
      (idx a0.fields x82_l64).bind fun x72 =>
      if decide (x72.2.2.1 = 1) then
        (rec x72.2.2.2.1).bind fun y76 =>
        if (x4_l64.length + 1) * 104 ≤ 140737488355328 ∧ x4_l64.length + 1 ≤ 4611686018427387904 then
          s_least_k69 rec n (s_least_l64 rec n a0 m) x82_l64 (x4_l64 ++ ([(x72.2.1, y76)]))
        else none
      else
        if decide (x72.2.2.1 = 3) then
          (idx x72.2.2.2.2 0).bind fun x83 =>
          (v_Clone_F n x83).bind fun y84 =>
          if (x4_l64.length + 1) * 104 ≤ 140737488355328 ∧ x4_l64.length + 1 ≤ 4611686018427387904 then
            s_least_k69 rec n (s_least_l64 rec n a0 m) x82_l64 (x4_l64 ++ ([(x72.2.1, y84)]))
          else none
        else
          s_least_k69 rec n (s_least_l64 rec n a0 m) x82_l64 x4_l64
    else
      s_least_k61 rec n x4_l64
def s_least_k7 (rec : Ty → Option Vl) (n : Nat) (a0 : Ty) (x9_k7 : Bool) : Option Vl :=
  if x9_k7 then
    some (Vl.mk a0.kind ((if a0.min < (if 0 < a0.max then 0 else a0.max) then (if 0 < a0.max then 0 else a0.max) else a0.min)) a0.scale ((⟨#[]⟩ : ByteArray)) ([]) ([]))
  else
    if decide (a0.kind = 4) then
      if decide (0 < ((a0.words.length : Int))) then
        (idx a0.words 0).bind fun x23 =>
        some (v_Text_F x23)
      else
        if 0 ≤ a0.min ∧ a0.min ≤ 9223372036854775807 ∧ ((⟨#[97]⟩ : ByteArray)).size * a0.min.toNat ≤ 140737488355328 then
          some (v_Text_F ((⟨(Lib.repeatL ((⟨#[97]⟩ : ByteArray)).data.toList a0.min.toNat).toArray⟩ : ByteArray)))
        else none
    else
      if decide (a0.kind = 5) then
        if 0 ≤ a0.min ∧ a0.min ≤ 9223372036854775807 ∧ ((⟨#[0]⟩ : ByteArray)).size * a0.min.toNat ≤ 140737488355328 then
          some (v_Bytes_F ((⟨(Lib.repeatL ((⟨#[0]⟩ : ByteArray)).data.toList a0.min.toNat).toArray⟩ : ByteArray)))
        else none
      else
        if decide (a0.kind = 8) then
          s_least_l37 rec n a0 n ([]) 0
        else
          if decide (a0.kind = 10) then
            (idx a0.fields 0).bind fun x54 =>
            (rec x54.2.2.2.1).bind fun y55 =>
            (v_Variant_F n x54.2.1 y55).bind fun y56 =>
            some (y56)
          else
            if decide (a0.kind = 9) then
              s_least_l64 rec n a0 n ([]) 0
            else
              s_least_k3 rec n a0 
def s_least_B (rec : Ty → Option Vl) (n : Nat) (a0 : Ty) : Option Vl :=
  if decide (a0.kind = 2) then
    s_least_k7 rec n a0 true
  else
    if decide (a0.kind = 3) then
      s_least_k7 rec n a0 true
    else
      if decide (a0.kind = 6) then
        s_least_k7 rec n a0 true
      else
        s_least_k7 rec n a0 (decide (a0.kind = 7))
def s_least_F : Nat → Ty → Option Vl
  | 0, _ => none
  | n + 1, a0 => s_least_B (s_least_F n) n a0
set_option maxRecDepth 100000 in
set_option maxHeartbeats 4000000 in
theorem s_least_step (w0 : World) (rec : Ty → Option Vl) (ih : ∀ (B : List (List AV)) (Rw : List RowA) (L : List LoopA) (a0 : Ty) (r : Vl) (h : rec a0 = some r), ACalls Tryz.prog w0 61 [.agg (a0.cs)] ⟨B, Rw, L⟩ fun x st => x = .agg (r.cs) ∧ st = ⟨B, Rw, L⟩) (n : Nat) (B : List (List AV)) (Rw : List RowA) (L : List LoopA) (a0 : Ty) (r : Vl) (h : s_least_B rec n a0 = some r) :
    ACalls Tryz.prog w0 61 [.agg (a0.cs)] ⟨B, Rw, L⟩ fun x st => x = .agg (r.cs) ∧ st = ⟨B, Rw, L⟩ := by
  rw [s_least_B] at h
  refine ACalls.finP (acalls_of (rs := [.cell 2 34]) Tryz.func61 rfl rfl Tryz.ntmps61 (enters_some Tryz.func61 rfl (by decide)) (Nat.le_of_ble_eq_true rfl) ?_)
  intro M0 W0 hN hNR hNL hcalm hu
  dsimp only at hN hNR hNL hcalm hu
  simp only [argsE]
  have hO := Owns.none Rw
  have hs := fact0
  refine rg [1, 2] hs ?_
  refine awp_mid (fun e st => ∃ (X_k3 : List (List AV)) (rows_k3 : List RowA), e = [(1, true, .box B.length 0), (2, true, .box (B.length + 1) 0)] ∧ st = ⟨B ++ ([a0.cs, [.val (.int .i64 0), .val (.int .i64 0), .val (.int .i64 0), .val (.string ((⟨#[]⟩ : ByteArray))), .list ([]) .full, .list ([]) .full]] ++ X_k3), rows_k3, L⟩ ∧ Owns Rw rows_k3 [] ∧ s_least_k3 rec n a0  = some r) ?_ ?_
  · intro K4 hK4
    refine rg [1, 2, 8] hs ?_
    apply awp_block
    refine awp_mid (fun e st => ∃ (x9_k7 : Bool) (X_k7 : List (List AV)) (rows_k7 : List RowA), e = [(1, true, .box B.length 0), (2, true, .box (B.length + 1) 0), (8, true, .val (.int .i64 a0.kind)), (9, true, .val (.bool x9_k7))] ∧ st = ⟨B ++ ([a0.cs, [.val (.int .i64 0), .val (.int .i64 0), .val (.int .i64 0), .val (.string ((⟨#[]⟩ : ByteArray))), .list ([]) .full, .list ([]) .full]] ++ X_k7), rows_k7, L⟩ ∧ Owns Rw rows_k7 [] ∧ s_least_k7 rec n a0 x9_k7 = some r) ?_ ?_
    · intro K8 hK8
      refine rg [1, 2, 8, 9] hs ?_
      refine cnd h hs (fun hs h => ?_) (fun hs h => ?_)
      · skip
        have hb10 := hs.1
        refine sk [1, 2, 8, 9] hs hK8 ?_
        exact ⟨true, ([]), Rw, ef hs, ef hs, hO, h⟩
      have hb10 := hs.1
      refine rg [1, 2, 8, 9] hs ?_
      refine cnd h hs (fun hs h => ?_) (fun hs h => ?_)
      · skip
        have hb12 := hs.1
        refine sk [1, 2, 8, 9] hs hK8 ?_
        exact ⟨true, ([]), Rw, ef hs, ef hs, hO, h⟩
      have hb12 := hs.1
      refine rg [1, 2, 8, 9] hs ?_
      refine cnd h hs (fun hs h => ?_) (fun hs h => ?_)
      · skip
        have hb14 := hs.1
        refine sk [1, 2, 8, 9] hs hK8 ?_
        exact ⟨true, ([]), Rw, ef hs, ef hs, hO, h⟩
      have hb14 := hs.1
      apply awp_region 1 [1, 2, 8, 9]
      rw [evK_succ]; simp +decide only [go_sem, Nat.reduceAdd, hb10, hb12, hb14]
      (repeat' apply And.intro) <;> first | refine hK8 _ _ ⟨(decide (a0.kind = 7)), ([]), Rw, ef hs, ef hs, hO, h⟩ | exact cl
    · clear h; rintro e st ⟨x9_k7, X_k7, rows_k7, rfl, rfl, hO, h⟩
      rw [s_least_k7] at h
      refine td hN hNR hNL hcalm hO ?_
      refine cnd h hs (fun hs h => ?_) (fun hs h => ?_)
      · skip
        have hb15 := hs.1
        apply awp_seq; intro K16 hK16
        apply awp_region 1 [2]
        rw [evK_succ]; simp +decide only [go_sem, Nat.reduceAdd, hb15, fillA, fillOk, placeT]
        (repeat' apply And.intro) <;> first | refine hK16 _ _ ?_ | exact cl
        clear hK16
        exact rt h hs hcalm hO
      have hb15 := hs.1
      refine rg [1, 2, 8, 25] hs ?_
      refine cnd h hs (fun hs h => ?_) (fun hs h => ?_)
      · skip
        have hb18 := hs.1
        apply awp_seq; intro K19 hK19
        refine rg [1, 2, 30] hs ?_
        refine cnd h hs (fun hs h => ?_) (fun hs h => ?_)
        · skip
          obtain ⟨x23, hx23, h⟩ := bind_some h
          obtain ⟨hx23a, hx23b, hx23c⟩ := idx_some hx23
          have hx23d := getD_map (f := avS) hx23c
          have hx23e : (a0.words.map avS).getD 0 .junk = _ := hx23d
          have hs := And.intro hx23d hs
          have hs := And.intro hx23e hs
          refine rc 2 [2] hs ?_; intro K22 hK22
          refine callK_p _ (v_Text_at' w0 _ _ _ x23) (hv hs) ?_
          refine ne hs hK22 ?_
          clear hK22
          exact rt h hs hcalm hO
        refine sk [1, 2] hs hK19 ?_
        clear hK19
        obtain ⟨hg25, h⟩ := guard_some h
        refine rc 3 [2] hs ?_; intro K24 hK24
        refine callK_p _ (sRepeat_at2 w0 _ _ _ ((⟨#[97]⟩ : ByteArray)) a0.min hg25) (hv hs) ?_
        refine nc hs ?_
        refine callK_p _ (v_Text_at' w0 _ _ _ ((⟨(Lib.repeatL ((⟨#[97]⟩ : ByteArray)).data.toList a0.min.toNat).toArray⟩ : ByteArray))) (hv hs) ?_
        refine ne hs hK24 ?_
        clear hK24
        exact rt h hs hcalm hO
      have hb18 := hs.1
      refine rg [1, 2, 8, 40] hs ?_
      refine cnd h hs (fun hs h => ?_) (fun hs h => ?_)
      · skip
        have hb27 := hs.1
        obtain ⟨hg29, h⟩ := guard_some h
        refine rc 3 [2] hs ?_; intro K28 hK28
        refine callK_p _ (sRepeat_at2 w0 _ _ _ ((⟨#[0]⟩ : ByteArray)) a0.min hg29) (hv hs) ?_
        refine nc hs ?_
        refine callK_p _ (v_Bytes_at' w0 _ _ _ ((⟨(Lib.repeatL ((⟨#[0]⟩ : ByteArray)).data.toList a0.min.toNat).toArray⟩ : ByteArray))) (hv hs) ?_
        refine ne hs hK28 ?_
        clear hK28
        exact rt h hs hcalm hO
      have hb27 := hs.1
      refine rg [1, 2, 8, 46] hs ?_
      refine cnd h hs (fun hs h => ?_) (fun hs h => ?_)
      · skip
        have hb31 := hs.1
        refine rg [1, 2, 3] hs ?_
        refine awp_mid (fun e st => ∃ (x3_k34 : List Vl) (ox3_k34 : Ev.Own) (X_k34 : List (List AV)) (rows_k34 : List RowA), e = [(2, true, .box (B.length + 1) 0), (3, true, .list (x3_k34.map avV) ox3_k34)] ∧ st = ⟨B ++ ([a0.cs, [.val (.int .i64 0), .val (.int .i64 0), .val (.int .i64 0), .val (.string ((⟨#[]⟩ : ByteArray))), .list ([]) .full, .list ([]) .full]] ++ X_k34), rows_k34, L⟩ ∧ Owns Rw rows_k34 [(6, x3_k34.length, ox3_k34)] ∧ s_least_k34 rec n x3_k34 = some r) ?_ ?_
        · intro K35 hK35
          refine rg [1, 2, 3, 49, 50] hs ?_
          apply awp_block
          refine awp_loop (fun m e st => ∃ (x3_l37 : List Vl) (x50_l37 : Int) (ox3_l37 : Ev.Own) (X_l37 : List (List AV)) (rows_l37 : List RowA), e = [(1, true, .box B.length 0), (2, true, .box (B.length + 1) 0), (3, true, .list (x3_l37.map avV) ox3_l37), (49, true, .val (.int .i64 a0.min)), (50, true, .val (.int .i64 x50_l37))] ∧ st = ⟨B ++ ([a0.cs, [.val (.int .i64 0), .val (.int .i64 0), .val (.int .i64 0), .val (.string ((⟨#[]⟩ : ByteArray))), .list ([]) .full, .list ([]) .full]] ++ X_l37), rows_l37, L⟩ ∧ Owns Rw rows_l37 [(6, x3_l37.length, ox3_l37)] ∧ s_least_l37 rec n a0 m x3_l37 x50_l37 = some r) n ⟨([]), 0, .full, ([]), rows_k7, ef hs, ef hs, Owns.of_eq ((hO).full 6 0) (by first | rfl | simp only [List.length_append, List.length_cons, List.length_nil, List.length_map, Nat.zero_add, Nat.add_zero]), h⟩ ?_
          rintro m_l37 e st ⟨x3_l37, x50_l37, ox3_l37, X_l37, rows_l37, rfl, rfl, hO, h⟩ KR_l37 hKR_l37
          cases m_l37 with
          | zero => cases h
          | succ m_l37 =>
          rw [s_least_l37] at h
          have hU := hO.unders
          simp only [List.mem_cons, List.not_mem_nil, or_false, forall_eq_or_imp, forall_eq] at hU
          refine td hN hNR hNL hcalm hO ?_
          refine rg [1, 2, 3, 49, 50, 51] hs ?_
          apply awp_seq; intro K39 hK39
          refine cnd h hs (fun hs h => ?_) (fun hs h => ?_)
          rotate_left
          · skip
            have hb40 := hs.1
            refine sx [2, 3] hs hK35 ?_
            exact ⟨x3_l37, ox3_l37, ([]), rows_l37, ef hs, ef hs, Owns.of_eq (hO) (by first | rfl | simp only [List.length_append, List.length_cons, List.length_nil, List.length_map, Nat.zero_add, Nat.add_zero]), h⟩
          have hb40 := hs.1
          refine sk [1, 2, 3, 49, 50] hs hK39 ?_
          clear hK39
          apply awp_seq; intro K41 hK41
          apply awp_block
          obtain ⟨x42, hx42, h⟩ := bind_some h
          obtain ⟨hx42a, hx42b, hx42c⟩ := idx_some hx42
          have hx42d := getD_map (f := avT) hx42c
          have hx42e : (a0.elem.map avT).getD 0 .junk = _ := hx42d
          obtain ⟨y43, hy43, h⟩ := bind_some h
          obtain ⟨hg44, h⟩ := guard_some h
          obtain ⟨o45, rows46, hO, hap47⟩ := hO.append (P := Tryz.prog) elT_31 (by rw [zeroT_34]; rfl) (by decide) 1 hg44.1 hg44.2
          replace hap47 := fun (ys : List AV) B L o2 => hap47 (x3_l37.map avV) ys B L o2 (by first | rfl | simp only [List.length_map, List.length_nil, List.length_append, List.length_cons, Nat.zero_add])
          replace hap47 := fun (y : AV) B L o2 => hap47 [y] B L o2 (by first | rfl | simp only [List.length_map, List.length_nil, List.length_cons]) ev
          try simp only [List.mem_singleton, List.mem_cons, List.not_mem_nil, or_false, forall_eq_or_imp, forall_eq, List.map_append, List.map_cons, List.map_nil, avI_eq, avB_eq, avS_eq, avV_eq, avT_eq, avF_eq, avTF_eq, avPt_eq, avL_eq, avSch_eq, avItm_eq, avLm_eq] at hap47
          apply awp_region 2 [1, 2, 3, 49, 50]
          rw [evK_succ]; simp +decide only [go_sem, Nat.reduceAdd, hb15, hb18, hb27, hb31, hb40, hx42d, hx42e, hap47]
          have hs := And.intro hx42d hs
          have hs := And.intro hx42e hs
          have hs := And.intro hap47 hs
          (repeat' apply And.intro) <;> first | refine callK_p _ (ih _ _ _ x42 _ hy43) (hv hs) ?_ | exact cl
          rw [evK_succ]; simp +decide only [go_sem, Nat.reduceAdd, hb15, hb18, hb27, hb31, hb40, hx42d, hx42e, hap47]
          (repeat' apply And.intro) <;> first | refine hK41 _ _ ?_ | exact cl
          clear hK41
          obtain ⟨hg48, h⟩ := guard_some h
          apply awp_region 1 [1, 2, 3, 49, 50]
          rw [evK_succ]; simp +decide only [go_sem, Nat.reduceAdd, hb15, hb18, hb27, hb31, hb40, hx42d, hx42e, hap47]
          (repeat' apply And.intro) <;> first | refine hKR_l37 m_l37 _ _ (Nat.lt_succ_self m_l37) ⟨(x3_l37 ++ ([y43])), (x50_l37 + 1), o45, ([]), rows46, ef hs, ef hs, Owns.of_eq (hO) (by first | rfl | simp only [List.length_append, List.length_cons, List.length_nil, List.length_map, Nat.zero_add, Nat.add_zero]), h⟩ | exact cl
        · clear h; rintro e st ⟨x3_k34, ox3_k34, X_k34, rows_k34, rfl, rfl, hO, h⟩
          rw [s_least_k34] at h
          have hU := hO.unders
          simp only [List.mem_cons, List.not_mem_nil, or_false, forall_eq_or_imp, forall_eq] at hU
          refine td hN hNR hNL hcalm hO ?_
          obtain ⟨y50, hy50, h⟩ := bind_some h
          refine rc 2 [2] hs ?_; intro K49 hK49
          refine callK_p _ (v_List_at w0 n _ _ _ x3_k34 _ hy50) (hv hs) ?_
          refine ne hs hK49 ?_
          clear hK49
          exact rt h hs hcalm hO
      have hb31 := hs.1
      refine rg [1, 2, 8, 63] hs ?_
      refine cnd h hs (fun hs h => ?_) (fun hs h => ?_)
      · skip
        have hb52 := hs.1
        apply awp_seq; intro K53 hK53
        obtain ⟨x54, hx54, h⟩ := bind_some h
        obtain ⟨hx54a, hx54b, hx54c⟩ := idx_some hx54
        have hx54d := getD_map (f := avTF) hx54c
        have hx54e : (a0.fields.map avTF).getD 0 .junk = _ := hx54d
        obtain ⟨y55, hy55, h⟩ := bind_some h
        obtain ⟨y56, hy56, h⟩ := bind_some h
        apply awp_draw mix 12 3 1 [2] (by kernel_rfl)
        rw [evK_succ]; simp +decide only [go_sem, Nat.reduceAdd, hb15, hb18, hb27, hb31, hb52, hx54d, hx54e]
        have hs := And.intro hx54d hs
        have hs := And.intro hx54e hs
        (repeat' apply And.intro) <;> first | refine callK_p _ (ih _ _ _ x54.2.2.2.1 _ hy55) (hv hs) ?_ | exact cl
        rw [evK_succ]; simp +decide only [go_sem, Nat.reduceAdd, hb15, hb18, hb27, hb31, hb52, hx54d, hx54e]
        (repeat' apply And.intro) <;> first | refine callK_p _ (v_Variant_at w0 n _ _ _ x54.2.1 y55 _ hy56) (hv hs) ?_ | exact cl
        rw [evK_succ]; simp +decide only [go_sem, Nat.reduceAdd, hb15, hb18, hb27, hb31, hb52, hx54d, hx54e]
        (repeat' with_reducible apply And.intro) <;> first | (rw [evK_succ]; simp +decide only [go_sem, Nat.reduceAdd, hb15, hb18, hb27, hb31, hb52, hx54d, hx54e]) | exact cl
        (repeat' apply And.intro) <;> first | refine hK53 _ _ ?_ | exact cl
        clear hK53
        exact rt h hs hcalm hO
      have hb52 := hs.1
      refine rg [1, 2, 77] hs ?_
      refine cnd h hs (fun hs h => ?_) (fun hs h => ?_)
      · skip
        have hb58 := hs.1
        refine rg [1, 2, 4] hs ?_
        refine awp_mid (fun e st => ∃ (x4_k61 : List (ByteArray × Vl)) (ox4_k61 : Ev.Own) (X_k61 : List (List AV)) (rows_k61 : List RowA), e = [(2, true, .box (B.length + 1) 0), (4, true, .list (x4_k61.map avF) ox4_k61)] ∧ st = ⟨B ++ ([a0.cs, [.val (.int .i64 0), .val (.int .i64 0), .val (.int .i64 0), .val (.string ((⟨#[]⟩ : ByteArray))), .list ([]) .full, .list ([]) .full]] ++ X_k61), rows_k61, L⟩ ∧ Owns Rw rows_k61 [(7, x4_k61.length, ox4_k61)] ∧ s_least_k61 rec n x4_k61 = some r) ?_ ?_
        · intro K62 hK62
          refine rg [2, 4, 80, 81, 82] hs ?_
          apply awp_block
          refine awp_loop (fun m e st => ∃ (x4_l64 : List (ByteArray × Vl)) (x82_l64 : Int) (ox4_l64 : Ev.Own) (X_l64 : List (List AV)) (rows_l64 : List RowA), e = [(2, true, .box (B.length + 1) 0), (4, true, .list (x4_l64.map avF) ox4_l64), (80, true, .list (a0.fields.map avTF) .none), (81, true, .val (.int .i64 ((a0.fields.length : Int)))), (82, true, .val (.int .i64 x82_l64))] ∧ st = ⟨B ++ ([a0.cs, [.val (.int .i64 0), .val (.int .i64 0), .val (.int .i64 0), .val (.string ((⟨#[]⟩ : ByteArray))), .list ([]) .full, .list ([]) .full]] ++ X_l64), rows_l64, L⟩ ∧ Owns Rw rows_l64 [(7, x4_l64.length, ox4_l64)] ∧ s_least_l64 rec n a0 m x4_l64 x82_l64 = some r) n ⟨([]), 0, .full, ([]), rows_k7, ef hs, ef hs, Owns.of_eq ((hO).full 7 0) (by first | rfl | simp only [List.length_append, List.length_cons, List.length_nil, List.length_map, Nat.zero_add, Nat.add_zero]), h⟩ ?_
          rintro m_l64 e st ⟨x4_l64, x82_l64, ox4_l64, X_l64, rows_l64, rfl, rfl, hO, h⟩ KR_l64 hKR_l64
          cases m_l64 with
          | zero => cases h
          | succ m_l64 =>
          rw [s_least_l64] at h
          have hU := hO.unders
          simp only [List.mem_cons, List.not_mem_nil, or_false, forall_eq_or_imp, forall_eq] at hU
          refine td hN hNR hNL hcalm hO ?_
          refine rg [2, 4, 80, 81, 82, 83] hs ?_
          apply awp_seq; intro K66 hK66
          refine cnd h hs (fun hs h => ?_) (fun hs h => ?_)
          rotate_left
          · skip
            have hb67 := hs.1
            refine sx [2, 4] hs hK62 ?_
            exact ⟨x4_l64, ox4_l64, ([]), rows_l64, ef hs, ef hs, Owns.of_eq (hO) (by first | rfl | simp only [List.length_append, List.length_cons, List.length_nil, List.length_map, Nat.zero_add, Nat.add_zero]), h⟩
          have hb67 := hs.1
          refine sk [2, 4, 80, 81, 82] hs hK66 ?_
          clear hK66
          refine awp_mid (fun e st => ∃ (x4_k69 : List (ByteArray × Vl)) (ox4_k69 : Ev.Own) (X_k69 : List (List AV)) (rows_k69 : List RowA), e = [(2, true, .box (B.length + 1) 0), (4, true, .list (x4_k69.map avF) ox4_k69), (80, true, .list (a0.fields.map avTF) .none), (81, true, .val (.int .i64 ((a0.fields.length : Int)))), (82, true, .val (.int .i64 x82_l64))] ∧ st = ⟨B ++ ([a0.cs, [.val (.int .i64 0), .val (.int .i64 0), .val (.int .i64 0), .val (.string ((⟨#[]⟩ : ByteArray))), .list ([]) .full, .list ([]) .full]] ++ X_k69), rows_k69, L⟩ ∧ Owns Rw rows_k69 [(7, x4_k69.length, ox4_k69)] ∧ s_least_k69 rec n (s_least_l64 rec n a0 m_l64) x82_l64 x4_k69 = some r) ?_ ?_
          · intro K70 hK70
            apply awp_block
            obtain ⟨x72, hx72, h⟩ := bind_some h
            obtain ⟨hx72a, hx72b, hx72c⟩ := idx_some hx72
            have hx72d := getD_map (f := avTF) hx72c
            have hs := And.intro hx72d hs
            refine rg [2, 4, 6, 80, 81, 82] hs ?_
            refine rg [2, 4, 6, 80, 81, 82, 87] hs ?_
            apply awp_block
            refine rg [2, 4, 6, 80, 81, 82, 87, 88] hs ?_
            refine cnd h hs (fun hs h => ?_) (fun hs h => ?_)
            · skip
              have hb75 := hs.1
              obtain ⟨y76, hy76, h⟩ := bind_some h
              obtain ⟨hg77, h⟩ := guard_some h
              obtain ⟨o78, rows79, hO, hap80⟩ := hO.append (P := Tryz.prog) elT_32 (by rw [zeroT_83]; rfl) (by decide) 1 hg77.1 hg77.2
              replace hap80 := fun (ys : List AV) B L o2 => hap80 (x4_l64.map avF) ys B L o2 (by first | rfl | simp only [List.length_map, List.length_nil, List.length_append, List.length_cons, Nat.zero_add])
              replace hap80 := fun (y : AV) B L o2 => hap80 [y] B L o2 (by first | rfl | simp only [List.length_map, List.length_nil, List.length_cons]) ev
              try simp only [List.mem_singleton, List.mem_cons, List.not_mem_nil, or_false, forall_eq_or_imp, forall_eq, List.map_append, List.map_cons, List.map_nil, avI_eq, avB_eq, avS_eq, avV_eq, avT_eq, avF_eq, avTF_eq, avPt_eq, avL_eq, avSch_eq, avItm_eq, avLm_eq] at hap80
              apply awp_draw mix 8 2 1 [2, 4, 80, 81, 82] (by kernel_rfl)
              rw [evK_succ]; simp +decide only [go_sem, Nat.reduceAdd, hb15, hb18, hb27, hb31, hb52, hb58, hb67, hx72d, hb75, hap80, fillA, fillOk, placeT]
              (repeat' apply And.intro) <;> first | refine callK_p _ (ih _ _ _ x72.2.2.2.1 _ hy76) (by first | rfl | (simp +decide only [go_sem, Nat.reduceAdd, hb15, hb18, hb27, hb31, hb52, hb58, hb67, hx72d, hb75, hap80, fillA, fillOk, placeT]; done) | (simp +decide only [go_sem, Nat.reduceAdd, Vl.cs, Ty.cs, hb15, hb18, hb27, hb31, hb52, hb58, hb67, hx72d, hb75, hap80, fillA, fillOk, placeT]; done)) ?_ | exact cl
              rw [evK_succ]; simp +decide only [go_sem, Nat.reduceAdd, hb15, hb18, hb27, hb31, hb52, hb58, hb67, hx72d, hb75, hap80, fillA, fillOk, placeT]
              (repeat' with_reducible apply And.intro) <;> first | (rw [evK_succ]; simp +decide only [go_sem, Nat.reduceAdd, hb15, hb18, hb27, hb31, hb52, hb58, hb67, hx72d, hb75, hap80, fillA, fillOk, placeT]) | exact cl
              have hs := And.intro hap80 hs
              (repeat' apply And.intro) <;> first | refine hK70 _ _ ⟨(x4_l64 ++ ([(x72.2.1, y76)])), o78, ([.val (.int .i64 x72.1) :: (.val (.string x72.2.1) :: (.val (.int .i64 x72.2.2.1) :: ((x72.2.2.2.1.cs) ++ ([.list (x72.2.2.2.2.map avV) .none]))))]), rows79, ef hs, ef hs, Owns.of_eq (hO) (by first | rfl | simp only [List.length_append, List.length_cons, List.length_nil, List.length_map, Nat.zero_add, Nat.add_zero]), h⟩ | exact cl
            have hb75 := hs.1
            refine rg [2, 4, 6, 80, 81, 82, 99] hs ?_
            refine cnd h hs (fun hs h => ?_) (fun hs h => ?_)
            · skip
              have hb82 := hs.1
              obtain ⟨x83, hx83, h⟩ := bind_some h
              obtain ⟨hx83a, hx83b, hx83c⟩ := idx_some hx83
              have hx83d := getD_map (f := avV) hx83c
              have hx83e : (x72.2.2.2.2.map avV).getD 0 .junk = _ := hx83d
              obtain ⟨y84, hy84, h⟩ := bind_some h
              obtain ⟨hg85, h⟩ := guard_some h
              obtain ⟨o86, rows87, hO, hap88⟩ := hO.append (P := Tryz.prog) elT_32 (by rw [zeroT_83]; rfl) (by decide) 1 hg85.1 hg85.2
              replace hap88 := fun (ys : List AV) B L o2 => hap88 (x4_l64.map avF) ys B L o2 (by first | rfl | simp only [List.length_map, List.length_nil, List.length_append, List.length_cons, Nat.zero_add])
              replace hap88 := fun (y : AV) B L o2 => hap88 [y] B L o2 (by first | rfl | simp only [List.length_map, List.length_nil, List.length_cons]) ev
              try simp only [List.mem_singleton, List.mem_cons, List.not_mem_nil, or_false, forall_eq_or_imp, forall_eq, List.map_append, List.map_cons, List.map_nil, avI_eq, avB_eq, avS_eq, avV_eq, avT_eq, avF_eq, avTF_eq, avPt_eq, avL_eq, avSch_eq, avItm_eq, avLm_eq] at hap88
              apply awp_draw mix 10 2 1 [2, 4, 80, 81, 82] (by kernel_rfl)
              rw [evK_succ]; simp +decide only [go_sem, Nat.reduceAdd, hb15, hb18, hb27, hb31, hb52, hb58, hb67, hx72d, hb75, hb82, hx83d, hx83e, hap88, fillA, fillOk, placeT]
              (repeat' apply And.intro) <;> first | refine callK_p _ (v_Clone_at w0 n _ _ _ x83 _ hy84) (by first | rfl | (simp +decide only [go_sem, Nat.reduceAdd, hb15, hb18, hb27, hb31, hb52, hb58, hb67, hx72d, hb75, hb82, hx83d, hx83e, hap88, fillA, fillOk, placeT]; done) | (simp +decide only [go_sem, Nat.reduceAdd, Vl.cs, Ty.cs, hb15, hb18, hb27, hb31, hb52, hb58, hb67, hx72d, hb75, hb82, hx83d, hx83e, hap88, fillA, fillOk, placeT]; done)) ?_ | exact cl
              rw [evK_succ]; simp +decide only [go_sem, Nat.reduceAdd, hb15, hb18, hb27, hb31, hb52, hb58, hb67, hx72d, hb75, hb82, hx83d, hx83e, hap88, fillA, fillOk, placeT]
              (repeat' with_reducible apply And.intro) <;> first | (rw [evK_succ]; simp +decide only [go_sem, Nat.reduceAdd, hb15, hb18, hb27, hb31, hb52, hb58, hb67, hx72d, hb75, hb82, hx83d, hx83e, hap88, fillA, fillOk, placeT]) | exact cl
              have hs := And.intro hx83d hs
              have hs := And.intro hx83e hs
              have hs := And.intro hap88 hs
              (repeat' apply And.intro) <;> first | refine hK70 _ _ ⟨(x4_l64 ++ ([(x72.2.1, y84)])), o86, ([.val (.int .i64 x72.1) :: (.val (.string x72.2.1) :: (.val (.int .i64 x72.2.2.1) :: ((x72.2.2.2.1.cs) ++ ([.list (x72.2.2.2.2.map avV) .none]))))]), rows87, ef hs, ef hs, Owns.of_eq (hO) (by first | rfl | simp only [List.length_append, List.length_cons, List.length_nil, List.length_map, Nat.zero_add, Nat.add_zero]), h⟩ | exact cl
            have hb82 := hs.1
            refine sk [2, 4, 80, 81, 82] hs hK70 ?_
            exact ⟨x4_l64, ox4_l64, ([.val (.int .i64 x72.1) :: (.val (.string x72.2.1) :: (.val (.int .i64 x72.2.2.1) :: ((x72.2.2.2.1.cs) ++ ([.list (x72.2.2.2.2.map avV) .none]))))]), rows_l64, ef hs, ef hs, Owns.of_eq (hO) (by first | rfl | simp only [List.length_append, List.length_cons, List.length_nil, List.length_map, Nat.zero_add, Nat.add_zero]), h⟩
          · clear h; rintro e st ⟨x4_k69, ox4_k69, X_k69, rows_k69, rfl, rfl, hO, h⟩
            rw [s_least_k69] at h
            have hU := hO.unders
            simp only [List.mem_cons, List.not_mem_nil, or_false, forall_eq_or_imp, forall_eq] at hU
            refine td hN hNR hNL hcalm hO ?_
            obtain ⟨hg89, h⟩ := guard_some h
            apply awp_region 1 [2, 4, 80, 81, 82]
            rw [evK_succ]; simp +decide only [go_sem, Nat.reduceAdd, hb15, hb18, hb27, hb31, hb52, hb58, hb67]
            (repeat' apply And.intro) <;> first | refine hKR_l64 m_l64 _ _ (Nat.lt_succ_self m_l64) ⟨x4_k69, (x82_l64 + 1), ox4_k69, ([]), rows_k69, ef hs, ef hs, Owns.of_eq (hO) (by first | rfl | simp only [List.length_append, List.length_cons, List.length_nil, List.length_map, Nat.zero_add, Nat.add_zero]), h⟩ | exact cl
        · clear h; rintro e st ⟨x4_k61, ox4_k61, X_k61, rows_k61, rfl, rfl, hO, h⟩
          rw [s_least_k61] at h
          have hU := hO.unders
          simp only [List.mem_cons, List.not_mem_nil, or_false, forall_eq_or_imp, forall_eq] at hU
          refine td hN hNR hNL hcalm hO ?_
          obtain ⟨y91, hy91, h⟩ := bind_some h
          refine rc 2 [2] hs ?_; intro K90 hK90
          refine callK_p _ (v_Record_at w0 n _ _ _ x4_k61 _ hy91) (hv hs) ?_
          refine ne hs hK90 ?_
          clear hK90
          exact rt h hs hcalm hO
      have hb58 := hs.1
      refine sk [1, 2] hs hK4 ?_
      exact ⟨([]), rows_k7, ef hs, ef hs, hO, h⟩
  · clear h; rintro e st ⟨X_k3, rows_k3, rfl, rfl, hO, h⟩
    rw [s_least_k3] at h
    refine td hN hNR hNL hcalm hO ?_
    apply awp_seq; intro K92 hK92
    apply awp_region 1 [2]
    rw [evK_succ]; simp +decide only [go_sem, Nat.reduceAdd, fillA, fillOk, placeT]
    (repeat' apply And.intro) <;> first | refine hK92 _ _ ?_ | exact cl
    clear hK92
    exact rt h hs hcalm hO
theorem s_least_at (w0 : World) : ∀ (n : Nat) (B : List (List AV)) (Rw : List RowA) (L : List LoopA) (a0 : Ty) (r : Vl) (h : s_least_F n a0 = some r), ACalls Tryz.prog w0 61 [.agg (a0.cs)] ⟨B, Rw, L⟩ fun x st => x = .agg (r.cs) ∧ st = ⟨B, Rw, L⟩
  | 0, _, _, _, _, _, h => (nomatch h)
  | n + 1, B, Rw, L, a0, r, h => s_least_step w0 (s_least_F n) (s_least_at w0 n) n B Rw L a0 r (by rw [s_least_F] at h; exact h)
end Go.Proofs.YtggimoedcamonaaGreatDoor
namespace Go.Proofs.YtggimoedcamonaaGreatDoor
open Go Go.RowKit Go.Ev
set_option linter.unusedSimpArgs false
set_option linter.unusedVariables false
def s_Least_F (n : Nat) (a0 : Ty) : Option (Vl × Int) :=
  (s_Check_F n a0).bind fun y4 =>
  if !(decide (y4 = 0)) then
    some ((Vl.mk 0 0 0 ((⟨#[]⟩ : ByteArray)) ([]) ([]), y4))
  else
    (s_least_F n a0).bind fun y9 =>
    some ((y9, 0))
set_option maxRecDepth 100000 in
set_option maxHeartbeats 4000000 in
theorem s_Least_at (w0 : World) (hT : Lib.Utf8Tabs 0 1 w0) (n : Nat) (B : List (List AV)) (Rw : List RowA) (L : List LoopA) (a0 : Ty) (r : Vl × Int) (h : s_Least_F n a0 = some r) :
    ACalls Tryz.prog w0 21 [.agg (a0.cs)] ⟨B, Rw, L⟩ fun x st => x = .tup [.agg (r.1.cs), .val (.int .i64 r.2)] ∧ st = ⟨B, Rw, L⟩ := by
  rw [s_Least_F] at h
  refine ACalls.finP (acalls_of (rs := [.cell 2 34, .tmp 3]) Tryz.func21 rfl rfl Tryz.ntmps21 (enters_some Tryz.func21 rfl (by decide)) (Nat.le_of_ble_eq_true rfl) ?_)
  intro M0 W0 hN hNR hNL hcalm hu
  dsimp only at hN hNR hNL hcalm hu
  simp only [argsE]
  have hO := Owns.none Rw
  have hs := fact0
  refine rg [1, 2] hs ?_
  apply awp_seq; intro K2 hK2
  obtain ⟨y4, hy4, h⟩ := bind_some h
  refine rc 2 [1, 2, 4] hs ?_; intro K3 hK3
  refine callK_p _ (s_Check_at w0 hT n _ _ _ a0 _ hy4) (hv hs) ?_
  refine ne hs hK3 ?_
  clear hK3
  refine rg [1, 2, 4, 8] hs ?_
  refine cnd h hs (fun hs h => ?_) (fun hs h => ?_)
  · skip
    have hb6 := hs.1
    apply awp_seq; intro K7 hK7
    apply awp_region 1 [2, 3]
    rw [evK_succ]; simp +decide only [go_sem, Nat.reduceAdd, hb6, fillA, fillOk, placeT]
    (repeat' apply And.intro) <;> first | refine hK7 _ _ ?_ | exact cl
    clear hK7
    exact rt h hs hcalm hO
  have hb6 := hs.1
  refine sk [1, 2] hs hK2 ?_
  clear hK2
  obtain ⟨y9, hy9, h⟩ := bind_some h
  refine rc 2 [2, 3] hs ?_; intro K8 hK8
  refine callK_p _ (s_least_at w0 n _ _ _ a0 _ hy9) (hv hs) ?_
  refine ne hs hK8 ?_
  clear hK8
  exact rt h hs hcalm hO
end Go.Proofs.YtggimoedcamonaaGreatDoor
namespace Go.Proofs.YtggimoedcamonaaGreatDoor
open Go Go.RowKit Go.Ev
set_option linter.unusedSimpArgs false
set_option linter.unusedVariables false
def l6_known_F (n : Nat)  : Option Bool :=
  (s_Least_F n (l6_example_F )).bind fun y4 =>
  (s_At_F n (l6_example_F ) ([Part.mk 1 0 ((⟨#[108]⟩ : ByteArray)), Part.mk 2 2 ((⟨#[]⟩ : ByteArray))])).bind fun y6 =>
  (s_Check_F n (l6_example_F )).bind fun y8 =>
  if ((decide (y8 = 0)) && (decide (y4.2 = 0))) && (decide (((y4.1.fields.length : Int)) = 1)) then
    (idx y4.1.fields 0).bind fun x10 =>
    if sEq x10.1 ((⟨#[110]⟩ : ByteArray)) then
      if decide (x10.2.int = 1) then
        (s_Accepts_F n (l6_example_F ) y4.1).bind fun y13 =>
        some ((((y13 && (decide (y6.2.2 = 0))) && y6.2.1) && (decide (y6.1.kind = 4))) && (decide (y6.1.max = 5)))
      else
        some (false)
    else
      some (false)
  else
    some (false)
set_option maxRecDepth 100000 in
set_option maxHeartbeats 4000000 in
theorem l6_known_at (w0 : World) (hP : Pow10 w0) (hT : Lib.Utf8Tabs 0 1 w0) (n : Nat) (B : List (List AV)) (Rw : List RowA) (L : List LoopA)  (r : Bool) (h : l6_known_F n  = some r) :
    ACalls Tryz.prog w0 14 [] ⟨B, Rw, L⟩ fun x st => x = .val (.bool r) ∧ st = ⟨B, Rw, L⟩ := by
  rw [l6_known_F] at h
  refine ACalls.finP (acalls_of (rs := [.tmp 0]) Tryz.func14 rfl rfl Tryz.ntmps14 (enters_some Tryz.func14 rfl (by decide)) (Nat.le_of_ble_eq_true rfl) ?_)
  intro M0 W0 hN hNR hNL hcalm hu
  dsimp only at hN hNR hNL hcalm hu
  simp only [argsE]
  have hO := Owns.none Rw
  have hs := fact0
  refine rg [] hs ?_
  refine rc 2 [1] hs ?_; intro K2 hK2
  refine callK_p _ (l6_example_at' w0 _ _ _ ) (hv hs) ?_
  refine ne hs hK2 ?_
  clear hK2
  obtain ⟨y4, hy4, h⟩ := bind_some h
  refine rc 2 [1, 2, 3] hs ?_; intro K3 hK3
  refine callK_p _ (s_Least_at w0 hT n _ _ _ (l6_example_F ) _ hy4) (hv hs) ?_
  refine ne hs hK3 ?_
  clear hK3
  apply awp_seq; intro K5 hK5
  obtain ⟨y6, hy6, h⟩ := bind_some h
  apply awp_region 2 [1, 2, 3, 4, 5, 6]
  rw [evK_succ]; simp +decide only [go_sem, Nat.reduceAdd, fillA, fillOk, placeT]
  (repeat' apply And.intro) <;> first | refine callK_p _ (s_At_at w0 hP hT n _ _ _ (l6_example_F ) ([Part.mk 1 0 ((⟨#[108]⟩ : ByteArray)), Part.mk 2 2 ((⟨#[]⟩ : ByteArray))]) _ hy6) (by first | rfl | (simp +decide only [go_sem, Nat.reduceAdd, fillA, fillOk, placeT]; done) | (simp +decide only [go_sem, Nat.reduceAdd, Vl.cs, Ty.cs, fillA, fillOk, placeT]; done)) ?_ | exact cl
  rw [evK_succ]; simp +decide only [go_sem, Nat.reduceAdd, fillA, fillOk, placeT]
  (repeat' apply And.intro) <;> first | refine hK5 _ _ ?_ | exact cl
  clear hK5
  apply awp_seq; intro K7 hK7
  obtain ⟨y8, hy8, h⟩ := bind_some h
  rcases Bool.eq_false_or_eq_true (((decide (y8 = 0)) && (decide (y4.2 = 0))) && (decide (((y4.1.fields.length : Int)) = 1))) with hf9 | hf9
  · replace h := ite_tt h hf9
    obtain ⟨x10, hx10, h⟩ := bind_some h
    obtain ⟨hx10a, hx10b, hx10c⟩ := idx_some hx10
    have hx10d := getD_map (f := avF) hx10c
    have hx10e : (y4.1.fields.map avF).getD 0 .junk = _ := hx10d
    rcases Bool.eq_false_or_eq_true (sEq x10.1 ((⟨#[110]⟩ : ByteArray))) with hf11 | hf11
    · replace h := ite_tt h hf11
      rcases Bool.eq_false_or_eq_true (decide (x10.2.int = 1)) with hf12 | hf12
      · replace h := ite_tt h hf12
        obtain ⟨y13, hy13, h⟩ := bind_some h
        apply awp_region 3 [0]
        rw [evK_succ]; simp +decide only [go_sem, Nat.reduceAdd, hf9, hx10d, hx10e, hf11, hf12]
        have hs := And.intro hf9 hs
        have hs := And.intro hx10d hs
        have hs := And.intro hx10e hs
        have hs := And.intro hf11 hs
        have hs := And.intro hf12 hs
        (repeat' apply And.intro) <;> first | refine callK_p _ (s_Check_at w0 hT n _ _ _ (l6_example_F ) _ hy8) (hv hs) ?_ | exact cl
        rw [evK_succ]; simp +decide only [go_sem, Nat.reduceAdd, hf9, hx10d, hx10e, hf11, hf12]
        (repeat' apply And.intro) <;> first | refine callK_p _ (s_Accepts_at w0 hT n _ _ _ (l6_example_F ) y4.1 _ hy13) (hv hs) ?_ | exact cl
        rw [evK_succ]; simp +decide only [go_sem, Nat.reduceAdd, hf9, hx10d, hx10e, hf11, hf12]
        (repeat' apply And.intro) <;> first | refine hK7 _ _ ?_ | exact cl
        clear hK7
        exact rt h hs hcalm hO
      · replace h := ite_ff h hf12
        apply awp_region 3 [0]
        rw [evK_succ]; simp +decide only [go_sem, Nat.reduceAdd, hf9, hx10d, hx10e, hf11, hf12]
        have hs := And.intro hf9 hs
        have hs := And.intro hx10d hs
        have hs := And.intro hx10e hs
        have hs := And.intro hf11 hs
        have hs := And.intro hf12 hs
        (repeat' apply And.intro) <;> first | refine callK_p _ (s_Check_at w0 hT n _ _ _ (l6_example_F ) _ hy8) (hv hs) ?_ | exact cl
        rw [evK_succ]; simp +decide only [go_sem, Nat.reduceAdd, hf9, hx10d, hx10e, hf11, hf12]
        (repeat' apply And.intro) <;> first | refine callK_skip ?_ | exact cl
        rw [evK_succ]; simp +decide only [go_sem, Nat.reduceAdd, hf9, hx10d, hx10e, hf11, hf12]
        (repeat' apply And.intro) <;> first | refine hK7 _ _ ?_ | exact cl
        clear hK7
        exact rt h hs hcalm hO
    · replace h := ite_ff h hf11
      apply awp_region 3 [0]
      rw [evK_succ]; simp +decide only [go_sem, Nat.reduceAdd, hf9, hx10d, hx10e, hf11]
      have hs := And.intro hf9 hs
      have hs := And.intro hx10d hs
      have hs := And.intro hx10e hs
      have hs := And.intro hf11 hs
      (repeat' apply And.intro) <;> first | refine callK_p _ (s_Check_at w0 hT n _ _ _ (l6_example_F ) _ hy8) (hv hs) ?_ | exact cl
      rw [evK_succ]; simp +decide only [go_sem, Nat.reduceAdd, hf9, hx10d, hx10e, hf11]
      (repeat' apply And.intro) <;> first | refine callK_skip ?_ | exact cl
      rw [evK_succ]; simp +decide only [go_sem, Nat.reduceAdd, hf9, hx10d, hx10e, hf11]
      (repeat' apply And.intro) <;> first | refine hK7 _ _ ?_ | exact cl
      clear hK7
      exact rt h hs hcalm hO
  · replace h := ite_ff h hf9
    apply awp_region 3 [0]
    rw [evK_succ]; simp +decide only [go_sem, Nat.reduceAdd, hf9]
    have hs := And.intro hf9 hs
    (repeat' apply And.intro) <;> first | refine callK_p _ (s_Check_at w0 hT n _ _ _ (l6_example_F ) _ hy8) (hv hs) ?_ | exact cl
    rw [evK_succ]; simp +decide only [go_sem, Nat.reduceAdd, hf9]
    (repeat' apply And.intro) <;> first | refine callK_skip ?_ | exact cl
    rw [evK_succ]; simp +decide only [go_sem, Nat.reduceAdd, hf9]
    (repeat' apply And.intro) <;> first | refine hK7 _ _ ?_ | exact cl
    clear hK7
    exact rt h hs hcalm hO
end Go.Proofs.YtggimoedcamonaaGreatDoor
namespace Go.Proofs.YtggimoedcamonaaGreatDoor
open Go Go.RowKit Go.Ev
set_option linter.unusedSimpArgs false
set_option linter.unusedVariables false
def s_FindKind_k3 (n : Nat)  : Option (Int × Int) :=
  some ((0, 8))
def s_FindKind_l6 (n : Nat) (a0 : ByteArray) : Nat → Int → Option (Int × Int)
  | 0, _ => none
  | m + 1, x4_l6 =>
    if decide (x4_l6 ≤ 10) then
      (idx (s_kinds_F ) x4_l6).bind fun x12 =>
      if sEq x12.name a0 then
        some ((x4_l6, 0))
      else
        if I64 (x4_l6 + 1) then
          (s_FindKind_l6 n a0 m) (x4_l6 + 1)
        else none
    else
      s_FindKind_k3 n 
def s_FindKind_F (n : Nat) (a0 : ByteArray) : Option (Int × Int) :=
  s_FindKind_l6 n a0 n 1
set_option maxRecDepth 100000 in
set_option maxHeartbeats 4000000 in
theorem s_FindKind_at (w0 : World) (n : Nat) (B : List (List AV)) (Rw : List RowA) (L : List LoopA) (a0 : ByteArray) (r : Int × Int) (h : s_FindKind_F n a0 = some r) :
    ACalls Tryz.prog w0 37 [.val (.string a0)] ⟨B, Rw, L⟩ fun x st => x = .tup [.val (.int .i64 r.1), .val (.int .i64 r.2)] ∧ st = ⟨B, Rw, L⟩ := by
  rw [s_FindKind_F] at h
  refine ACalls.finP (acalls_of (rs := [.tmp 2, .tmp 3]) Tryz.func37 rfl rfl Tryz.ntmps37 (enters_some Tryz.func37 rfl (by decide)) (Nat.le_of_ble_eq_true rfl) ?_)
  intro M0 W0 hN hNR hNL hcalm hu
  dsimp only at hN hNR hNL hcalm hu
  simp only [argsE]
  have hO := Owns.none Rw
  have hs := fact0
  refine rg [0] hs ?_
  refine awp_mid (fun e st => ∃ (X_k3 : List (List AV)) (rows_k3 : List RowA), e = [] ∧ st = ⟨B ++ ([] ++ X_k3), rows_k3, L⟩ ∧ Owns Rw rows_k3 [] ∧ s_FindKind_k3 n  = some r) ?_ ?_
  · intro K4 hK4
    refine rg [0, 4] hs ?_
    apply awp_block
    refine awp_loop (fun m e st => ∃ (x4_l6 : Int) (X_l6 : List (List AV)) (rows_l6 : List RowA), e = [(0, true, .val (.string a0)), (4, true, .val (.int .i64 x4_l6))] ∧ st = ⟨B ++ ([] ++ X_l6), rows_l6, L⟩ ∧ Owns Rw rows_l6 [] ∧ s_FindKind_l6 n a0 m x4_l6 = some r) n ⟨1, ([]), Rw, ef hs, ef hs, hO, h⟩ ?_
    rintro m_l6 e st ⟨x4_l6, X_l6, rows_l6, rfl, rfl, hO, h⟩ KR_l6 hKR_l6
    cases m_l6 with
    | zero => cases h
    | succ m_l6 =>
    rw [s_FindKind_l6] at h
    refine td hN hNR hNL hcalm hO ?_
    apply awp_seq; intro K7 hK7
    refine rg [0, 4, 6] hs ?_
    refine cnd h hs (fun hs h => ?_) (fun hs h => ?_)
    rotate_left
    · skip
      have hb9 := hs.1
      refine sx [] hs hK4 ?_
      exact ⟨([]), rows_l6, ef hs, ef hs, hO, h⟩
    have hb9 := hs.1
    refine sk [0, 4] hs hK7 ?_
    clear hK7
    apply awp_seq; intro K10 hK10
    apply awp_block
    apply awp_seq; intro K11 hK11
    obtain ⟨x12, hx12, h⟩ := bind_some h
    obtain ⟨hx12a, hx12b, hx12c⟩ := idx_some hx12
    have hx12d := flatMap_idx8 (f := fun x => (avLm x).cells) 8 (fun _ => rfl) hx12c
    have hx12n : (s_kinds_F ).length = 11 := rfl
    first | rw [hx12n] at hx12b | simp only [List.length_cons, List.length_nil, Nat.reduceAdd, Nat.zero_add] at hx12b
    simp only [avI_eq, avB_eq, avS_eq, avV_eq, avT_eq, avF_eq, avTF_eq, avPt_eq, avL_eq, avSch_eq, avItm_eq, avLm_eq, ev_AV_cells_agg] at hx12d
    apply awp_region 2 [0, 4, 14]
    rw [evK_succ]; simp +decide only [go_sem, Nat.reduceAdd, hb9, hx12d, Nat.mul_one]
    (repeat' apply And.intro) <;> first | refine callK_p _ (s_kinds_at' w0 _ _ _ ) (by first | rfl | (simp +decide only [go_sem, Nat.reduceAdd, hb9, hx12d, Nat.mul_one]; done) | (simp +decide only [go_sem, Nat.reduceAdd, Vl.cs, Ty.cs, hb9, hx12d, Nat.mul_one]; done)) ?_ | exact cl
    rw [evK_succ]; simp +decide only [go_sem, Nat.reduceAdd, hb9, hx12d, Nat.mul_one]
    (repeat' apply And.intro) <;> first | refine hK11 _ _ ?_ | exact cl
    clear hK11
    have hs := And.intro hx12d hs
    refine cnd h hs (fun hs h => ?_) (fun hs h => ?_)
    · skip
      have hb13 := hs.1
      refine rg [2, 3] hs ?_
      exact rt h hs hcalm hO
    have hb13 := hs.1
    refine sk [0, 4] hs hK10 ?_
    clear hK10
    obtain ⟨hg15, h⟩ := guard_some h
    apply awp_region 1 [0, 4]
    rw [evK_succ]; simp +decide only [go_sem, Nat.reduceAdd, hb9, hx12d, hb13]
    (repeat' apply And.intro) <;> first | refine hKR_l6 m_l6 _ _ (Nat.lt_succ_self m_l6) ⟨(x4_l6 + 1), ([]), rows_l6, ef hs, ef hs, hO, h⟩ | exact cl
  · clear h; rintro e st ⟨X_k3, rows_k3, rfl, rfl, hO, h⟩
    rw [s_FindKind_k3] at h
    refine td hN hNR hNL hcalm hO ?_
    refine rg [2, 3] hs ?_
    exact rt h hs hcalm hO
end Go.Proofs.YtggimoedcamonaaGreatDoor
namespace Go.Proofs.YtggimoedcamonaaGreatDoor
open Go Go.RowKit Go.Ev
set_option linter.unusedSimpArgs false
set_option linter.unusedVariables false
def s_KindName_F (a0 : Int) : Option (ByteArray × Int) :=
  if !(decide (1 ≤ a0) && decide (a0 ≤ 10)) then
    some (((⟨#[]⟩ : ByteArray), 11))
  else
    (idx (s_kinds_F ) a0).bind fun x7 =>
    some ((x7.name, 0))
set_option maxRecDepth 100000 in
set_option maxHeartbeats 4000000 in
theorem s_KindName_at (w0 : World) (B : List (List AV)) (Rw : List RowA) (L : List LoopA) (a0 : Int) (r : ByteArray × Int) (h : s_KindName_F a0 = some r) :
    ACalls Tryz.prog w0 36 [.val (.int .i64 a0)] ⟨B, Rw, L⟩ fun x st => x = .tup [.val (.string r.1), .val (.int .i64 r.2)] ∧ st = ⟨B, Rw, L⟩ := by
  rw [s_KindName_F] at h
  refine ACalls.finP (acalls_of (rs := [.tmp 2, .tmp 3]) Tryz.func36 rfl rfl Tryz.ntmps36 (enters_some Tryz.func36 rfl (by decide)) (Nat.le_of_ble_eq_true rfl) ?_)
  intro M0 W0 hN hNR hNL hcalm hu
  dsimp only at hN hNR hNL hcalm hu
  simp only [argsE]
  have hO := Owns.none Rw
  have hs := fact0
  refine rg [0] hs ?_
  apply awp_seq; intro K2 hK2
  refine rc 2 [0, 6] hs ?_; intro K3 hK3
  refine callK_p _ (in_at w0 _ _ _ a0 1 10) (hv hs) ?_
  refine ne hs hK3 ?_
  clear hK3
  refine cnd h hs (fun hs h => ?_) (fun hs h => ?_)
  · skip
    have hb4 := hs.1
    refine rg [2, 3] hs ?_
    exact rt h hs hcalm hO
  have hb4 := hs.1
  refine sk [0] hs hK2 ?_
  clear hK2
  apply awp_seq; intro K6 hK6
  obtain ⟨x7, hx7, h⟩ := bind_some h
  obtain ⟨hx7a, hx7b, hx7c⟩ := idx_some hx7
  have hx7d := flatMap_idx8 (f := fun x => (avLm x).cells) 8 (fun _ => rfl) hx7c
  have hx7n : (s_kinds_F ).length = 11 := rfl
  first | rw [hx7n] at hx7b | simp only [List.length_cons, List.length_nil, Nat.reduceAdd, Nat.zero_add] at hx7b
  simp only [avI_eq, avB_eq, avS_eq, avV_eq, avT_eq, avF_eq, avTF_eq, avPt_eq, avL_eq, avSch_eq, avItm_eq, avLm_eq, ev_AV_cells_agg] at hx7d
  apply awp_region 2 [2, 3]
  rw [evK_succ]; simp +decide only [go_sem, Nat.reduceAdd, hb4, hx7d, Nat.mul_one]
  (repeat' apply And.intro) <;> first | refine callK_p _ (s_kinds_at' w0 _ _ _ ) (by first | rfl | (simp +decide only [go_sem, Nat.reduceAdd, hb4, hx7d, Nat.mul_one]; done) | (simp +decide only [go_sem, Nat.reduceAdd, Vl.cs, Ty.cs, hb4, hx7d, Nat.mul_one]; done)) ?_ | exact cl
  rw [evK_succ]; simp +decide only [go_sem, Nat.reduceAdd, hb4, hx7d, Nat.mul_one]
  (repeat' apply And.intro) <;> first | refine hK6 _ _ ?_ | exact cl
  clear hK6
  have hs := And.intro hx7d hs
  exact rt h hs hcalm hO
end Go.Proofs.YtggimoedcamonaaGreatDoor
namespace Go.Proofs.YtggimoedcamonaaGreatDoor
open Go Go.RowKit Go.Ev
set_option linter.unusedSimpArgs false
set_option linter.unusedVariables false
def l6_SchemaKinds_k17 (n : Nat) (again_l12 : Int → Int → Option Bool) (x11_l12 : Int) (x10_k17 : Int) : Option Bool :=
  if I64 (x11_l12 + 1) then
    again_l12 x10_k17 (x11_l12 + 1)
  else none
def l6_SchemaKinds_k9 (n : Nat) (a0 : Int) (y4 : (ByteArray × Int)) (y6 : (Int × Int)) (x10_k9 : Int) : Option Bool :=
  (l6_known_F n ).bind fun y25 =>
  if (((!y25) || (!(decide (y6.1 = x10_k9)))) || ((decide (y6.2 = 0)) != (decide (0 < x10_k9)))) || ((decide (x10_k9 = 0)) && (!(decide (y6.2 = 8)))) then
    some (false)
  else
    if (decide (a0 < 1)) || (decide (10 < a0)) then
      some ((sEq y4.1 ((⟨#[]⟩ : ByteArray))) && (decide (y4.2 = 11)))
    else
      (idx ([(⟨#[]⟩ : ByteArray), (⟨#[98, 111, 111, 108]⟩ : ByteArray), (⟨#[105, 110, 116]⟩ : ByteArray), (⟨#[100, 101, 99, 105, 109, 97, 108]⟩ : ByteArray), (⟨#[116, 101, 120, 116]⟩ : ByteArray), (⟨#[98, 121, 116, 101, 115]⟩ : ByteArray), (⟨#[100, 97, 116, 101]⟩ : ByteArray), (⟨#[116, 105, 109, 101]⟩ : ByteArray), (⟨#[108, 105, 115, 116]⟩ : ByteArray), (⟨#[114, 101, 99, 111, 114, 100]⟩ : ByteArray), (⟨#[118, 97, 114, 105, 97, 110, 116]⟩ : ByteArray)]) a0).bind fun x33 =>
      some ((sEq y4.1 x33) && (decide (y4.2 = 0)))
def l6_SchemaKinds_l12 (n : Nat) (a0 : Int) (a1 : ByteArray) (y4 : (ByteArray × Int)) (y6 : (Int × Int)) : Nat → Int → Int → Option Bool
  | 0, _, _ => none
  | m + 1, x10_l12, x11_l12 =>
    if decide (x11_l12 < 11) then
      (idx ([(⟨#[]⟩ : ByteArray), (⟨#[98, 111, 111, 108]⟩ : ByteArray), (⟨#[105, 110, 116]⟩ : ByteArray), (⟨#[100, 101, 99, 105, 109, 97, 108]⟩ : ByteArray), (⟨#[116, 101, 120, 116]⟩ : ByteArray), (⟨#[98, 121, 116, 101, 115]⟩ : ByteArray), (⟨#[100, 97, 116, 101]⟩ : ByteArray), (⟨#[116, 105, 109, 101]⟩ : ByteArray), (⟨#[108, 105, 115, 116]⟩ : ByteArray), (⟨#[114, 101, 99, 111, 114, 100]⟩ : ByteArray), (⟨#[118, 97, 114, 105, 97, 110, 116]⟩ : ByteArray)]) x11_l12).bind fun x20 =>
      if sEq x20 a1 then
        l6_SchemaKinds_k17 n (l6_SchemaKinds_l12 n a0 a1 y4 y6 m) x11_l12 x11_l12
      else
        l6_SchemaKinds_k17 n (l6_SchemaKinds_l12 n a0 a1 y4 y6 m) x11_l12 x10_l12
    else
      l6_SchemaKinds_k9 n a0 y4 y6 x10_l12
def l6_SchemaKinds_F (n : Nat) (a0 : Int) (a1 : ByteArray) : Option Bool :=
  (s_KindName_F a0).bind fun y4 =>
  (s_FindKind_F n a1).bind fun y6 =>
  l6_SchemaKinds_l12 n a0 a1 y4 y6 n 0 1
set_option maxRecDepth 100000 in
set_option maxHeartbeats 4000000 in
theorem l6_SchemaKinds_at (w0 : World) (hP : Pow10 w0) (hT : Lib.Utf8Tabs 0 1 w0) (n : Nat) (B : List (List AV)) (Rw : List RowA) (L : List LoopA) (a0 : Int) (a1 : ByteArray) (r : Bool) (h : l6_SchemaKinds_F n a0 a1 = some r) :
    ACalls Tryz.prog w0 9 [.val (.int .i64 a0), .val (.string a1)] ⟨B, Rw, L⟩ fun x st => x = .val (.bool r) ∧ st = ⟨B, Rw, L⟩ := by
  rw [l6_SchemaKinds_F] at h
  refine ACalls.finP (acalls_of (rs := [.tmp 4]) Tryz.func9 rfl rfl Tryz.ntmps9 (enters_some Tryz.func9 rfl (by decide)) (Nat.le_of_ble_eq_true rfl) ?_)
  intro M0 W0 hN hNR hNL hcalm hu
  dsimp only at hN hNR hNL hcalm hu
  simp only [argsE]
  have hO := Owns.none Rw
  have hs := fact0
  refine rg [0, 1] hs ?_
  refine rg [0, 1, 5] hs ?_
  obtain ⟨y4, hy4, h⟩ := bind_some h
  refine rc 2 [0, 1, 5, 6, 7] hs ?_; intro K3 hK3
  refine callK_p _ (s_KindName_at w0 _ _ _ a0 _ hy4) (hv hs) ?_
  refine ne hs hK3 ?_
  clear hK3
  obtain ⟨y6, hy6, h⟩ := bind_some h
  refine rc 2 [0, 1, 5, 6, 7, 8, 9] hs ?_; intro K5 hK5
  refine callK_p _ (s_FindKind_at w0 n _ _ _ a1 _ hy6) (hv hs) ?_
  refine ne hs hK5 ?_
  clear hK5
  refine rg [0, 1, 5, 6, 7, 8, 9, 10] hs ?_
  refine awp_mid (fun e st => ∃ (x10_k9 : Int) (X_k9 : List (List AV)) (rows_k9 : List RowA), e = [(0, true, .val (.int .i64 a0)), (5, true, .list (([(⟨#[]⟩ : ByteArray), (⟨#[98, 111, 111, 108]⟩ : ByteArray), (⟨#[105, 110, 116]⟩ : ByteArray), (⟨#[100, 101, 99, 105, 109, 97, 108]⟩ : ByteArray), (⟨#[116, 101, 120, 116]⟩ : ByteArray), (⟨#[98, 121, 116, 101, 115]⟩ : ByteArray), (⟨#[100, 97, 116, 101]⟩ : ByteArray), (⟨#[116, 105, 109, 101]⟩ : ByteArray), (⟨#[108, 105, 115, 116]⟩ : ByteArray), (⟨#[114, 101, 99, 111, 114, 100]⟩ : ByteArray), (⟨#[118, 97, 114, 105, 97, 110, 116]⟩ : ByteArray)]).map avS) .full), (6, true, .val (.string y4.1)), (7, true, .val (.int .i64 y4.2)), (8, true, .val (.int .i64 y6.1)), (9, true, .val (.int .i64 y6.2)), (10, true, .val (.int .i64 x10_k9))] ∧ st = ⟨B ++ ([] ++ X_k9), rows_k9, L⟩ ∧ Owns Rw rows_k9 [] ∧ l6_SchemaKinds_k9 n a0 y4 y6 x10_k9 = some r) ?_ ?_
  · intro K10 hK10
    refine rg [0, 1, 5, 6, 7, 8, 9, 10, 11] hs ?_
    apply awp_block
    refine awp_loop (fun m e st => ∃ (x10_l12 : Int) (x11_l12 : Int) (X_l12 : List (List AV)) (rows_l12 : List RowA), e = [(0, true, .val (.int .i64 a0)), (1, true, .val (.string a1)), (5, true, .list (([(⟨#[]⟩ : ByteArray), (⟨#[98, 111, 111, 108]⟩ : ByteArray), (⟨#[105, 110, 116]⟩ : ByteArray), (⟨#[100, 101, 99, 105, 109, 97, 108]⟩ : ByteArray), (⟨#[116, 101, 120, 116]⟩ : ByteArray), (⟨#[98, 121, 116, 101, 115]⟩ : ByteArray), (⟨#[100, 97, 116, 101]⟩ : ByteArray), (⟨#[116, 105, 109, 101]⟩ : ByteArray), (⟨#[108, 105, 115, 116]⟩ : ByteArray), (⟨#[114, 101, 99, 111, 114, 100]⟩ : ByteArray), (⟨#[118, 97, 114, 105, 97, 110, 116]⟩ : ByteArray)]).map avS) .full), (6, true, .val (.string y4.1)), (7, true, .val (.int .i64 y4.2)), (8, true, .val (.int .i64 y6.1)), (9, true, .val (.int .i64 y6.2)), (10, true, .val (.int .i64 x10_l12)), (11, true, .val (.int .i64 x11_l12))] ∧ st = ⟨B ++ ([] ++ X_l12), rows_l12, L⟩ ∧ Owns Rw rows_l12 [] ∧ l6_SchemaKinds_l12 n a0 a1 y4 y6 m x10_l12 x11_l12 = some r) n ⟨0, 1, ([]), Rw, ef hs, ef hs, hO, h⟩ ?_
    rintro m_l12 e st ⟨x10_l12, x11_l12, X_l12, rows_l12, rfl, rfl, hO, h⟩ KR_l12 hKR_l12
    cases m_l12 with
    | zero => cases h
    | succ m_l12 =>
    rw [l6_SchemaKinds_l12] at h
    refine td hN hNR hNL hcalm hO ?_
    apply awp_seq; intro K13 hK13
    refine rg [0, 1, 5, 6, 7, 8, 9, 10, 11, 26] hs ?_
    refine cnd h hs (fun hs h => ?_) (fun hs h => ?_)
    rotate_left
    · skip
      have hb15 := hs.1
      refine sx [0, 5, 6, 7, 8, 9, 10] hs hK10 ?_
      exact ⟨x10_l12, ([]), rows_l12, ef hs, ef hs, hO, h⟩
    have hb15 := hs.1
    refine sk [0, 1, 5, 6, 7, 8, 9, 10, 11] hs hK13 ?_
    clear hK13
    refine awp_mid (fun e st => ∃ (x10_k17 : Int) (X_k17 : List (List AV)) (rows_k17 : List RowA), e = [(0, true, .val (.int .i64 a0)), (1, true, .val (.string a1)), (5, true, .list (([(⟨#[]⟩ : ByteArray), (⟨#[98, 111, 111, 108]⟩ : ByteArray), (⟨#[105, 110, 116]⟩ : ByteArray), (⟨#[100, 101, 99, 105, 109, 97, 108]⟩ : ByteArray), (⟨#[116, 101, 120, 116]⟩ : ByteArray), (⟨#[98, 121, 116, 101, 115]⟩ : ByteArray), (⟨#[100, 97, 116, 101]⟩ : ByteArray), (⟨#[116, 105, 109, 101]⟩ : ByteArray), (⟨#[108, 105, 115, 116]⟩ : ByteArray), (⟨#[114, 101, 99, 111, 114, 100]⟩ : ByteArray), (⟨#[118, 97, 114, 105, 97, 110, 116]⟩ : ByteArray)]).map avS) .full), (6, true, .val (.string y4.1)), (7, true, .val (.int .i64 y4.2)), (8, true, .val (.int .i64 y6.1)), (9, true, .val (.int .i64 y6.2)), (10, true, .val (.int .i64 x10_k17)), (11, true, .val (.int .i64 x11_l12))] ∧ st = ⟨B ++ ([] ++ X_k17), rows_k17, L⟩ ∧ Owns Rw rows_k17 [] ∧ l6_SchemaKinds_k17 n (l6_SchemaKinds_l12 n a0 a1 y4 y6 m_l12) x11_l12 x10_k17 = some r) ?_ ?_
    · intro K18 hK18
      apply awp_block
      obtain ⟨x20, hx20, h⟩ := bind_some h
      obtain ⟨hx20a, hx20b, hx20c⟩ := idx_some hx20
      have hx20d := getD_map (f := avS) hx20c
      simp only [List.map_cons, List.map_nil, avI_eq, avB_eq, avS_eq, avV_eq, avT_eq, avF_eq, avTF_eq, avPt_eq, avL_eq, avSch_eq, avItm_eq, avLm_eq] at hx20d
      simp only [List.length_cons, List.length_nil] at hx20b
      have hs := And.intro hx20d hs
      refine rg [0, 1, 5, 6, 7, 8, 9, 10, 11, 34] hs ?_
      refine cnd h hs (fun hs h => ?_) (fun hs h => ?_)
      · skip
        have hb21 := hs.1
        apply awp_region 1 [0, 1, 5, 6, 7, 8, 9, 10, 11]
        rw [evK_succ]; simp +decide only [go_sem, Nat.reduceAdd, hb15, hx20d, hb21]
        (repeat' apply And.intro) <;> first | refine hK18 _ _ ⟨x11_l12, ([]), rows_l12, ef hs, ef hs, hO, h⟩ | exact cl
      have hb21 := hs.1
      refine sk [0, 1, 5, 6, 7, 8, 9, 10, 11] hs hK18 ?_
      exact ⟨x10_l12, ([]), rows_l12, ef hs, ef hs, hO, h⟩
    · clear h; rintro e st ⟨x10_k17, X_k17, rows_k17, rfl, rfl, hO, h⟩
      rw [l6_SchemaKinds_k17] at h
      refine td hN hNR hNL hcalm hO ?_
      obtain ⟨hg22, h⟩ := guard_some h
      apply awp_region 1 [0, 1, 5, 6, 7, 8, 9, 10, 11]
      rw [evK_succ]; simp +decide only [go_sem, Nat.reduceAdd, hb15]
      (repeat' apply And.intro) <;> first | refine hKR_l12 m_l12 _ _ (Nat.lt_succ_self m_l12) ⟨x10_k17, (x11_l12 + 1), ([]), rows_k17, ef hs, ef hs, hO, h⟩ | exact cl
  · clear h; rintro e st ⟨x10_k9, X_k9, rows_k9, rfl, rfl, hO, h⟩
    rw [l6_SchemaKinds_k9] at h
    refine td hN hNR hNL hcalm hO ?_
    apply awp_seq; intro K23 hK23
    obtain ⟨y25, hy25, h⟩ := bind_some h
    refine rc 2 [0, 5, 6, 7, 57] hs ?_; intro K24 hK24
    refine callK_p _ (l6_known_at w0 hP hT n _ _ _  _ hy25) (hv hs) ?_
    refine ne hs hK24 ?_
    clear hK24
    refine cnd h hs (fun hs h => ?_) (fun hs h => ?_)
    · skip
      refine rg [4] hs ?_
      exact rt h hs hcalm hO
    refine sk [0, 5, 6, 7] hs hK23 ?_
    clear hK23
    apply awp_seq; intro K28 hK28
    refine rg [0, 5, 6, 7, 63] hs ?_
    refine cnd h hs (fun hs h => ?_) (fun hs h => ?_)
    · skip
      refine rg [4] hs ?_
      exact rt h hs hcalm hO
    refine sk [0, 5, 6, 7] hs hK28 ?_
    clear hK28
    obtain ⟨x33, hx33, h⟩ := bind_some h
    obtain ⟨hx33a, hx33b, hx33c⟩ := idx_some hx33
    have hx33d := getD_map (f := avS) hx33c
    simp only [List.map_cons, List.map_nil, avI_eq, avB_eq, avS_eq, avV_eq, avT_eq, avF_eq, avTF_eq, avPt_eq, avL_eq, avSch_eq, avItm_eq, avLm_eq] at hx33d
    simp only [List.length_cons, List.length_nil] at hx33b
    have hs := And.intro hx33d hs
    refine rg [4] hs ?_
    exact rt h hs hcalm hO
end Go.Proofs.YtggimoedcamonaaGreatDoor
namespace Go.Proofs.YtggimoedcamonaaGreatDoor
open Go Go.RowKit Go.Ev
set_option maxRecDepth 100000 in
theorem known_n (m : Nat) : l6_known_F (m + 60) = some true := by kernel_rfl
theorem known_60 : l6_known_F 60 = some true := known_n 0
theorem sEq_iff (x y : ByteArray) : sEq x y = true ↔ x = y := by
  unfold sEq
  rw [beq_iff_eq]
  constructor
  · intro h
    cases x; cases y
    simp at h
    rw [h]
  · rintro rfl; rfl
theorem kinds_range (a0 : Int) (h1 : 1 ≤ a0) (h2 : a0 ≤ 10) : a0 = 1 ∨ a0 = 2 ∨ a0 = 3 ∨ a0 = 4 ∨ a0 = 5 ∨ a0 = 6 ∨ a0 = 7 ∨ a0 = 8 ∨ a0 = 9 ∨ a0 = 10 := by omega
set_option maxRecDepth 100000 in
theorem kinds_k9 (a0 : Int) (k e : Int) (hk : ((decide (e = 0)) != (decide (0 < k))) = false) (hk2 : (decide (k = 0) && !(decide (e = 8))) = false) : (s_KindName_F a0).bind (fun y4 => l6_SchemaKinds_k9 60 a0 y4 (k, e) k) = some true := by
  by_cases h : 1 ≤ a0 ∧ a0 ≤ 10
  · rcases kinds_range a0 h.1 h.2 with rfl | rfl | rfl | rfl | rfl | rfl | rfl | rfl | rfl | rfl
    all_goals
      simp only [l6_SchemaKinds_k9, known_60, Option.bind_some, hk, hk2, decide_true, Bool.not_true, Bool.or_self, Bool.false_eq_true, if_false]
      rfl
  · have e1 : s_KindName_F a0 = some (⟨#[]⟩, 11) := by
      unfold s_KindName_F
      rw [if_pos]
      simp only [Bool.not_eq_true', Bool.and_eq_false_iff, decide_eq_false_iff_not]
      omega
    rw [e1]
    simp only [l6_SchemaKinds_k9, known_60, Option.bind_some, hk, hk2, decide_true, Bool.not_true, Bool.or_self, Bool.false_eq_true, if_false]
    rw [if_pos]
    · rfl
    · simp only [Bool.or_eq_true, decide_eq_true_eq]; omega
theorem kinds_F (a0 : Int) (a1 : ByteArray) (y6 : Int × Int) (h : s_FindKind_F 60 a1 = some y6) : l6_SchemaKinds_F 60 a0 a1 = (s_KindName_F a0).bind fun y4 => l6_SchemaKinds_l12 60 a0 a1 y4 y6 60 0 1 := by
  unfold l6_SchemaKinds_F
  rw [h]
  rfl
set_option maxRecDepth 100000 in
set_option maxHeartbeats 4000000 in
theorem kinds_plain (a0 : Int) (a1 : ByteArray) : l6_SchemaKinds_F 60 a0 a1 = some true := by
  by_cases q1 : sEq ⟨#[98, 111, 111, 108]⟩ a1 = true
  · rw [sEq_iff] at q1; subst q1; rw [kinds_F a0 _ (1, 0) (by kernel_rfl)]; exact Eq.trans (congrArg _ (funext fun y4 => (by kernel_rfl))) (kinds_k9 a0 1 0 rfl rfl)
  by_cases q2 : sEq ⟨#[105, 110, 116]⟩ a1 = true
  · rw [sEq_iff] at q2; subst q2; rw [kinds_F a0 _ (2, 0) (by kernel_rfl)]; exact Eq.trans (congrArg _ (funext fun y4 => (by kernel_rfl))) (kinds_k9 a0 2 0 rfl rfl)
  by_cases q3 : sEq ⟨#[100, 101, 99, 105, 109, 97, 108]⟩ a1 = true
  · rw [sEq_iff] at q3; subst q3; rw [kinds_F a0 _ (3, 0) (by kernel_rfl)]; exact Eq.trans (congrArg _ (funext fun y4 => (by kernel_rfl))) (kinds_k9 a0 3 0 rfl rfl)
  by_cases q4 : sEq ⟨#[116, 101, 120, 116]⟩ a1 = true
  · rw [sEq_iff] at q4; subst q4; rw [kinds_F a0 _ (4, 0) (by kernel_rfl)]; exact Eq.trans (congrArg _ (funext fun y4 => (by kernel_rfl))) (kinds_k9 a0 4 0 rfl rfl)
  by_cases q5 : sEq ⟨#[98, 121, 116, 101, 115]⟩ a1 = true
  · rw [sEq_iff] at q5; subst q5; rw [kinds_F a0 _ (5, 0) (by kernel_rfl)]; exact Eq.trans (congrArg _ (funext fun y4 => (by kernel_rfl))) (kinds_k9 a0 5 0 rfl rfl)
  by_cases q6 : sEq ⟨#[100, 97, 116, 101]⟩ a1 = true
  · rw [sEq_iff] at q6; subst q6; rw [kinds_F a0 _ (6, 0) (by kernel_rfl)]; exact Eq.trans (congrArg _ (funext fun y4 => (by kernel_rfl))) (kinds_k9 a0 6 0 rfl rfl)
  by_cases q7 : sEq ⟨#[116, 105, 109, 101]⟩ a1 = true
  · rw [sEq_iff] at q7; subst q7; rw [kinds_F a0 _ (7, 0) (by kernel_rfl)]; exact Eq.trans (congrArg _ (funext fun y4 => (by kernel_rfl))) (kinds_k9 a0 7 0 rfl rfl)
  by_cases q8 : sEq ⟨#[108, 105, 115, 116]⟩ a1 = true
  · rw [sEq_iff] at q8; subst q8; rw [kinds_F a0 _ (8, 0) (by kernel_rfl)]; exact Eq.trans (congrArg _ (funext fun y4 => (by kernel_rfl))) (kinds_k9 a0 8 0 rfl rfl)
  by_cases q9 : sEq ⟨#[114, 101, 99, 111, 114, 100]⟩ a1 = true
  · rw [sEq_iff] at q9; subst q9; rw [kinds_F a0 _ (9, 0) (by kernel_rfl)]; exact Eq.trans (congrArg _ (funext fun y4 => (by kernel_rfl))) (kinds_k9 a0 9 0 rfl rfl)
  by_cases qa : sEq ⟨#[118, 97, 114, 105, 97, 110, 116]⟩ a1 = true
  · rw [sEq_iff] at qa; subst qa; rw [kinds_F a0 _ (10, 0) (by kernel_rfl)]; exact Eq.trans (congrArg _ (funext fun y4 => (by kernel_rfl))) (kinds_k9 a0 10 0 rfl rfl)
  have ix : ∀ (l : List Lim) (i : Nat), idx l (i : Int) = l[i]? := fun l i => by simp [idx]
  have iy : ∀ (l : List ByteArray) (i : Nat), idx l (i : Int) = l[i]? := fun l i => by simp [idx]
  have e1 : s_FindKind_F 60 a1 = some (0, 8) := by
    simp +decide [s_FindKind_F, s_FindKind_l6, s_FindKind_k3, s_kinds_F, idx, q1, q2, q3, q4, q5, q6, q7, q8, q9, qa]
  rw [kinds_F a0 a1 _ e1]
  refine Eq.trans (congrArg _ (funext fun y4 => ?_)) (kinds_k9 a0 0 8 rfl rfl)
  simp +decide [l6_SchemaKinds_l12, l6_SchemaKinds_k17, idx, q1, q2, q3, q4, q5, q6, q7, q8, q9, qa]
end Go.Proofs.YtggimoedcamonaaGreatDoor
namespace Go.Ev
open Go Go.RowKit
def Mem.start : Mem := ⟨0, 0, fun _ => 0, fun _ => 0, fun _ => 0, fun _ => 0, fun _ => 0, fun _ => 0, 0, fun _ => 0⟩
theorem start_rel (W : World) : RelSt W Mem.start ⟨[], [], []⟩ W where
  below := .refl _ _
  N := rfl
  NR := rfl
  top := fun _ _ => rfl
  inj := fun _ _ h => absurd h (Nat.not_lt_zero _)
  box := fun _ _ h => by simp at h
  row := fun _ _ h => by simp at h
  rowinj := fun _ _ h => absurd h (Nat.not_lt_zero _)
  loop := ⟨rfl, fun _ _ h => absurd h (Nat.not_lt_zero _), fun _ _ h => by simp at h⟩
theorem calls_of_acalls {P : Program} {f : FuncId} {W : World} {vals : Array Value} {args : List AV} {r : Value} (h : ACalls P W f args ⟨[], [], []⟩ fun v st => v = .val r ∧ st = ⟨[], [], []⟩) (hr : RowR W Mem.start W vals args) :
    Calls P f vals W fun e w' => e = .returned r ∧ Below W.heap.size W w' :=
  (h.2 Mem.start W vals (start_rel W) hr).mono fun en w' ⟨v, M', a, st, h1, ⟨h2, _⟩, _, h4, h5⟩ => by
    subst h2
    have := h5.val_inv.1
    subst this
    exact ⟨h1, h4.below⟩
theorem rowR_two {W : World} {v u : Value} {x y : AV} (h : R W Mem.start W v x) (k : R W Mem.start W u y) : RowR W Mem.start W #[v, u] [x, y] := ⟨rfl, fun i h1 h2 => by
  have : i = 0 ∨ i = 1 := by simp at h2; omega
  rcases this with rfl | rfl
  · exact h
  · exact k⟩
end Go.Ev
namespace Go.Proofs.YtggimoedcamonaaGreatDoor
open Go Go.Shelf Go.ChangeShapes Go.WideShapes Go.ChangeAt Go.RowKit Go.Lib Go.Ev
open Go.ChangeMaps (open_string shut_string)
set_option maxRecDepth 100000
theorem law_own : ownKnob Tryz.prog.godebug = none := by kernel_rfl
def flat1 : DataW Unit → List Value
  | .lit (.int k z) => [.int k z]
  | .agg l => l.flatMap fun | .lit (.int k z) => [.int k z] | _ => []
  | _ => []
def flat2 : DataW Unit → List Value
  | .agg l => l.flatMap flat1
  | _ => []
noncomputable def lawWorld (os : Os) : World :=
  let w0 := World.holding Tryz.prog os ⟨#[], #[], []⟩
  let put (h : Array Obj) (g : Nat) (d : DataW Unit) : Array Obj := h.modify g fun
    | .cells _ t frozen => .cells (flat2 d).toArray t frozen
    | o => o
  { w0 with heap := put (put (put (put (put w0.heap 0 Rows.laid_unicode_utf8_first) 1 Rows.laid_unicode_utf8_acceptRanges) 3 Rows.laid_internal_strconv_uint64pow10) 4 Rows.laid_math_bits_deBruijn32tab) 5 Rows.laid_math_bits_deBruijn64tab }
theorem law_laid_met (os : Os) (args : Array Value) : laidMet Tryz.prog Rows.schemaKindsRow.laid ((lawWorld os).forCall (fun _ _ => 0) ⟨#[], args, []⟩).memory :=
  (LaidIn.of_run (l := Rows.schemaKindsRow.laid) [4, 5, 3, 1, 0] 8 (by kernel_rfl) (by kernel_rfl) (by kernel_rfl) (by kernel_rfl)).met
theorem pow10_of_reads {W : World} (h : Lib.VarReads Tryz.prog W pow10Name Rows.laid_internal_strconv_uint64pow10) : Pow10 W := by
  obtain ⟨g, t, cs, fuel, p, h1, h2, h3, h4⟩ := h
  obtain rfl := Option.some.inj ((show Tryz.prog.globalNamed pow10Name = some 3 by kernel_rfl).symm.trans h1)
  obtain rfl := Option.some.inj ((show (Tryz.prog.globals[3]?).map (·.type) = some 227 by kernel_rfl).symm.trans h2)
  have e : (Rows.laid_internal_strconv_uint64pow10 : DataW Unit) = Lib.tabData .u64 Lib.pow10Tab := by kernel_rfl
  rw [e] at h4
  unfold Pow10 Lib.TabIs
  rw [h3, ← Lib.cells_of_tab (n := 20) (k := .u64) (zs := Lib.pow10Tab) Tryz.underlying227 Tryz.underlying192 (by kernel_rfl) (by kernel_rfl) h4]
set_option maxRecDepth 100000 in
theorem law_tabs {W : World} (hL : laidMet Tryz.prog Rows.schemaKindsRow.laid W) : Lib.Utf8Tabs 0 1 W ∧ Pow10 W :=
  ⟨utf8Tabs_of_readsT (U8Types.of196 Tryz.laysValid) ⟨by kernel_rfl, by kernel_rfl, by kernel_rfl, by kernel_rfl, by kernel_rfl, by kernel_rfl, by kernel_rfl⟩ (Lib.laidMet.reads hL (.tail _ (.tail _ (.tail _ (.tail _ (.head _)))))) (Lib.laidMet.reads hL (.tail _ (.tail _ (.tail _ (.head _))))),
    pow10_of_reads (Lib.laidMet.reads hL (.tail _ (.tail _ (.head _))))⟩
section
variable {H : Type} {enc : TypeId × Value → H} {W : World} {base : Nat} {v : Value} {d : DataW H} {p : List MemPlace}
theorem open_i (hv : Value.okWide Tryz.prog W .any base 3 v) (h : DataW.Trod enc Tryz.prog W 0 (fun _ => true) true 3 v d p) : ∃ n : Int, (-9223372036854775808 ≤ n ∧ n ≤ 9223372036854775807) ∧ R W Mem.start W v (.val (.int .i64 n)) := by
  obtain ⟨n, rfl, rfl, rfl, wn⟩ := open_int Tryz.underlying3 hv h
  refine ⟨n, ?_, .flat rfl⟩
  simp [Lit.wf, IntKind.min, IntKind.max, IntKind.signed, IntKind.bits] at wn
  omega
theorem open_s (hv : Value.okWide Tryz.prog W .any base 9 v) (h : DataW.Trod enc Tryz.prog W 0 (fun _ => true) true 9 v d p) : ∃ s : ByteArray, s.size ≤ maxLen ∧ R W Mem.start W v (.val (.string s)) := by
  obtain ⟨s, rfl, rfl, rfl, ws⟩ := open_string Tryz.underlying9 hv h
  exact ⟨s, ws, .flat (decide_eq_true ws)⟩
end
end Go.Proofs.YtggimoedcamonaaGreatDoor
namespace Go.Proofs.YtggimoedcamonaaGreatDoor
open Go Go.Shelf Go.ChangeShapes Go.WideShapes Go.ChangeAt Go.RowKit Go.Lib Go.Ev
abbrev schKindsSpec : OpenSpec := OpenSpec.ofChange Rows.schemaKindsSpec
theorem schKinds_witness (os : Os) {H : Type} (enc : TypeId × Value → H) :
    schKindsSpec.preRow enc Tryz.prog Tryz.f9 Rows.schemaKindsRow.domain false Rows.schemaKindsRow.laid ((lawWorld os).forCall (fun _ _ => 0) ⟨#[], #[Value.int .i64 0, Value.string ⟨#[]⟩], []⟩).memory #[Value.int .i64 0, Value.string ⟨#[]⟩] := by
  have hw : (DataW.whole enc Tryz.prog ((lawWorld os).forCall (fun _ _ => 0) ⟨#[], #[Value.int .i64 0, Value.string ⟨#[]⟩], []⟩).memory Tryz.f9.params.toList schKindsSpec.vars false (#[Value.int .i64 0, Value.string ⟨#[]⟩]).toList 8).map (fun x => (x.1, x.2.1)) =
      some ([.lit (.int .i64 0), .lit (.string [])], []) := by kernel_rfl
  obtain ⟨⟨x1, x2, x3⟩, hx, hx1⟩ := Option.map_eq_some_iff.1 hw
  simp only [Prod.mk.injEq] at hx1
  obtain ⟨rfl, rfl⟩ := hx1
  exact OpenSpec.preRow_of_cond 8 hx (by kernel_rfl) (fun k hk => by cases hk) (by kernel_rfl) (law_laid_met os _)
set_option maxRecDepth 100000 in
set_option maxHeartbeats 2000000 in
theorem schKinds_lifted (os : Os) (started : os.Started) (H : Type) (enc : TypeId × Value → H) (F : Stop.Interp) :
    ReturnsInHanded {} Tryz.checked os 9 .any (schKindsSpec.preRow enc Tryz.prog Tryz.f9 Rows.schemaKindsRow.domain false Rows.schemaKindsRow.laid) ((schKindsSpec.at F).post enc Tryz.prog Tryz.f9 false true false false) := by
  refine returnsInHanded_of_row (C := Tryz.checked) (s := schKindsSpec) law_own started (by kernel_rfl) Tryz.func9
    (witness_row_atRef (enc := enc) (C := Tryz.checked) false (lawWorld os) #[Value.int .i64 0, Value.string ⟨#[]⟩] rfl (by kernel_rfl) (by kernel_rfl) (by kernel_rfl) (schKinds_witness os enc)) ?_
  intro W base args ds gs before hval0 hW _ _ _ hL _ _
  have hval : ∀ (j : Nat) t v, Tryz.f9.params[j]? = some t → args[j]? = some v → Value.okWide Tryz.prog W .any base t v := hval0
  have hW' := hW
  obtain ⟨p, q, hA0, hV0, rfl, _, _⟩ := hW
  have hA : DataW.TrodAll enc Tryz.prog W 0 (fun _ => true) true Tryz.f9.params.toList args.toList ds p := hA0
  rw [Tryz.params9] at hA hval
  obtain ⟨v0, v1, d0, d1, p0, p1, rfl, rfl, rfl, h0, h1⟩ := trodAll_two hA
  obtain ⟨rfl, rfl⟩ := trodVars_none hV0
  have hwt := hA.lt
  obtain ⟨x0, hx0, hR0⟩ := open_i (hval 0 _ v0 rfl rfl) h0
  obtain ⟨x1, hx1, hR1⟩ := open_s (hval 1 _ v1 rfl rfl) h1
  clear hA0 hV0 hval0
  obtain ⟨htab, hpow⟩ := law_tabs hL
  have hc := Ev.calls_of_acalls (l6_SchemaKinds_at W hpow htab 60 [] [] [] x0 x1 true (kinds_plain x0 x1)) (rowR_two hR0 hR1)
  refine hc.mono ?_
  rintro e W' ⟨rfl, bel⟩
  have e1 : (schKindsSpec.at F).fn H ([d0, d1] ++ []) = { results := [.lit (.bool true)], args := [d0, d1] } := rfl
  refine ⟨_, rfl, _, _, _, [], (p0 ++ p1), [], hW', ?_, ?_, ?_, bel.frame _, fun h => by cases h⟩
  · rw [e1]; exact trodAll_mk1 (shut_bool Tryz.underlying4 _)
  · rw [e1]; exact trodAll_mk2 (Below.trod (by kernel_rfl) (by kernel_rfl) (of_decide_eq_true (by kernel_rfl)) h0 bel (fun x hx => hwt x (by simp only [List.mem_append]; exact Or.inl hx))) (Below.trod (by kernel_rfl) (by kernel_rfl) (of_decide_eq_true (by kernel_rfl)) h1 bel (fun x hx => hwt x (by simp only [List.mem_append]; exact Or.inr hx)))
  · rw [e1]; rfl
theorem schKinds_holds : Rows.SchemaKindsSaid :=
  OpenClaim.holds_of_cond 9 Tryz.f9 rfl rfl rfl rfl rfl rfl rfl ⟨rfl, rfl, rfl, rfl, rfl⟩ rfl rfl rfl rfl rfl (by kernel_rfl) Tryz.func9 (by kernel_rfl)
    (of_decide_eq_true (by kernel_rfl)) (by unfold Func.isWrapper; rw [if_neg (of_decide_eq_false (by kernel_rfl))]; exact ⟨rfl, rfl⟩)
    (fun os started H enc _ F0 => by rw [OpenClaim.pre_eq_preRow]; exact schKinds_lifted os started H enc F0)
end Go.Proofs.YtggimoedcamonaaGreatDoor
namespace Go.Proofs.YtggimoedcamonaaGreatDoor
open Go
theorem kinds_card : Rows.SchemaKindsCardSaid :=
  Claim7.holds_tied_plain_at .later [] [.data, .data, .data, .data, .pinned] true (true, "fcc1e7a57a9ce17606b8959cd2b5942f9c281f0752ea4614b237ba76011cbc81") false
    schKinds_holds (fun _ h => by cases h) (by kernel_rfl) (fun _ h => by cases h) schemaKinds_row_tie rfl ⟨rfl, rfl⟩ (by kernel_rfl) rfl
    (fun f fn hf hfn => by
      obtain rfl : f = 9 := Option.some.inj ((show Tryz.prog.funcNamed Rows.schemaKindsRow.func = some 9 by kernel_rfl).symm.trans hf) |>.symm
      obtain rfl : fn = Tryz.f9 := (Option.some.inj (Tryz.func9.symm.trans hfn)).symm
      exact ⟨by kernel_rfl, fun j t ht => by
        rw [Tryz.params9] at ht
        have h3 : t = 3 ∨ t = 9 := by
          rcases j with _ | _ | j
          · left; simpa using ht.symm
          · right; simpa using ht.symm
          · simp at ht
        rcases h3 with rfl | rfl
        · exact (show Tryz.prog.wantsStandIn 3 = false by kernel_rfl)
        · exact (show Tryz.prog.wantsStandIn 9 = false by kernel_rfl)⟩)
    (by kernel_rfl)
#print axioms kinds_card
end Go.Proofs.YtggimoedcamonaaGreatDoor
