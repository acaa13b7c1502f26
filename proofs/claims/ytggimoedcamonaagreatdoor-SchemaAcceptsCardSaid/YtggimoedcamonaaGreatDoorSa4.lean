/-
  Part 4 of the proof: rules and walks that the claim's last text uses.
-/
import Derived.Carry
import Derived.ChangeOld
import Derived.ChangeSlices
import Derived.Deep.DeepHandedRow
import Derived.Deep.DeepWitnessRowRef
import Derived.Lib.LaidIn
import Derived.Lib.LaidU8T
import Derived.PinnedBridge
import Derived.ProofKit
import Derived.SevenTiedAt
import Derived.SizedLaws
import Derived.Test.YtggimoedcamonaaGreatDoorCards
import Derived.Test.YtggimoedcamonaaGreatDoorTie
import Derived.Test.YtggimoedcamonaaGreatDoorSa3
namespace Go.Proofs.YtggimoedcamonaaGreatDoor
open Go Go.RowKit Go.Ev
set_option linter.unusedSimpArgs false
set_option linter.unusedVariables false
def s_Clone_k26 (rec : Ty → Option Ty) (n : Nat) (a0 : Ty) (x3_k26 : List Ty) (x6_k26 : List (Int × ByteArray × Int × Ty × List Vl)) : Option Ty :=
  if a0.words.length * 16 ≤ 140737488355328 then
    some (Ty.mk a0.kind a0.min a0.max a0.scale a0.words x3_k26 x6_k26)
  else none
def s_Clone_l29 (rec : Ty → Option Ty) (n : Nat) (a0 : Ty) : Nat → (List Ty) → (List (Int × ByteArray × Int × Ty × List Vl)) → Int → Option Ty
  | 0, _, _, _ => none
  | m + 1, x3_l29, x6_l29, x33_l29 =>
    if decide (x33_l29 < ((a0.fields.length : Int))) then
      (idx a0.fields x33_l29).bind fun x35 =>
      (s_cloneField_F rec n x35).bind fun y36 =>
      if (x6_l29.length + 1) * 160 ≤ 140737488355328 ∧ x6_l29.length + 1 ≤ 4611686018427387904 then
        if I64 (x33_l29 + 1) then
          (s_Clone_l29 rec n a0 m) x3_l29 (x6_l29 ++ ([y36])) (x33_l29 + 1)
        else none
      else none
    else
      s_Clone_k26 rec n a0 x3_l29 x6_l29
def s_Clone_k6 (rec : Ty → Option Ty) (n : Nat) (a0 : Ty) (x3_k6 : List Ty) : Option Ty :=
  if 0 ≤ (a0.fields.length : Int) ∧ ((a0.fields.length : Int)) * 160 ≤ 140737488355328 ∧ (a0.fields.length : Int) ≤ 4611686018427387904 then
    s_Clone_l29 rec n a0 n x3_k6 ([]) 0
  else none
def s_Clone_l9 (rec : Ty → Option Ty) (n : Nat) (a0 : Ty) : Nat → (List Ty) → Int → Option Ty
  | 0, _, _ => none
  | m + 1, x3_l9, x16_l9 =>
    if decide (x16_l9 < ((a0.elem.length : Int))) then
      (idx a0.elem x16_l9).bind fun x15 =>
      (rec x15).bind fun y16 =>
      if (x3_l9.length + 1) * 104 ≤ 140737488355328 ∧ x3_l9.length + 1 ≤ 4611686018427387904 then
        if I64 (x16_l9 + 1) then
          (s_Clone_l9 rec n a0 m) (x3_l9 ++ ([y16])) (x16_l9 + 1)
        else none
      else none
    else
      s_Clone_k6 rec n a0 x3_l9
def s_Clone_B (rec : Ty → Option Ty) (n : Nat) (a0 : Ty) : Option Ty :=
  if 0 ≤ (a0.elem.length : Int) ∧ ((a0.elem.length : Int)) * 104 ≤ 140737488355328 ∧ (a0.elem.length : Int) ≤ 4611686018427387904 then
    s_Clone_l9 rec n a0 n ([]) 0
  else none
def s_Clone_F : Nat → Ty → Option Ty
  | 0, _ => none
  | n + 1, a0 => s_Clone_B (s_Clone_F n) n a0
set_option maxRecDepth 100000 in
set_option maxHeartbeats 4000000 in
theorem s_Clone_step (w0 : World) (rec : Ty → Option Ty) (ih : ∀ (B : List (List AV)) (Rw : List RowA) (L : List LoopA) (a0 : Ty) (r : Ty) (h : rec a0 = some r), ACalls Tryz.prog w0 45 [.agg (a0.cs)] ⟨B, Rw, L⟩ fun x st => x = .agg (r.cs) ∧ st = ⟨B, Rw, L⟩) (n : Nat) (B : List (List AV)) (Rw : List RowA) (L : List LoopA) (a0 : Ty) (r : Ty) (h : s_Clone_B rec n a0 = some r) :
    ACalls Tryz.prog w0 45 [.agg (a0.cs)] ⟨B, Rw, L⟩ fun x st => x = .agg (r.cs) ∧ st = ⟨B, Rw, L⟩ := by
  rw [s_Clone_B] at h
  refine ACalls.finP (acalls_of (rs := [.cell 2 26]) Tryz.func45 rfl rfl Tryz.ntmps45 (enters_some Tryz.func45 rfl (by decide)) (Nat.le_of_ble_eq_true rfl) ?_)
  intro M0 W0 hN hNR hNL hcalm hu
  dsimp only at hN hNR hNL hcalm hu
  simp only [argsE]
  have hO := Owns.none Rw
  have hs := fact0
  refine rg [1, 2] hs ?_
  obtain ⟨hg3, h⟩ := guard_some h
  have hO := hO.make 7 0
  refine rg [1, 2, 3] hs ?_
  refine awp_mid (fun e st => ∃ (x3_k6 : List Ty) (ox3_k6 : Ev.Own) (X_k6 : List (List AV)) (rows_k6 : List RowA), e = [(1, true, .box B.length 0), (2, true, .box (B.length + 1) 0), (3, true, .list (x3_k6.map avT) ox3_k6)] ∧ st = ⟨B ++ ([a0.cs, [.val (.int .i64 0), .val (.int .i64 0), .val (.int .i64 0), .val (.int .i64 0), .list ([]) .full, .list ([]) .full, .list ([]) .full]] ++ X_k6), rows_k6, L⟩ ∧ Owns Rw rows_k6 [(7, x3_k6.length, ox3_k6)] ∧ s_Clone_k6 rec n a0 x3_k6 = some r) ?_ ?_
  · intro K7 hK7
    refine rg [1, 2, 3, 14, 15, 16] hs ?_
    apply awp_block
    refine awp_loop (fun m e st => ∃ (x3_l9 : List Ty) (x16_l9 : Int) (ox3_l9 : Ev.Own) (X_l9 : List (List AV)) (rows_l9 : List RowA), e = [(1, true, .box B.length 0), (2, true, .box (B.length + 1) 0), (3, true, .list (x3_l9.map avT) ox3_l9), (14, true, .list (a0.elem.map avT) .none), (15, true, .val (.int .i64 ((a0.elem.length : Int)))), (16, true, .val (.int .i64 x16_l9))] ∧ st = ⟨B ++ ([a0.cs, [.val (.int .i64 0), .val (.int .i64 0), .val (.int .i64 0), .val (.int .i64 0), .list ([]) .full, .list ([]) .full, .list ([]) .full]] ++ X_l9), rows_l9, L⟩ ∧ Owns Rw rows_l9 [(7, x3_l9.length, ox3_l9)] ∧ s_Clone_l9 rec n a0 m x3_l9 x16_l9 = some r) n ⟨([]), 0, ((.row Rw.length)), ([]), ((Rw ++ [.grow 0 7])), ef hs, ef hs, Owns.of_eq (hO) (by first | rfl | simp only [List.length_append, List.length_cons, List.length_nil, List.length_map, Nat.zero_add, Nat.add_zero]), h⟩ ?_
    rintro m_l9 e st ⟨x3_l9, x16_l9, ox3_l9, X_l9, rows_l9, rfl, rfl, hO, h⟩ KR_l9 hKR_l9
    cases m_l9 with
    | zero => cases h
    | succ m_l9 =>
    rw [s_Clone_l9] at h
    have hU := hO.unders
    simp only [List.mem_cons, List.not_mem_nil, or_false, forall_eq_or_imp, forall_eq] at hU
    refine td hN hNR hNL hcalm hO ?_
    refine rg [1, 2, 3, 14, 15, 16, 17] hs ?_
    apply awp_seq; intro K11 hK11
    refine cnd h hs (fun hs h => ?_) (fun hs h => ?_)
    rotate_left
    · skip
      have hb12 := hs.1
      refine sx [1, 2, 3] hs hK7 ?_
      exact ⟨x3_l9, ox3_l9, ([]), rows_l9, ef hs, ef hs, Owns.of_eq (hO) (by first | rfl | simp only [List.length_append, List.length_cons, List.length_nil, List.length_map, Nat.zero_add, Nat.add_zero]), h⟩
    have hb12 := hs.1
    refine sk [1, 2, 3, 14, 15, 16] hs hK11 ?_
    clear hK11
    apply awp_seq; intro K13 hK13
    apply awp_block
    obtain ⟨x15, hx15, h⟩ := bind_some h
    obtain ⟨hx15a, hx15b, hx15c⟩ := idx_some hx15
    have hx15d := getD_map (f := avT) hx15c
    have hs := And.intro hx15d hs
    refine rg [1, 2, 3, 5, 14, 15, 16] hs ?_
    obtain ⟨y16, hy16, h⟩ := bind_some h
    obtain ⟨hg17, h⟩ := guard_some h
    obtain ⟨o18, rows19, hO, hap20⟩ := hO.append (P := Tryz.prog) elT_23 (by rw [zeroT_26]; rfl) (by decide) 1 hg17.1 hg17.2
    replace hap20 := fun (ys : List AV) B L o2 => hap20 (x3_l9.map avT) ys B L o2 (by first | rfl | simp only [List.length_map, List.length_nil, List.length_append, List.length_cons, Nat.zero_add])
    replace hap20 := fun (y : AV) B L o2 => hap20 [y] B L o2 (by first | rfl | simp only [List.length_map, List.length_nil, List.length_cons]) ev
    try simp only [List.mem_singleton, List.mem_cons, List.not_mem_nil, or_false, forall_eq_or_imp, forall_eq, List.map_append, List.map_cons, List.map_nil, avI_eq, avB_eq, avS_eq, avV_eq, avT_eq, avF_eq, avTF_eq, avPt_eq, avL_eq, avSch_eq, avItm_eq, avLm_eq] at hap20
    apply awp_region 2 [1, 2, 3, 14, 15, 16]
    rw [evK_succ]; simp +decide only [go_sem, Nat.reduceAdd, hb12, hx15d, hap20]
    have hs := And.intro hap20 hs
    (repeat' apply And.intro) <;> first | refine callK_p _ (ih _ _ _ x15 _ hy16) (hv hs) ?_ | exact cl
    rw [evK_succ]; simp +decide only [go_sem, Nat.reduceAdd, hb12, hx15d, hap20]
    (repeat' apply And.intro) <;> first | refine hK13 _ _ ?_ | exact cl
    clear hK13
    obtain ⟨hg21, h⟩ := guard_some h
    apply awp_region 1 [1, 2, 3, 14, 15, 16]
    rw [evK_succ]; simp +decide only [go_sem, Nat.reduceAdd, hb12, hx15d, hap20]
    (repeat' apply And.intro) <;> first | refine hKR_l9 m_l9 _ _ (Nat.lt_succ_self m_l9) ⟨(x3_l9 ++ ([y16])), (x16_l9 + 1), o18, ([x15.cs]), rows19, ef hs, ef hs, Owns.of_eq (hO) (by first | rfl | simp only [List.length_append, List.length_cons, List.length_nil, List.length_map, Nat.zero_add, Nat.add_zero]), h⟩ | exact cl
  · clear h; rintro e st ⟨x3_k6, ox3_k6, X_k6, rows_k6, rfl, rfl, hO, h⟩
    rw [s_Clone_k6] at h
    have hU := hO.unders
    simp only [List.mem_cons, List.not_mem_nil, or_false, forall_eq_or_imp, forall_eq] at hU
    refine td hN hNR hNL hcalm hO ?_
    obtain ⟨hg23, h⟩ := guard_some h
    have hO := hO.make 11 0
    refine rg [1, 2, 3, 6] hs ?_
    refine awp_mid (fun e st => ∃ (x3_k26 : List Ty) (x6_k26 : List (Int × ByteArray × Int × Ty × List Vl)) (ox3_k26 : Ev.Own) (ox6_k26 : Ev.Own) (X_k26 : List (List AV)) (rows_k26 : List RowA), e = [(1, true, .box B.length 0), (2, true, .box (B.length + 1) 0), (3, true, .list (x3_k26.map avT) ox3_k26), (6, true, .list (x6_k26.map avTF) ox6_k26)] ∧ st = ⟨B ++ ([a0.cs, [.val (.int .i64 0), .val (.int .i64 0), .val (.int .i64 0), .val (.int .i64 0), .list ([]) .full, .list ([]) .full, .list ([]) .full]] ++ X_k26), rows_k26, L⟩ ∧ Owns Rw rows_k26 [(7, x3_k26.length, ox3_k26), (11, x6_k26.length, ox6_k26)] ∧ s_Clone_k26 rec n a0 x3_k26 x6_k26 = some r) ?_ ?_
    · intro K27 hK27
      refine rg [1, 2, 3, 6, 31, 32, 33] hs ?_
      apply awp_block
      refine awp_loop (fun m e st => ∃ (x3_l29 : List Ty) (x6_l29 : List (Int × ByteArray × Int × Ty × List Vl)) (x33_l29 : Int) (ox3_l29 : Ev.Own) (ox6_l29 : Ev.Own) (X_l29 : List (List AV)) (rows_l29 : List RowA), e = [(1, true, .box B.length 0), (2, true, .box (B.length + 1) 0), (3, true, .list (x3_l29.map avT) ox3_l29), (6, true, .list (x6_l29.map avTF) ox6_l29), (31, true, .list (a0.fields.map avTF) .none), (32, true, .val (.int .i64 ((a0.fields.length : Int)))), (33, true, .val (.int .i64 x33_l29))] ∧ st = ⟨B ++ ([a0.cs, [.val (.int .i64 0), .val (.int .i64 0), .val (.int .i64 0), .val (.int .i64 0), .list ([]) .full, .list ([]) .full, .list ([]) .full]] ++ X_l29), rows_l29, L⟩ ∧ Owns Rw rows_l29 [(7, x3_l29.length, ox3_l29), (11, x6_l29.length, ox6_l29)] ∧ s_Clone_l29 rec n a0 m x3_l29 x6_l29 x33_l29 = some r) n ⟨x3_k6, ([]), 0, ox3_k6, ((.row rows_k6.length)), ([]), ((rows_k6 ++ [.grow 0 11])), ef hs, ef hs, Owns.of_eq ((hO).swap (List.Perm.swap _ _ _)) (by first | rfl | simp only [List.length_append, List.length_cons, List.length_nil, List.length_map, Nat.zero_add, Nat.add_zero]), h⟩ ?_
      rintro m_l29 e st ⟨x3_l29, x6_l29, x33_l29, ox3_l29, ox6_l29, X_l29, rows_l29, rfl, rfl, hO, h⟩ KR_l29 hKR_l29
      cases m_l29 with
      | zero => cases h
      | succ m_l29 =>
      rw [s_Clone_l29] at h
      have hU := hO.unders
      simp only [List.mem_cons, List.not_mem_nil, or_false, forall_eq_or_imp, forall_eq] at hU
      obtain ⟨hU0, hU1⟩ := hU
      refine td hN hNR hNL hcalm hO ?_
      refine rg [1, 2, 3, 6, 31, 32, 33, 34] hs ?_
      apply awp_seq; intro K31 hK31
      refine cnd h hs (fun hs h => ?_) (fun hs h => ?_)
      rotate_left
      · skip
        have hb32 := hs.1
        refine sx [1, 2, 3, 6] hs hK27 ?_
        exact ⟨x3_l29, x6_l29, ox3_l29, ox6_l29, ([]), rows_l29, ef hs, ef hs, Owns.of_eq (((hO).swap (List.Perm.swap _ _ _)).swap (List.Perm.swap _ _ _)) (by first | rfl | simp only [List.length_append, List.length_cons, List.length_nil, List.length_map, Nat.zero_add, Nat.add_zero]), h⟩
      have hb32 := hs.1
      refine sk [1, 2, 3, 6, 31, 32, 33] hs hK31 ?_
      clear hK31
      apply awp_seq; intro K33 hK33
      apply awp_block
      obtain ⟨x35, hx35, h⟩ := bind_some h
      obtain ⟨hx35a, hx35b, hx35c⟩ := idx_some hx35
      have hx35d := getD_map (f := avTF) hx35c
      have hs := And.intro hx35d hs
      refine rg [1, 2, 3, 6, 8, 31, 32, 33] hs ?_
      obtain ⟨y36, hy36, h⟩ := bind_some h
      obtain ⟨hg37, h⟩ := guard_some h
      have hO := hO.swap (List.Perm.swap _ _ _)
      obtain ⟨o38, rows39, hO, hap40⟩ := hO.append (P := Tryz.prog) elT_24 (by rw [zeroT_53]; rfl) (by decide) 1 hg37.1 hg37.2
      replace hap40 := fun (ys : List AV) B L o2 => hap40 (x6_l29.map avTF) ys B L o2 (by first | rfl | simp only [List.length_map, List.length_nil, List.length_append, List.length_cons, Nat.zero_add])
      replace hap40 := fun (y : AV) B L o2 => hap40 [y] B L o2 (by first | rfl | simp only [List.length_map, List.length_nil, List.length_cons]) ev
      try simp only [List.mem_singleton, List.mem_cons, List.not_mem_nil, or_false, forall_eq_or_imp, forall_eq, List.map_append, List.map_cons, List.map_nil, avI_eq, avB_eq, avS_eq, avV_eq, avT_eq, avF_eq, avTF_eq, avPt_eq, avL_eq, avSch_eq, avItm_eq, avLm_eq] at hap40
      apply awp_region 2 [1, 2, 3, 6, 31, 32, 33]
      rw [evK_succ]; simp +decide only [go_sem, Nat.reduceAdd, hb32, hx35d, hap40]
      have hs := And.intro hap40 hs
      (repeat' apply And.intro) <;> first | refine callK_p _ (s_cloneField_at w0 rec ih n _ _ _ x35 _ hy36) (hv hs) ?_ | exact cl
      rw [evK_succ]; simp +decide only [go_sem, Nat.reduceAdd, hb32, hx35d, hap40]
      (repeat' apply And.intro) <;> first | refine hK33 _ _ ?_ | exact cl
      clear hK33
      obtain ⟨hg41, h⟩ := guard_some h
      apply awp_region 1 [1, 2, 3, 6, 31, 32, 33]
      rw [evK_succ]; simp +decide only [go_sem, Nat.reduceAdd, hb32, hx35d, hap40]
      (repeat' apply And.intro) <;> first | refine hKR_l29 m_l29 _ _ (Nat.lt_succ_self m_l29) ⟨x3_l29, (x6_l29 ++ ([y36])), (x33_l29 + 1), ox3_l29, o38, ([.val (.int .i64 x35.1) :: (.val (.string x35.2.1) :: (.val (.int .i64 x35.2.2.1) :: ((x35.2.2.2.1.cs) ++ ([.list (x35.2.2.2.2.map avV) .none]))))]), rows39, ef hs, ef hs, Owns.of_eq ((hO).swap (List.Perm.swap _ _ _)) (by first | rfl | simp only [List.length_append, List.length_cons, List.length_nil, List.length_map, Nat.zero_add, Nat.add_zero]), h⟩ | exact cl
    · clear h; rintro e st ⟨x3_k26, x6_k26, ox3_k26, ox6_k26, X_k26, rows_k26, rfl, rfl, hO, h⟩
      rw [s_Clone_k26] at h
      have hU := hO.unders
      simp only [List.mem_cons, List.not_mem_nil, or_false, forall_eq_or_imp, forall_eq] at hU
      obtain ⟨hU0, hU1⟩ := hU
      refine td hN hNR hNL hcalm hO ?_
      apply awp_seq; intro K42 hK42
      obtain ⟨hg43, h⟩ := guard_some h
      apply awp_region 2 [1, 2]
      rw [evK_succ]; simp +decide only [go_sem, Nat.reduceAdd, Ty.cs_eqs a0]
      (repeat' apply And.intro) <;> first | refine callK_p _ (sl_Clone_string_at w0 _ _ _ a0.words hg43) (by first | rfl | (simp +decide only [go_sem, Nat.reduceAdd, Ty.cs_eqs a0]; done) | (simp +decide only [go_sem, Nat.reduceAdd, Vl.cs, Ty.cs, Ty.cs_eqs a0]; done)) ?_ | exact cl
      rw [evK_succ]; simp +decide only [go_sem, Nat.reduceAdd, Ty.cs_eqs a0]
      (repeat' apply And.intro) <;> first | refine hK42 _ _ ?_ | exact cl
      clear hK42
      apply awp_seq; intro K44 hK44
      apply awp_region 1 [2]
      rw [evK_succ]; simp +decide only [go_sem, Nat.reduceAdd, Ty.cs_eqs a0]
      (repeat' apply And.intro) <;> first | refine hK44 _ _ ?_ | exact cl
      clear hK44
      apply awp_ret; simp +decide only [go_sem, Nat.reduceAdd, Ty.cs_eqs a0]
      have hgt := Option.some.inj h; subst hgt
      first | refine fin_q0 hcalm rfl hO.pre ev ⟨?_, rfl⟩ | refine fin_q hcalm rfl hO.pre ev ⟨?_, rfl⟩
      first | rfl | (simp +decide only [go_sem, Nat.reduceAdd, Ty.cs_eqs a0]; done) | (simp +decide only [go_sem, Nat.reduceAdd, Vl.cs, Ty.cs, Ty.cs_eqs a0]; done)
theorem s_Clone_at (w0 : World) : ∀ (n : Nat) (B : List (List AV)) (Rw : List RowA) (L : List LoopA) (a0 : Ty) (r : Ty) (h : s_Clone_F n a0 = some r), ACalls Tryz.prog w0 45 [.agg (a0.cs)] ⟨B, Rw, L⟩ fun x st => x = .agg (r.cs) ∧ st = ⟨B, Rw, L⟩
  | 0, _, _, _, _, _, h => (nomatch h)
  | n + 1, B, Rw, L, a0, r, h => s_Clone_step w0 (s_Clone_F n) (s_Clone_at w0 n) n B Rw L a0 r (by rw [s_Clone_F] at h; exact h)
end Go.Proofs.YtggimoedcamonaaGreatDoor
namespace Go.Proofs.YtggimoedcamonaaGreatDoor
open Go Go.RowKit Go.Ev
set_option linter.unusedSimpArgs false
set_option linter.unusedVariables false
def sl_IndexFunc_TypeField_k3 (n : Nat)  : Option Int :=
  some ((-1))
def sl_IndexFunc_TypeField_l6 (n : Nat) (a0 : List (Int × ByteArray × Int × Ty × List Vl)) (a1 : (Int × ByteArray × Int × Ty × List Vl) → Option Bool) : Nat → Int → Option Int
  | 0, _ => none
  | m + 1, x8_l6 =>
    if decide (x8_l6 < ((a0.length : Int))) then
      (idx a0 x8_l6).bind fun x13 =>
      (a1 x13).bind fun y14 =>
      if y14 then
        some (x8_l6)
      else
        if I64 (x8_l6 + 1) then
          (sl_IndexFunc_TypeField_l6 n a0 a1 m) (x8_l6 + 1)
        else none
    else
      sl_IndexFunc_TypeField_k3 n 
def sl_IndexFunc_TypeField_F (n : Nat) (a0 : List (Int × ByteArray × Int × Ty × List Vl)) (a1 : (Int × ByteArray × Int × Ty × List Vl) → Option Bool) : Option Int :=
  sl_IndexFunc_TypeField_l6 n a0 a1 n 0
set_option maxRecDepth 100000 in
set_option maxHeartbeats 4000000 in
theorem sl_IndexFunc_TypeField_at (w0 : World) (n : Nat) (B : List (List AV)) (Rw : List RowA) (L : List LoopA) (a0 : List (Int × ByteArray × Int × Ty × List Vl)) (fa1 : FuncId) (ca1 : List AV) (a1 : (Int × ByteArray × Int × Ty × List Vl) → Option Bool) (ha1 : ∀ (x0 : Int × ByteArray × Int × Ty × List Vl) r, a1 x0 = some r → ∀ B' rows, B <+: B' → Rw <+: rows → ACalls Tryz.prog w0 fa1 ([.agg (.val (.int .i64 x0.1) :: (.val (.string x0.2.1) :: (.val (.int .i64 x0.2.2.1) :: ((x0.2.2.2.1.cs) ++ ([.list (x0.2.2.2.2.map avV) .none])))))] ++ ca1) ⟨B', rows, L⟩ fun v s => v = .val (.bool r) ∧ s = ⟨B', rows, L⟩) (r : Int) (h : sl_IndexFunc_TypeField_F n a0 a1 = some r) :
    ACalls Tryz.prog w0 118 [.list (a0.map avTF) .none, .clo fa1 ca1] ⟨B, Rw, L⟩ fun x st => x = .val (.int .i64 r) ∧ st = ⟨B, Rw, L⟩ := by
  rw [sl_IndexFunc_TypeField_F] at h
  refine ACalls.finP (acalls_of (rs := [.tmp 4]) Tryz.func118 rfl rfl Tryz.ntmps118 (enters_some Tryz.func118 rfl (by decide)) (Nat.le_of_ble_eq_true rfl) ?_)
  intro M0 W0 hN hNR hNL hcalm hu
  dsimp only at hN hNR hNL hcalm hu
  simp only [argsE]
  have hO := Owns.none Rw
  have hs := fact0
  have hU_a1 := under_caps (hu (.clo fa1 ca1) (by simp))
  refine rg [0, 1] hs ?_
  refine awp_mid (fun e st => ∃ (X_k3 : List (List AV)) (rows_k3 : List RowA), e = [] ∧ st = ⟨B ++ ([] ++ X_k3), rows_k3, L⟩ ∧ Owns Rw rows_k3 [] ∧ sl_IndexFunc_TypeField_k3 n  = some r) ?_ ?_
  · intro K4 hK4
    refine rg [0, 1, 7, 8] hs ?_
    apply awp_block
    refine awp_loop (fun m e st => ∃ (x8_l6 : Int) (X_l6 : List (List AV)) (rows_l6 : List RowA), e = [(0, true, .list (a0.map avTF) .none), (1, true, .clo fa1 ca1), (7, true, .val (.int .i64 ((a0.length : Int)))), (8, true, .val (.int .i64 x8_l6))] ∧ st = ⟨B ++ ([] ++ X_l6), rows_l6, L⟩ ∧ Owns Rw rows_l6 [] ∧ sl_IndexFunc_TypeField_l6 n a0 a1 m x8_l6 = some r) n ⟨0, ([]), Rw, ef hs, ef hs, hO, h⟩ ?_
    rintro m_l6 e st ⟨x8_l6, X_l6, rows_l6, rfl, rfl, hO, h⟩ KR_l6 hKR_l6
    cases m_l6 with
    | zero => cases h
    | succ m_l6 =>
    rw [sl_IndexFunc_TypeField_l6] at h
    refine awp_tidy hN hNR hNL rfl hcalm hO (by (simp +decide only [go_sem, Nat.reduceAdd]) <;> (try (repeat' apply And.intro)) <;> first | omega | assumption | exact hU_a1 _ _ _ (by omega) (by have := hO.len; omega) (by omega)) (by (simp +decide only [go_sem, Nat.reduceAdd, calmE]) <;> (try (repeat' apply And.intro)) <;> first | omega | assumption | exact hU_a1 _ _ _ (by omega) (by have := hO.len; omega) (by omega)) ?_
    refine rg [0, 1, 7, 8, 9] hs ?_
    apply awp_seq; intro K8 hK8
    refine cnd h hs (fun hs h => ?_) (fun hs h => ?_)
    rotate_left
    · skip
      have hb9 := hs.1
      refine sx [] hs hK4 ?_
      exact ⟨([]), rows_l6, ef hs, ef hs, hO, h⟩
    have hb9 := hs.1
    refine sk [0, 1, 7, 8] hs hK8 ?_
    clear hK8
    apply awp_seq; intro K10 hK10
    apply awp_block
    refine rg [0, 1, 5, 7, 8] hs ?_
    obtain ⟨x13, hx13, h⟩ := bind_some h
    obtain ⟨hx13a, hx13b, hx13c⟩ := idx_some hx13
    have hx13d := getD_map (f := avTF) hx13c
    obtain ⟨y14, hy14, h⟩ := bind_some h
    have hs := And.intro hx13d hs
    refine rc 2 [0, 1, 5, 7, 8, 16] hs ?_; intro K12 hK12
    refine callK_q _ (ha1 x13 _ hy14 _ _ (by first | exact List.prefix_append _ _ | exact List.prefix_refl _) hO.pre) (hv hs) ?_
    refine ne hs hK12 ?_
    clear hK12
    refine cnd h hs (fun hs h => ?_) (fun hs h => ?_)
    · skip
      have hb15 := hs.1
      refine rg [4] hs ?_
      exact rt h hs hcalm hO
    have hb15 := hs.1
    refine sk [0, 1, 7, 8] hs hK10 ?_
    clear hK10
    obtain ⟨hg17, h⟩ := guard_some h
    apply awp_region 1 [0, 1, 7, 8]
    rw [evK_succ]; simp +decide only [go_sem, Nat.reduceAdd, hb9, hx13d, hb15]
    (repeat' apply And.intro) <;> first | refine hKR_l6 m_l6 _ _ (Nat.lt_succ_self m_l6) ⟨(x8_l6 + 1), ([]), rows_l6, ef hs, ef hs, hO, h⟩ | exact cl
  · clear h; rintro e st ⟨X_k3, rows_k3, rfl, rfl, hO, h⟩
    rw [sl_IndexFunc_TypeField_k3] at h
    refine awp_tidy hN hNR hNL rfl hcalm hO (by (simp +decide only [go_sem, Nat.reduceAdd]) <;> (try (repeat' apply And.intro)) <;> first | omega | assumption | exact hU_a1 _ _ _ (by omega) (by have := hO.len; omega) (by omega)) (by (simp +decide only [go_sem, Nat.reduceAdd, calmE]) <;> (try (repeat' apply And.intro)) <;> first | omega | assumption | exact hU_a1 _ _ _ (by omega) (by have := hO.len; omega) (by omega)) ?_
    refine rg [4] hs ?_
    exact rt h hs hcalm hO
end Go.Proofs.YtggimoedcamonaaGreatDoor
namespace Go.Proofs.YtggimoedcamonaaGreatDoor
open Go Go.RowKit Go.Ev
set_option linter.unusedSimpArgs false
set_option linter.unusedVariables false
def s_find_F (n : Nat) (a0 : Ty) (a1 : (Int × ByteArray × Int × Ty × List Vl) → Option Bool) : Option ((Int × ByteArray × Int × Ty × List Vl) × Bool) :=
  if (!(decide (a0.kind = 9))) && (!(decide (a0.kind = 10))) then
    some (((0, (⟨#[]⟩ : ByteArray), 0, Ty.mk 0 0 0 0 ([]) ([]) ([]), []), false))
  else
    (sl_IndexFunc_TypeField_F n a0.fields a1).bind fun y7 =>
    if decide (y7 < 0) then
      some (((0, (⟨#[]⟩ : ByteArray), 0, Ty.mk 0 0 0 0 ([]) ([]) ([]), []), false))
    else
      (idx a0.fields y7).bind fun x13 =>
      (s_cloneField_F (s_Clone_F n) n x13).bind fun y14 =>
      some ((y14, true))
set_option maxRecDepth 100000 in
set_option maxHeartbeats 4000000 in
theorem s_find_at (w0 : World) (n : Nat) (B : List (List AV)) (Rw : List RowA) (L : List LoopA) (a0 : Ty) (fa1 : FuncId) (ca1 : List AV) (a1 : (Int × ByteArray × Int × Ty × List Vl) → Option Bool) (ha1 : ∀ (x0 : Int × ByteArray × Int × Ty × List Vl) r, a1 x0 = some r → ∀ B' rows, B <+: B' → Rw <+: rows → ACalls Tryz.prog w0 fa1 ([.agg (.val (.int .i64 x0.1) :: (.val (.string x0.2.1) :: (.val (.int .i64 x0.2.2.1) :: ((x0.2.2.2.1.cs) ++ ([.list (x0.2.2.2.2.map avV) .none])))))] ++ ca1) ⟨B', rows, L⟩ fun v s => v = .val (.bool r) ∧ s = ⟨B', rows, L⟩) (r : (Int × ByteArray × Int × Ty × List Vl) × Bool) (h : s_find_F n a0 a1 = some r) :
    ACalls Tryz.prog w0 68 [.agg (a0.cs), .clo fa1 ca1] ⟨B, Rw, L⟩ fun x st => x = .tup [.agg (.val (.int .i64 r.1.1) :: (.val (.string r.1.2.1) :: (.val (.int .i64 r.1.2.2.1) :: ((r.1.2.2.2.1.cs) ++ ([.list (r.1.2.2.2.2.map avV) .none]))))), .val (.bool r.2)] ∧ st = ⟨B, Rw, L⟩ := by
  rw [s_find_F] at h
  refine ACalls.finP (acalls_of (rs := [.cell 4 53, .tmp 5]) Tryz.func68 rfl rfl Tryz.ntmps68 (enters_some Tryz.func68 rfl (by decide)) (Nat.le_of_ble_eq_true rfl) ?_)
  intro M0 W0 hN hNR hNL hcalm hu
  dsimp only at hN hNR hNL hcalm hu
  simp only [argsE]
  have hO := Owns.none Rw
  have hs := fact0
  have hU_a1 := under_caps (hu (.clo fa1 ca1) (by simp))
  refine rg [1, 2, 4] hs ?_
  apply awp_seq; intro K2 hK2
  refine rg [1, 2, 4, 14] hs ?_
  refine cnd h hs (fun hs h => ?_) (fun hs h => ?_)
  · skip
    have hb4 := hs.1
    apply awp_seq; intro K5 hK5
    apply awp_region 1 [4, 5]
    rw [evK_succ]; simp +decide only [go_sem, Nat.reduceAdd, hb4, fillA, fillOk, placeT]
    (repeat' apply And.intro) <;> first | refine hK5 _ _ ?_ | exact cl
    clear hK5
    exact rt h hs hcalm hO
  have hb4 := hs.1
  refine sk [1, 2, 4] hs hK2 ?_
  clear hK2
  obtain ⟨y7, hy7, h⟩ := bind_some h
  refine rc 2 [2, 4, 6] hs ?_; intro K6 hK6
  refine callK_p _ (sl_IndexFunc_TypeField_at w0 n _ _ _ a0.fields fa1 ca1 a1 (fun x0 r hx B'' rows'' q1 q2 => ha1 x0 r hx B'' rows'' (List.IsPrefix.trans (by first | exact List.prefix_append _ _ | exact List.prefix_refl _) q1) (hO.pre.trans q2)) _ hy7) (hv hs) ?_
  refine ne hs hK6 ?_
  clear hK6
  apply awp_seq; intro K8 hK8
  refine rg [2, 4, 6, 21] hs ?_
  refine cnd h hs (fun hs h => ?_) (fun hs h => ?_)
  · skip
    have hb10 := hs.1
    apply awp_seq; intro K11 hK11
    apply awp_region 1 [4, 5]
    rw [evK_succ]; simp +decide only [go_sem, Nat.reduceAdd, hb4, hb10, fillA, fillOk, placeT]
    (repeat' apply And.intro) <;> first | refine hK11 _ _ ?_ | exact cl
    clear hK11
    exact rt h hs hcalm hO
  have hb10 := hs.1
  refine sk [2, 4, 6] hs hK8 ?_
  clear hK8
  obtain ⟨x13, hx13, h⟩ := bind_some h
  obtain ⟨hx13a, hx13b, hx13c⟩ := idx_some hx13
  have hx13d := getD_map (f := avTF) hx13c
  obtain ⟨y14, hy14, h⟩ := bind_some h
  have hs := And.intro hx13d hs
  refine rc 2 [4, 5] hs ?_; intro K12 hK12
  refine callK_p _ (s_cloneField_at w0 (s_Clone_F n) (s_Clone_at w0 n) n _ _ _ x13 _ hy14) (hv hs) ?_
  refine ne hs hK12 ?_
  clear hK12
  exact rt h hs hcalm hO
end Go.Proofs.YtggimoedcamonaaGreatDoor
namespace Go.Proofs.YtggimoedcamonaaGreatDoor
open Go Go.RowKit Go.Ev
set_option linter.unusedSimpArgs false
set_option linter.unusedVariables false
def s_Field_1_F (a0 : Int × ByteArray × Int × Ty × List Vl) (a1 : ByteArray) : Bool :=
  sEq a0.2.1 a1
set_option maxRecDepth 100000 in
set_option maxHeartbeats 4000000 in
theorem s_Field_1_at (w0 : World) (B : List (List AV)) (Rw : List RowA) (L : List LoopA) (a0 : Int × ByteArray × Int × Ty × List Vl) (la1 : Nat) (a1 : ByteArray) (hla1 : B[la1]? = some ([.val (.string a1)])) (r : Bool) (h : s_Field_1_F a0 a1 = r) :
    ACalls Tryz.prog w0 69 [.agg (.val (.int .i64 a0.1) :: (.val (.string a0.2.1) :: (.val (.int .i64 a0.2.2.1) :: ((a0.2.2.2.1.cs) ++ ([.list (a0.2.2.2.2.map avV) .none]))))), .box la1 0] ⟨B, Rw, L⟩ fun x st => x = .val (.bool r) ∧ st = ⟨B, Rw, L⟩ := by
  rw [s_Field_1_F] at h
  refine ACalls.finP (acalls_of (rs := [.tmp 3]) Tryz.func69 rfl rfl Tryz.ntmps69 (enters_some Tryz.func69 rfl (by decide)) (Nat.le_of_ble_eq_true rfl) ?_)
  intro M0 W0 hN hNR hNL hcalm hu
  dsimp only at hN hNR hNL hcalm hu
  simp only [argsE]
  have hO := Owns.none Rw
  have hs := fact0
  have hltla1 := (List.getElem?_eq_some_iff.1 hla1).1
  have hs := And.intro (ptr_of hla1) hs
  refine rg [1, 2] hs ?_
  refine rg [3] hs ?_
  apply awp_ret; simp +decide only [go_sem, Nat.reduceAdd, ptr_of hla1]
  subst h
  first | refine fin_q0 hcalm rfl hO.pre ev ⟨?_, rfl⟩ | refine fin_q hcalm rfl hO.pre ev ⟨?_, rfl⟩
  first | rfl | (simp +decide only [go_sem, Nat.reduceAdd, ptr_of hla1]; done) | (simp +decide only [go_sem, Nat.reduceAdd, Vl.cs, Ty.cs, ptr_of hla1]; done)
theorem s_Field_1_at' (w0 : World) (B : List (List AV)) (Rw : List RowA) (L : List LoopA) (a0 : Int × ByteArray × Int × Ty × List Vl) (la1 : Nat) (a1 : ByteArray) (hla1 : B[la1]? = some ([.val (.string a1)])) :
    ACalls Tryz.prog w0 69 [.agg (.val (.int .i64 a0.1) :: (.val (.string a0.2.1) :: (.val (.int .i64 a0.2.2.1) :: ((a0.2.2.2.1.cs) ++ ([.list (a0.2.2.2.2.map avV) .none]))))), .box la1 0] ⟨B, Rw, L⟩ fun x st => x = .val (.bool (s_Field_1_F a0 a1)) ∧ st = ⟨B, Rw, L⟩ := s_Field_1_at w0 B Rw L a0 la1 a1 hla1 _ rfl
end Go.Proofs.YtggimoedcamonaaGreatDoor
namespace Go.Proofs.YtggimoedcamonaaGreatDoor
open Go Go.RowKit Go.Ev
set_option linter.unusedSimpArgs false
set_option linter.unusedVariables false
def s_Field_F (n : Nat) (a0 : Ty) (a1 : ByteArray) : Option ((Int × ByteArray × Int × Ty × List Vl) × Bool) :=
  (s_find_F n a0 (fun (x0 : Int × ByteArray × Int × Ty × List Vl) => some (s_Field_1_F x0 a1))).bind fun y3 =>
  some ((y3.1, y3.2))
set_option maxRecDepth 100000 in
set_option maxHeartbeats 4000000 in
theorem s_Field_at (w0 : World) (n : Nat) (B : List (List AV)) (Rw : List RowA) (L : List LoopA) (a0 : Ty) (a1 : ByteArray) (r : (Int × ByteArray × Int × Ty × List Vl) × Bool) (h : s_Field_F n a0 a1 = some r) :
    ACalls Tryz.prog w0 31 [.agg (a0.cs), .val (.string a1)] ⟨B, Rw, L⟩ fun x st => x = .tup [.agg (.val (.int .i64 r.1.1) :: (.val (.string r.1.2.1) :: (.val (.int .i64 r.1.2.2.1) :: ((r.1.2.2.2.1.cs) ++ ([.list (r.1.2.2.2.2.map avV) .none]))))), .val (.bool r.2)] ∧ st = ⟨B, Rw, L⟩ := by
  rw [s_Field_F] at h
  refine ACalls.finP (acalls_of (rs := [.cell 4 53, .tmp 5]) Tryz.func31 rfl rfl Tryz.ntmps31 (enters_some Tryz.func31 rfl (by decide)) (Nat.le_of_ble_eq_true rfl) ?_)
  intro M0 W0 hN hNR hNL hcalm hu
  dsimp only at hN hNR hNL hcalm hu
  simp only [argsE]
  have hO := Owns.none Rw
  have hs := fact0
  refine rg [2, 3, 4] hs ?_
  obtain ⟨y3, hy3, h⟩ := bind_some h
  refine rc 2 [4, 5] hs ?_; intro K2 hK2
  refine callK_p _ (s_find_at w0 n _ _ _ a0 69 [.box (B.length + 1) 0] (fun (x0 : Int × ByteArray × Int × Ty × List Vl) => some (s_Field_1_F x0 a1)) (fun x0 r hx B' rows' hB' hR' => by cases hx; exact s_Field_1_at' w0 _ _ _ x0 _ a1 (prefix_get hB' ev)) _ hy3) (hv hs) ?_
  refine ne hs hK2 ?_
  clear hK2
  exact rt h hs hcalm hO
end Go.Proofs.YtggimoedcamonaaGreatDoor
namespace Go.Ev
open Go Go.RowKit
def Mem.start : Mem := ⟨0, 0, fun _ => 0, fun _ => 0, fun _ => 0, fun _ => 0, fun _ => 0, fun _ => 0, 0, fun _ => 0⟩
theorem start_rel (W : World) : RelSt W Mem.start ⟨[], [], []⟩ W where
  below := .refl _ _
  N := rfl
  NR := rfl
  top := fun _ _ => rfl
  inj := fun _ _ h => absurd h (Nat.not_lt_zero _)
  box := fun _ _ h => by simp at h
  row := fun _ _ h => by simp at h
  rowinj := fun _ _ h => absurd h (Nat.not_lt_zero _)
  loop := ⟨rfl, fun _ _ h => absurd h (Nat.not_lt_zero _), fun _ _ h => by simp at h⟩
theorem calls_of_acalls {P : Program} {f : FuncId} {W : World} {vals : Array Value} {args : List AV} {r : Value} (h : ACalls P W f args ⟨[], [], []⟩ fun v st => v = .val r ∧ st = ⟨[], [], []⟩) (hr : RowR W Mem.start W vals args) :
    Calls P f vals W fun e w' => e = .returned r ∧ Below W.heap.size W w' :=
  (h.2 Mem.start W vals (start_rel W) hr).mono fun en w' ⟨v, M', a, st, h1, ⟨h2, _⟩, _, h4, h5⟩ => by
    subst h2
    have := h5.val_inv.1
    subst this
    exact ⟨h1, h4.below⟩
theorem rowR_two {W : World} {v u : Value} {x y : AV} (h : R W Mem.start W v x) (k : R W Mem.start W u y) : RowR W Mem.start W #[v, u] [x, y] := ⟨rfl, fun i h1 h2 => by
  have : i = 0 ∨ i = 1 := by simp at h2; omega
  rcases this with rfl | rfl
  · exact h
  · exact k⟩
end Go.Ev
namespace Go.Proofs.YtggimoedcamonaaGreatDoor
open Go Go.Shelf Go.ChangeShapes Go.WideShapes Go.ChangeAt Go.RowKit Go.Lib Go.Ev
open Go.ChangeMaps (open_string shut_string)
set_option maxRecDepth 100000
theorem law_own : ownKnob Tryz.prog.godebug = none := by kernel_rfl
def flat1 : DataW Unit → List Value
  | .lit (.int k z) => [.int k z]
  | .agg l => l.flatMap fun | .lit (.int k z) => [.int k z] | _ => []
  | _ => []
def flat2 : DataW Unit → List Value
  | .agg l => l.flatMap flat1
  | _ => []
noncomputable def lawWorld (os : Os) : World :=
  let w0 := World.holding Tryz.prog os ⟨#[], #[], []⟩
  let put (h : Array Obj) (g : Nat) (d : DataW Unit) : Array Obj := h.modify g fun
    | .cells _ t frozen => .cells (flat2 d).toArray t frozen
    | o => o
  { w0 with heap := put (put (put (put (put w0.heap 0 Rows.laid_unicode_utf8_first) 1 Rows.laid_unicode_utf8_acceptRanges) 3 Rows.laid_internal_strconv_uint64pow10) 4 Rows.laid_math_bits_deBruijn32tab) 5 Rows.laid_math_bits_deBruijn64tab }
theorem law_laid_met (os : Os) (args : Array Value) : laidMet Tryz.prog Rows.schemaKindsRow.laid ((lawWorld os).forCall (fun _ _ => 0) ⟨#[], args, []⟩).memory :=
  (LaidIn.of_run (l := Rows.schemaKindsRow.laid) [4, 5, 3, 1, 0] 8 (by kernel_rfl) (by kernel_rfl) (by kernel_rfl) (by kernel_rfl)).met
theorem pow10_of_reads {W : World} (h : Lib.VarReads Tryz.prog W pow10Name Rows.laid_internal_strconv_uint64pow10) : Pow10 W := by
  obtain ⟨g, t, cs, fuel, p, h1, h2, h3, h4⟩ := h
  obtain rfl := Option.some.inj ((show Tryz.prog.globalNamed pow10Name = some 3 by kernel_rfl).symm.trans h1)
  obtain rfl := Option.some.inj ((show (Tryz.prog.globals[3]?).map (·.type) = some 227 by kernel_rfl).symm.trans h2)
  have e : (Rows.laid_internal_strconv_uint64pow10 : DataW Unit) = Lib.tabData .u64 Lib.pow10Tab := by kernel_rfl
  rw [e] at h4
  unfold Pow10 Lib.TabIs
  rw [h3, ← Lib.cells_of_tab (n := 20) (k := .u64) (zs := Lib.pow10Tab) Tryz.underlying227 Tryz.underlying192 (by kernel_rfl) (by kernel_rfl) h4]
set_option maxRecDepth 100000 in
theorem law_tabs {W : World} (hL : laidMet Tryz.prog Rows.schemaKindsRow.laid W) : Lib.Utf8Tabs 0 1 W ∧ Pow10 W :=
  ⟨utf8Tabs_of_readsT (U8Types.of196 Tryz.laysValid) ⟨by kernel_rfl, by kernel_rfl, by kernel_rfl, by kernel_rfl, by kernel_rfl, by kernel_rfl, by kernel_rfl⟩ (Lib.laidMet.reads hL (.tail _ (.tail _ (.tail _ (.tail _ (.head _)))))) (Lib.laidMet.reads hL (.tail _ (.tail _ (.tail _ (.head _))))),
    pow10_of_reads (Lib.laidMet.reads hL (.tail _ (.tail _ (.head _))))⟩
end Go.Proofs.YtggimoedcamonaaGreatDoor
namespace Go.Proofs.YtggimoedcamonaaGreatDoor
open Go Go.Shelf Go.ChangeShapes Go.WideShapes Go.ChangeAt Go.RowKit Go.Lib Go.Ev
set_option maxRecDepth 100000
set_option linter.unusedVariables false
set_option linter.unusedSimpArgs false
mutual
def Vl.wf : Vl → Prop
  | .mk k i s t l f => I64 k ∧ I64 i ∧ I64 s ∧ t.size ≤ maxLen ∧ l.length ≤ maxLen ∧ f.length ≤ maxLen ∧ wfVs l ∧ wfFs f
def wfVs : List Vl → Prop
  | [] => True
  | v :: r => v.wf ∧ wfVs r
def wfFs : List (ByteArray × Vl) → Prop
  | [] => True
  | (n, v) :: r => n.size ≤ maxLen ∧ v.wf ∧ wfFs r
end
theorem wfVs_iff : ∀ l, wfVs l ↔ ∀ v ∈ l, v.wf
  | [] => by simp [wfVs]
  | v :: r => by simp [wfVs, wfVs_iff r]
theorem wfFs_iff : ∀ l, wfFs l ↔ ∀ p ∈ l, p.1.size ≤ maxLen ∧ p.2.wf
  | [] => by simp [wfFs]
  | (n, v) :: r => by simp [wfFs, wfFs_iff r, and_assoc]
mutual
def Ty.wf : Ty → Prop
  | .mk k lo hi s w e f => I64 k ∧ I64 lo ∧ I64 hi ∧ I64 s ∧ (∀ x ∈ w, x.size ≤ maxLen) ∧ w.length ≤ maxLen ∧ e.length ≤ maxLen ∧ f.length ≤ maxLen ∧ wfTs e ∧ wfTFs f
def wfTs : List Ty → Prop
  | [] => True
  | v :: r => v.wf ∧ wfTs r
def wfTFs : List (Int × ByteArray × Int × Ty × List Vl) → Prop
  | [] => True
  | (n, s, d, t, l) :: r => (I64 n ∧ s.size ≤ maxLen ∧ I64 d ∧ t.wf ∧ l.length ≤ maxLen ∧ ∀ v ∈ l, v.wf) ∧ wfTFs r
end
theorem wfTs_iff : ∀ l, wfTs l ↔ ∀ v ∈ l, v.wf
  | [] => by simp [wfTs]
  | v :: r => by simp [wfTs, wfTs_iff r]
theorem wfTFs_iff : ∀ l, wfTFs l ↔ ∀ p ∈ l, I64 p.1 ∧ p.2.1.size ≤ maxLen ∧ I64 p.2.2.1 ∧ p.2.2.2.1.wf ∧ p.2.2.2.2.length ≤ maxLen ∧ ∀ v ∈ p.2.2.2.2, v.wf
  | [] => by simp [wfTFs]
  | (n, s, d, t, l) :: r => by simp [wfTFs, wfTFs_iff r]
def Part.wf (p : Part) : Prop := I64 p.kind ∧ I64 p.index ∧ p.name.size ≤ maxLen
def Sch.wf (s : Sch) : Prop := s.name.size ≤ maxLen ∧ I64 s.version ∧ s.type.wf
section
variable {H : Type} {enc : TypeId × Value → H} {W : World}
def RC (W : World) (cs : List Value) (xs : List AV) : Prop := cs.length = xs.length ∧ ∀ i (h1 : i < cs.length) (h2 : i < xs.length), R W Mem.start W cs[i] xs[i]
theorem RC.nil : RC W [] [] := ⟨rfl, fun i h1 => absurd h1 (by simp)⟩
theorem RC.cons {v : Value} {x : AV} {cs : List Value} {xs : List AV} (h : R W Mem.start W v x) (k : RC W cs xs) : RC W (v :: cs) (x :: xs) := ⟨by simp [k.1], fun i h1 h2 => by
  cases i with
  | zero => exact h
  | succ i => simpa using k.2 i (by simpa using h1) (by simpa using h2)⟩
theorem RC.app {cs ds : List Value} {xs ys : List AV} (h : RC W cs xs) (k : RC W ds ys) : RC W (cs ++ ds) (xs ++ ys) := by
  refine ⟨by simp [h.1, k.1], fun i h1 h2 => ?_⟩
  by_cases c : i < cs.length
  · rw [List.getElem_append_left c, List.getElem_append_left (h.1 ▸ c)]; exact h.2 i c _
  · rw [List.getElem_append_right (Nat.le_of_not_lt c), List.getElem_append_right (h.1 ▸ Nat.le_of_not_lt c)]
    simp only [h.1]
    exact k.2 _ (by have := h.1; rw [List.length_append] at h1; omega) (by have := h.1; rw [List.length_append] at h2; omega)
theorem RC.agg {cs : List Value} {xs : List AV} (h : RC W cs xs) (h1 : ∀ x ∈ xs, x.one = true) : R W Mem.start W (.agg cs.toArray) (.agg xs) := .agg (by simpa using h.1) h1 (fun i a b => by simpa using h.2 i (by simpa using a) b)
noncomputable abbrev Td (enc : TypeId × Value → H) (W : World) (n : Nat) (t : TypeId) (cs : List Value) : Option (DataW H × List MemPlace) := DataW.trod enc Tryz.prog W 0 (fun _ => true) true n t cs
theorem td_int {n : Nat} {cs : List Value} {x : DataW H × List MemPlace} (h : Td enc W n 3 cs = some x) : ∃ z, I64 z ∧ cs = [.int .i64 z] := by
  obtain ⟨z, rfl, _, hw⟩ := DataW.trod_int Tryz.underlying3 h
  refine ⟨z, ?_, rfl⟩
  simp [Lit.wf, IntKind.min, IntKind.max, IntKind.signed, IntKind.bits] at hw
  unfold I64
  omega
theorem td_str {n : Nat} {cs : List Value} {x : DataW H × List MemPlace} (h : Td enc W n 9 cs = some x) : ∃ s : ByteArray, s.size ≤ maxLen ∧ cs = [.string s] := by
  obtain ⟨s, rfl, _, hw⟩ := DataW.trod_string Tryz.underlying9 h
  exact ⟨s, hw, rfl⟩
theorem td_slice {α : Type} (f : α → AV) (p : α → Prop) {t e : TypeId} {sz : Nat} (ht : Tryz.prog.underlying t = some (.slice e)) (hc : Tryz.prog.cellsOf e = sz) (hsz : 0 < sz) {n : Nat}
    (H0 : ∀ cs x, Td enc W n e cs = some x → ∃ y u, p y ∧ u.cells.toList = cs ∧ R W Mem.start W u (f y)) {cs : List Value} {x : DataW H × List MemPlace} (h : Td enc W (n + 1) t cs = some x) :
    ∃ (l : List α) (v : Value), (∀ y ∈ l, p y) ∧ l.length ≤ maxLen ∧ cs = [v] ∧ R W Mem.start W v (.list (l.map f) .none) := by
  rcases DataW.trod_slice ht h with ⟨rfl, _⟩ | ⟨a, len, cap, elems, rest, n', hn, rfl, _, hb, hl, hm, hlen, hel, hsp, _⟩
  · exact ⟨[], _, by simp, by simp, rfl, .nil (fun id => by simp)⟩
  · cases hn
    by_cases hcap : cap = 0
    · subst hcap
      obtain rfl : len = 0 := by omega
      exact ⟨[], _, by simp, by simp, rfl, .emp (fun id => by simp)⟩
    have hspot : a.spot = none := by
      have get : ∀ (c : DataW H × List MemPlace) (r : List Value → Option (DataW H × List MemPlace)), (W.cells? 0 (a.add (0 * Tryz.prog.cellsOf e)) (Tryz.prog.cellsOf e)).bind r = some c → a.spot = none := fun c r hr => by
        obtain ⟨cs', h1, _⟩ := Option.bind_eq_some_iff.1 hr
        obtain ⟨_, h2, h3⟩ := World.cells?_some h1
        have h4 := h3 0 (by omega)
        rw [List.getElem?_eq_getElem (by omega)] at h4
        have e0 : (a.add (0 * Tryz.prog.cellsOf e)).add 0 = a := by simp [Addr.add]
        rw [e0] at h4
        unfold World.cell? at h4
        split at h4
        · split at h4
          · cases h4
          · rename_i q; simpa using q
        · cases h4
      by_cases h0 : 0 < len
      · have := hel 0 h0
        rw [List.getElem?_eq_getElem (by omega)] at this
        exact get _ _ this
      · obtain ⟨h1, h2⟩ := hsp rfl
        have := h2 0 (by omega)
        rw [List.getElem?_eq_getElem (by omega)] at this
        obtain rfl : len = 0 := by omega
        exact get _ _ this
    obtain ⟨b, off, sp⟩ := a
    simp only at hspot
    subst hspot
    have key : ∀ i, i < len → ∃ y u, p y ∧ R W Mem.start W u (f y) ∧ u.cells.size = sz ∧ ∀ j, j < sz → W.cell? ⟨b, off + i * sz + j, none⟩ = u.cells[j]? := fun i hi => by
      have h1 := hel i hi
      rw [List.getElem?_eq_getElem (by omega)] at h1
      obtain ⟨cs', h2, h3⟩ := Option.bind_eq_some_iff.1 h1
      obtain ⟨y, u, h4, h5, h6⟩ := H0 _ _ h3
      obtain ⟨_, h7, h8⟩ := World.cells?_some h2
      rw [hc] at h7 h8
      refine ⟨y, u, h4, h6, by rw [← h7, ← h5, Array.length_toList], fun j hj => ?_⟩
      have := h8 j hj
      rw [← h5, Array.getElem?_toList] at this
      rw [← this]
      congr 1
      have ea : ∀ (o m : Nat), (⟨b, o, none⟩ : Addr).add m = ⟨b, o + m, none⟩ := fun o m => by unfold Addr.add; split <;> simp_all
      rw [ea, ea]
    classical
    let y : Nat → Option (α × Value) := fun i => if hi : i < len then some (Classical.choose (key i hi), Classical.choose (Classical.choose_spec (key i hi))) else none
    have hne : len = 0 ∨ Nonempty (α × Value) := by
      by_cases h0 : 0 < len
      · obtain ⟨z, u, _⟩ := key 0 h0; exact .inr ⟨(z, u)⟩
      · exact .inl (by omega)
    rcases hne with h0 | ⟨⟨d⟩⟩
    · subst h0
      exact ⟨[], _, by simp, by simp, rfl, .list (xs := []) 0 (fun _ => undef) (Nat.zero_le _) hm (fun i hi => absurd hi (by simp)) (fun i hi => absurd hi (by simp)) trivial⟩
    · let g : Nat → α × Value := fun i => if hi : i < len then (Classical.choose (key i hi), Classical.choose (Classical.choose_spec (key i hi))) else d
      have hg : ∀ i, i < len → p (g i).1 ∧ R W Mem.start W (g i).2 (f (g i).1) ∧ (g i).2.cells.size = sz ∧ ∀ j, j < sz → W.cell? ⟨b, off + i * sz + j, none⟩ = (g i).2.cells[j]? := fun i hi => by
        have := Classical.choose_spec (Classical.choose_spec (key i hi))
        simp only [g, dif_pos hi]
        exact this
      have hlen2 : (((List.range len).map fun i => (g i).1).map f).length = len := by simp
      refine ⟨(List.range len).map fun i => (g i).1, .slice (some ⟨b, off, none⟩) len cap, fun z hz => ?_, by simp; omega, rfl, ?_⟩
      · obtain ⟨i, hi, rfl⟩ := List.mem_map.1 hz
        exact (hg i (by simpa using hi)).1
      · have := Ev.R.list (w0 := W) (M := Ev.Mem.start) (w := W) (b := b) (off := off) (cap := cap) (xs := ((List.range len).map fun i => (g i).1).map f) (o := .none) sz (fun i => (g i).2) (by rw [hlen2]; exact hl) hm
          (fun i hi => by
            rw [hlen2] at hi
            obtain ⟨_, _, h3, h4⟩ := hg i hi
            refine ⟨h3, fun j hj => ⟨.inl ?_, h4 j hj⟩⟩
            have := h4 j hj
            rw [Array.getElem?_eq_getElem (by rw [h3]; exact hj)] at this
            exact World.block_lt_of_cell? W _ this) (fun i hi => by
            rw [hlen2] at hi
            simp only [List.getElem_map, List.getElem_range]
            exact (hg i hi).2.1) trivial
        rw [hlen2] at this
        exact this
theorem Vl.ones (v : Vl) : ∀ x ∈ v.cs, x.one = true := by
  cases v; intro x hx
  simp only [Vl.cs, List.mem_cons, List.not_mem_nil, or_false] at hx
  rcases hx with rfl | rfl | rfl | rfl | rfl | rfl <;> rfl
theorem Ty.ones (v : Ty) : ∀ x ∈ v.cs, x.one = true := by
  cases v; intro x hx
  simp only [Ty.cs, List.mem_cons, List.not_mem_nil, or_false] at hx
  rcases hx with rfl | rfl | rfl | rfl | rfl | rfl | rfl <;> rfl
theorem td_val : ∀ (n : Nat) (cs : List Value) (x : DataW H × List MemPlace), Td enc W n 34 cs = some x → ∃ v : Vl, v.wf ∧ RC W cs v.cs
  | 0, cs, x, h => by simp [Td, DataW.trod] at h
  | n + 1, cs, x, h => by
    obtain ⟨xs, n', hn, _, hl, hx, hf⟩ := DataW.trod_struct Tryz.underlying34 h
    cases hn
    have hl6 : cs.length = 6 := hl.trans (by kernel_rfl)
    have hx6 : xs.length = 6 := hx
    match cs, hl6 with
    | [c0, c1, c2, c3, c4, c5], _ =>
    have g : ∀ i (hi : i < 6), xs[i]? = some (xs[i]'(by omega)) := fun i hi => List.getElem?_eq_getElem _
    have f0 := hf 0 _ rfl; have f1 := hf 1 _ rfl; have f2 := hf 2 _ rfl; have f3 := hf 3 _ rfl; have f4 := hf 4 _ rfl; have f5 := hf 5 _ rfl
    rw [g 0 (by omega)] at f0; rw [g 1 (by omega)] at f1; rw [g 2 (by omega)] at f2; rw [g 3 (by omega)] at f3; rw [g 4 (by omega)] at f4; rw [g 5 (by omega)] at f5
    obtain ⟨k, hk, ek⟩ := td_int f0
    obtain ⟨i, hi, ei⟩ := td_int f1
    obtain ⟨s, hs, es⟩ := td_int f2
    obtain ⟨t, ht, et⟩ := td_str f3
    cases n with
    | zero => simp [DataW.trod] at f4
    | succ n =>
    obtain ⟨l, vl, hl1, hl2, el, hRl⟩ := td_slice avV Vl.wf Tryz.underlying31 (sz := 6) (by kernel_rfl) (by omega) (fun cs x h => by
      obtain ⟨v, hv, hR⟩ := td_val n cs x h
      exact ⟨v, .agg cs.toArray, hv, by simp [Value.cells], hR.agg v.ones⟩) f4
    obtain ⟨fl, vf, hf1, hf2, ef, hRf⟩ := td_slice avF (fun p => p.1.size ≤ maxLen ∧ p.2.wf) Tryz.underlying32 (sz := 7) (by kernel_rfl) (by omega) (fun cs x h => by
      cases n with
      | zero => simp [DataW.trod] at h
      | succ n =>
      obtain ⟨ys, n', hn, _, hl, hx, hf⟩ := DataW.trod_struct Tryz.underlying83 h
      cases hn
      have hl7 : cs.length = 7 := hl.trans (by kernel_rfl)
      have hx2 : ys.length = 2 := hx
      have q0 := hf 0 _ rfl; have q1 := hf 1 _ rfl
      rw [List.getElem?_eq_getElem (by omega)] at q0 q1
      obtain ⟨nm, hnm, en⟩ := td_str q0
      obtain ⟨v, hv, hR⟩ := td_val n _ _ q1
      have e2 : Tryz.prog.cellsOf 34 = 6 := by kernel_rfl
      have e3 : Tryz.prog.cellsOf 9 = 1 := by kernel_rfl
      simp only [List.getElem_toArray, List.getElem_cons_zero, List.getElem_cons_succ, e2, e3] at en hR
      match cs, hl7 with
      | [c0, c1, c2, c3, c4, c5, c6], _ =>
      simp only [List.drop_zero, List.take_succ_cons, List.take_zero, List.cons.injEq, and_true, List.drop_succ_cons] at en hR
      subst en
      refine ⟨(nm, v), .agg #[.string nm, c1, c2, c3, c4, c5, c6], ⟨hnm, hv⟩, rfl, ?_⟩
      exact RC.agg (cs := [.string nm, c1, c2, c3, c4, c5, c6]) (.cons (.flat (decide_eq_true hnm)) hR) (fun x hx => by
        rcases List.mem_cons.1 hx with rfl | hx
        · rfl
        · exact v.ones x hx)) f5
    have c1' : Tryz.prog.cellsOf 3 = 1 := by kernel_rfl
    have c2' : Tryz.prog.cellsOf 9 = 1 := by kernel_rfl
    have c3' : Tryz.prog.cellsOf 31 = 1 := by kernel_rfl
    have c4' : Tryz.prog.cellsOf 32 = 1 := by kernel_rfl
    simp only [List.getElem_toArray, List.getElem_cons_zero, List.getElem_cons_succ, c1', c2', c3', c4', List.drop_zero, List.take_succ_cons, List.take_zero, List.cons.injEq, and_true, List.drop_succ_cons] at ek ei es et el ef
    subst ek ei es et el ef
    refine ⟨.mk k i s t l fl, ?_, ?_⟩
    · unfold Vl.wf
      exact ⟨hk, hi, hs, ht, hl2, hf2, (wfVs_iff l).2 hl1, (wfFs_iff fl).2 hf1⟩
    · rw [Vl.cs, encVs_av, encFs_av]
      exact .cons (.flat rfl) (.cons (.flat rfl) (.cons (.flat rfl) (.cons (.flat (decide_eq_true ht)) (.cons hRl (.cons hRf .nil)))))
theorem td_typ : ∀ (n : Nat) (cs : List Value) (x : DataW H × List MemPlace), Td enc W n 26 cs = some x → ∃ v : Ty, v.wf ∧ RC W cs v.cs
  | 0, cs, x, h => by simp [Td, DataW.trod] at h
  | n + 1, cs, x, h => by
    obtain ⟨xs, n', hn, _, hl, hx, hf⟩ := DataW.trod_struct Tryz.underlying26 h
    cases hn
    have hl7 : cs.length = 7 := hl.trans (by kernel_rfl)
    have hx7 : xs.length = 7 := hx
    match cs, hl7 with
    | [c0, c1, c2, c3, c4, c5, c6], _ =>
    have g : ∀ i (hi : i < 7), xs[i]? = some (xs[i]'(by omega)) := fun i hi => List.getElem?_eq_getElem _
    have f0 := hf 0 _ rfl; have f1 := hf 1 _ rfl; have f2 := hf 2 _ rfl; have f3 := hf 3 _ rfl; have f4 := hf 4 _ rfl; have f5 := hf 5 _ rfl; have f6 := hf 6 _ rfl
    rw [g 0 (by omega)] at f0; rw [g 1 (by omega)] at f1; rw [g 2 (by omega)] at f2; rw [g 3 (by omega)] at f3; rw [g 4 (by omega)] at f4; rw [g 5 (by omega)] at f5; rw [g 6 (by omega)] at f6
    obtain ⟨k, hk, ek⟩ := td_int f0
    obtain ⟨lo, hlo, elo⟩ := td_int f1
    obtain ⟨hi, hhi, ehi⟩ := td_int f2
    obtain ⟨s, hs, es⟩ := td_int f3
    cases n with
    | zero => simp [DataW.trod] at f4
    | succ n =>
    obtain ⟨w, vw, hw1, hw2, ew, hRw⟩ := td_slice avS (fun s => s.size ≤ maxLen) Tryz.underlying22 (sz := 1) (by kernel_rfl) (by omega) (fun cs x h => by
      obtain ⟨s, hs, rfl⟩ := td_str h
      exact ⟨s, .string s, hs, rfl, .flat (decide_eq_true hs)⟩) f4
    obtain ⟨el, ve, he1, he2, ee, hRe⟩ := td_slice avT Ty.wf Tryz.underlying23 (sz := 7) (by kernel_rfl) (by omega) (fun cs x h => by
      obtain ⟨v, hv, hR⟩ := td_typ n cs x h
      exact ⟨v, .agg cs.toArray, hv, by simp [Value.cells], hR.agg v.ones⟩) f5
    obtain ⟨fl, vf, hf1, hf2, ef, hRf⟩ := td_slice avTF (fun p => I64 p.1 ∧ p.2.1.size ≤ maxLen ∧ I64 p.2.2.1 ∧ p.2.2.2.1.wf ∧ p.2.2.2.2.length ≤ maxLen ∧ ∀ v ∈ p.2.2.2.2, v.wf) Tryz.underlying24 (sz := 11) (by kernel_rfl) (by omega) (fun cs x h => by
      cases n with
      | zero => simp [DataW.trod] at h
      | succ n =>
      obtain ⟨ys, n', hn, _, hl, hx, hf⟩ := DataW.trod_struct Tryz.underlying53 h
      cases hn
      have hl11 : cs.length = 11 := hl.trans (by kernel_rfl)
      have hx5 : ys.length = 5 := hx
      have q0 := hf 0 _ rfl; have q1 := hf 1 _ rfl; have q2 := hf 2 _ rfl; have q3 := hf 3 _ rfl; have q4 := hf 4 _ rfl
      rw [List.getElem?_eq_getElem (by omega)] at q0 q1 q2 q3 q4
      obtain ⟨nu, hnu, enu⟩ := td_int q0
      obtain ⟨nm, hnm, en⟩ := td_str q1
      obtain ⟨nd, hnd, end'⟩ := td_int q2
      obtain ⟨v, hv, hR⟩ := td_typ n _ _ q3
      cases n with
      | zero => simp [DataW.trod] at q4
      | succ n =>
      obtain ⟨dl, vd, hd1, hd2, ed, hRd⟩ := td_slice avV Vl.wf Tryz.underlying31 (sz := 6) (by kernel_rfl) (by omega) (fun cs x h => by
        obtain ⟨v, hv, hR⟩ := td_val n cs x h
        exact ⟨v, .agg cs.toArray, hv, by simp [Value.cells], hR.agg v.ones⟩) q4
      have e1 : Tryz.prog.cellsOf 3 = 1 := by kernel_rfl
      have e2 : Tryz.prog.cellsOf 26 = 7 := by kernel_rfl
      have e3 : Tryz.prog.cellsOf 9 = 1 := by kernel_rfl
      have e4 : Tryz.prog.cellsOf 31 = 1 := by kernel_rfl
      simp only [List.getElem_toArray, List.getElem_cons_zero, List.getElem_cons_succ, e1, e2, e3, e4] at enu en end' hR ed
      match cs, hl11 with
      | [c0, c1, c2, c3, c4, c5, c6, c7, c8, c9, c10], _ =>
      simp only [List.drop_zero, List.take_succ_cons, List.take_zero, List.cons.injEq, and_true, List.drop_succ_cons] at enu en end' hR ed
      subst enu en end' ed
      refine ⟨(nu, nm, nd, v, dl), .agg #[.int .i64 nu, .string nm, .int .i64 nd, c3, c4, c5, c6, c7, c8, c9, c10], ⟨hnu, hnm, hnd, hv, hd2, hd1⟩, rfl, ?_⟩
      exact RC.agg (cs := [.int .i64 nu, .string nm, .int .i64 nd] ++ ([c3, c4, c5, c6, c7, c8, c9] ++ [c10])) (.cons (.flat rfl) (.cons (.flat (show flatV (.string nm) = true from decide_eq_true hnm)) (.cons (.flat rfl) (hR.app (.cons hRd .nil))))) (fun x hx => by
        simp only [List.mem_cons, List.mem_append, List.not_mem_nil, or_false] at hx
        rcases hx with rfl | rfl | rfl | hx | rfl
        · rfl
        · rfl
        · rfl
        · exact v.ones x hx
        · rfl)) f6
    have c1' : Tryz.prog.cellsOf 3 = 1 := by kernel_rfl
    have c2' : Tryz.prog.cellsOf 22 = 1 := by kernel_rfl
    have c3' : Tryz.prog.cellsOf 23 = 1 := by kernel_rfl
    have c4' : Tryz.prog.cellsOf 24 = 1 := by kernel_rfl
    simp only [List.getElem_toArray, List.getElem_cons_zero, List.getElem_cons_succ, c1', c2', c3', c4', List.drop_zero, List.take_succ_cons, List.take_zero, List.cons.injEq, and_true, List.drop_succ_cons] at ek elo ehi es ew ee ef
    subst ek elo ehi es ew ee ef
    refine ⟨.mk k lo hi s w el fl, ?_, ?_⟩
    · unfold Ty.wf
      exact ⟨hk, hlo, hhi, hs, hw1, hw2, he2, hf2, (wfTs_iff el).2 he1, (wfTFs_iff fl).2 hf1⟩
    · rw [Ty.cs, encTs_av, encTFs_av, words_av]
      exact .cons (.flat rfl) (.cons (.flat rfl) (.cons (.flat rfl) (.cons (.flat rfl) (.cons hRw (.cons hRe (.cons hRf .nil))))))
end
section
variable {H : Type} {enc : TypeId × Value → H} {W : World} {base : Nat} {v : Value} {d : DataW H} {p : List MemPlace}
theorem agg_of {t : TypeId} {fs : Array Field} (ht : Tryz.prog.underlying t = some (.struct fs)) (hv : Value.okWide Tryz.prog W .any base t v) : ∃ cs, v = .agg cs := by
  unfold Value.okWide at hv
  rw [ht] at hv
  obtain ⟨cs, h, _⟩ := hv
  exact ⟨cs, h⟩
theorem open_t (hv : Value.okWide Tryz.prog W .any base 26 v) (h : DataW.Trod enc Tryz.prog W 0 (fun _ => true) true 26 v d p) : ∃ t : Ty, t.wf ∧ R W Mem.start W v (.agg t.cs) := by
  obtain ⟨cs, rfl⟩ := agg_of Tryz.underlying26 hv
  obtain ⟨n, hn⟩ := h
  obtain ⟨t, h1, h2⟩ := td_typ n _ _ hn
  exact ⟨t, h1, by simpa [Value.cells] using h2.agg t.ones⟩
theorem open_v (hv : Value.okWide Tryz.prog W .any base 34 v) (h : DataW.Trod enc Tryz.prog W 0 (fun _ => true) true 34 v d p) : ∃ t : Vl, t.wf ∧ R W Mem.start W v (.agg t.cs) := by
  obtain ⟨cs, rfl⟩ := agg_of Tryz.underlying34 hv
  obtain ⟨n, hn⟩ := h
  obtain ⟨t, h1, h2⟩ := td_val n _ _ hn
  exact ⟨t, h1, by simpa [Value.cells] using h2.agg t.ones⟩
end
end Go.Proofs.YtggimoedcamonaaGreatDoor
namespace Go.Proofs.YtggimoedcamonaaGreatDoor
open Go Go.RowKit Go.Ev
set_option linter.unusedVariables false
set_option linter.unusedSimpArgs false


theorem idx_nat {α : Type} {l : List α} {k : Nat} (h : k < l.length) : idx l (k : Int) = some l[k] := idx_of h
theorem lt_int {a b : Nat} : decide ((a : Int) < (b : Int)) = decide (a < b) := by simp
theorem I64_succ {k : Nat} (h : k < 1000000000000) : I64 ((k : Int) + 1) := by unfold I64; omega


theorem Ty.size_pos (t : Ty) : 0 < t.size := by cases t; simp [Ty.size]; omega
theorem Ty.size_eq (t : Ty) : t.size = 1 + sizeTs t.elem + sizeTFs t.fields := by cases t; simp [Ty.size, Ty.elem, Ty.fields]
theorem sizeTs_mem : ∀ (l : List Ty) (v : Ty), v ∈ l → v.size ≤ sizeTs l
  | [], _, h => by simp at h
  | a :: r, v, h => by
    rcases List.mem_cons.1 h with rfl | h
    · simp [sizeTs]
    · have := sizeTs_mem r v h
      simp [sizeTs]; omega
theorem sizeTFs_mem : ∀ (l : List (Int × ByteArray × Int × Ty × List Vl)) (p : Int × ByteArray × Int × Ty × List Vl), p ∈ l → p.2.2.2.1.size ≤ sizeTFs l
  | [], _, h => by simp at h
  | (a, b, c, t, d) :: r, p, h => by
    rcases List.mem_cons.1 h with rfl | h
    · simp [sizeTFs]
    · have := sizeTFs_mem r p h
      simp [sizeTFs]; omega
theorem sizeTs_len : ∀ l : List Ty, l.length ≤ sizeTs l
  | [] => Nat.le_refl _
  | v :: r => by have := sizeTs_len r; have := v.size_pos; simp [sizeTs]; omega
theorem sizeTFs_len : ∀ l : List (Int × ByteArray × Int × Ty × List Vl), l.length ≤ sizeTFs l
  | [] => Nat.le_refl _
  | (_, _, _, t, _) :: r => by have := sizeTFs_len r; have := t.size_pos; simp [sizeTFs]; omega
theorem Ty.elem_size (t x : Ty) (h : x ∈ t.elem) : x.size < t.size := by have := sizeTs_mem _ _ h; have := t.size_eq; omega
theorem Ty.field_size (t : Ty) (p) (h : p ∈ t.fields) : p.2.2.2.1.size < t.size := by have := sizeTFs_mem _ _ h; have := t.size_eq; omega
theorem Ty.lens (t : Ty) : t.elem.length < t.size ∧ t.fields.length < t.size := by have := sizeTs_len t.elem; have := sizeTFs_len t.fields; have := t.size_eq; omega
theorem Vl.list_size (v x : Vl) (h : x ∈ v.list) : x.size < v.size := by have := sizeVs_mem _ _ h; have := v.size_eq; omega
theorem Vl.field_size (v : Vl) (p) (h : p ∈ v.fields) : p.2.size < v.size := by have := sizeFs_mem _ _ h; have := v.size_eq; omega
mutual
def Ty.depth : Ty → Nat
  | .mk _ _ _ _ _ e f => 1 + max (depthTs e) (depthTFs f)
def depthTs : List Ty → Nat
  | [] => 0
  | t :: r => max t.depth (depthTs r)
def depthTFs : List (Int × ByteArray × Int × Ty × List Vl) → Nat
  | [] => 0
  | (_, _, _, t, _) :: r => max t.depth (depthTFs r)
end
mutual
def Vl.depth : Vl → Nat
  | .mk _ _ _ _ l f => 1 + max (depthVs l) (depthFs f)
def depthVs : List Vl → Nat
  | [] => 0
  | t :: r => max t.depth (depthVs r)
def depthFs : List (ByteArray × Vl) → Nat
  | [] => 0
  | (_, t) :: r => max t.depth (depthFs r)
end
mutual
def Vl.ok : Vl → Prop
  | .mk _ _ _ t l f => t.size ≤ 2000 ∧ okVs l ∧ okFs f
def okVs : List Vl → Prop
  | [] => True
  | v :: r => v.ok ∧ okVs r
def okFs : List (ByteArray × Vl) → Prop
  | [] => True
  | (n, v) :: r => n.size ≤ 100 ∧ v.ok ∧ okFs r
end
theorem okVs_iff : ∀ l, okVs l ↔ ∀ v ∈ l, v.ok
  | [] => by simp [okVs]
  | v :: r => by simp [okVs, okVs_iff r]
theorem okFs_iff : ∀ l, okFs l ↔ ∀ p ∈ l, p.1.size ≤ 100 ∧ p.2.ok
  | [] => by simp [okFs]
  | (n, v) :: r => by simp [okFs, okFs_iff r, and_assoc]
def Vl.small (v : Vl) : Prop := v.size ≤ 300 ∧ v.depth ≤ 12 ∧ v.ok
mutual
def Ty.ok : Ty → Prop
  | .mk _ _ _ _ w e f => w.length ≤ 70 ∧ (∀ x ∈ w, x.size ≤ 2000) ∧ okTs e ∧ okTFs f
def okTs : List Ty → Prop
  | [] => True
  | v :: r => v.ok ∧ okTs r
def okTFs : List (Int × ByteArray × Int × Ty × List Vl) → Prop
  | [] => True
  | (_, n, _, t, d) :: r => (n.size ≤ 100 ∧ t.ok ∧ d.length ≤ 3 ∧ ∀ v ∈ d, v.small) ∧ okTFs r
end
theorem okTs_iff : ∀ l, okTs l ↔ ∀ v ∈ l, v.ok
  | [] => by simp [okTs]
  | v :: r => by simp [okTs, okTs_iff r]
theorem okTFs_iff : ∀ l, okTFs l ↔ ∀ p ∈ l, p.2.1.size ≤ 100 ∧ p.2.2.2.1.ok ∧ p.2.2.2.2.length ≤ 3 ∧ ∀ v ∈ p.2.2.2.2, v.small
  | [] => by simp [okTFs]
  | (_, n, _, t, d) :: r => by simp [okTFs, okTFs_iff r]
theorem Ty.ok_eq (t : Ty) : t.ok ↔ t.words.length ≤ 70 ∧ (∀ x ∈ t.words, x.size ≤ 2000) ∧ (∀ v ∈ t.elem, v.ok) ∧ ∀ p ∈ t.fields, p.2.1.size ≤ 100 ∧ p.2.2.2.1.ok ∧ p.2.2.2.2.length ≤ 3 ∧ ∀ v ∈ p.2.2.2.2, v.small := by
  cases t; simp only [Ty.ok, Ty.words, Ty.elem, Ty.fields, okTs_iff, okTFs_iff]
theorem Vl.ok_eq (v : Vl) : v.ok ↔ v.text.size ≤ 2000 ∧ (∀ x ∈ v.list, x.ok) ∧ ∀ p ∈ v.fields, p.1.size ≤ 100 ∧ p.2.ok := by
  cases v; simp only [Vl.ok, Vl.text, Vl.list, Vl.fields, okVs_iff, okFs_iff]
theorem depthTs_le : ∀ (l : List Ty) (d : Nat), depthTs l ≤ d ↔ ∀ v ∈ l, v.depth ≤ d
  | [], d => by simp [depthTs]
  | v :: r, d => by simp [depthTs, Nat.max_le, depthTs_le r d]
theorem depthTFs_le : ∀ (l : List (Int × ByteArray × Int × Ty × List Vl)) (d : Nat), depthTFs l ≤ d ↔ ∀ v ∈ l, v.2.2.2.1.depth ≤ d
  | [], d => by simp [depthTFs]
  | (_, _, _, t, _) :: r, d => by simp [depthTFs, Nat.max_le, depthTFs_le r d]
theorem depthVs_le : ∀ (l : List Vl) (d : Nat), depthVs l ≤ d ↔ ∀ v ∈ l, v.depth ≤ d
  | [], d => by simp [depthVs]
  | v :: r, d => by simp [depthVs, Nat.max_le, depthVs_le r d]
theorem depthFs_le : ∀ (l : List (ByteArray × Vl)) (d : Nat), depthFs l ≤ d ↔ ∀ v ∈ l, v.2.depth ≤ d
  | [], d => by simp [depthFs]
  | (_, t) :: r, d => by simp [depthFs, Nat.max_le, depthFs_le r d]
theorem Ty.depth_eq (t : Ty) : t.depth = 1 + Max.max (depthTs t.elem) (depthTFs t.fields) := by cases t; simp [Ty.depth, Ty.elem, Ty.fields]
theorem Vl.depth_eq (v : Vl) : v.depth = 1 + Max.max (depthVs v.list) (depthFs v.fields) := by cases v; simp [Vl.depth, Vl.list, Vl.fields]
theorem Vl.eta (v : Vl) : Vl.mk v.kind v.int v.scale v.text v.list v.fields = v := by cases v; rfl
theorem Ty.eta (v : Ty) : Ty.mk v.kind v.min v.max v.scale v.words v.elem v.fields = v := by cases v; rfl


theorem vclone_l25 (rec : Vl → Option Vl) (n : Nat) (v : Vl) (hs : v.fields.length ≤ 1000000000) (hr : ∀ p ∈ v.fields, rec p.2 = some p.2) (b : List Vl) : ∀ (k m i : Nat), i + k = v.fields.length → k < m → v_Clone_l25 rec n v m i b (v.fields.take i) = some (Vl.mk v.kind v.int v.scale v.text b v.fields)
  | k, 0, i, _, h => absurd h (Nat.not_lt_zero _)
  | 0, m + 1, i, hi, _ => by
    rw [v_Clone_l25, lt_int, decide_eq_false (by omega)]
    simp only [Bool.false_eq_true, if_false, v_Clone_k22]
    rw [List.take_of_length_le (by omega)]
  | k + 1, m + 1, i, hi, hm => by
    have hlt : i < v.fields.length := by omega
    rw [v_Clone_l25, lt_int, decide_eq_true hlt]
    simp only [if_true, idx_nat hlt, Option.bind_some, hr _ (List.getElem_mem hlt)]
    rw [if_pos (by rw [List.length_take]; omega), if_pos (I64_succ (by omega))]
    have e : v.fields.take i ++ [(v.fields[i].1, v.fields[i].2)] = v.fields.take (i + 1) := by rw [List.take_succ_eq_append_getElem hlt]
    rw [e]
    exact vclone_l25 rec n v hs hr b k m (i + 1) (by omega) (by omega)
theorem vclone_l8 (rec : Vl → Option Vl) (n : Nat) (v : Vl) (hs : v.fields.length ≤ 1000000000 ∧ v.list.length ≤ 1000000000) (hn : v.fields.length < n) (hr : (∀ x ∈ v.list, rec x = some x) ∧ ∀ p ∈ v.fields, rec p.2 = some p.2) : ∀ (k m i : Nat), i + k = v.list.length → k < m → v_Clone_l8 rec n v m i (v.list.take i) = some v
  | k, 0, i, _, h => absurd h (Nat.not_lt_zero _)
  | 0, m + 1, i, hi, _ => by
    rw [v_Clone_l8, lt_int, decide_eq_false (by omega)]
    simp only [Bool.false_eq_true, if_false, v_Clone_k5]
    rw [List.take_of_length_le (by omega)]
    have := vclone_l25 rec n v hs.1 hr.2 v.list v.fields.length n 0 (by omega) hn
    rw [List.take_zero] at this
    exact this.trans (by rw [Vl.eta])
  | k + 1, m + 1, i, hi, hm => by
    have hlt : i < v.list.length := by omega
    rw [v_Clone_l8, lt_int, decide_eq_true hlt]
    simp only [if_true, idx_nat hlt, Option.bind_some, hr.1 _ (List.getElem_mem hlt)]
    rw [if_pos (by rw [List.length_take]; omega), if_pos (I64_succ (by omega))]
    have e : v.list.take i ++ [v.list[i]] = v.list.take (i + 1) := by rw [List.take_succ_eq_append_getElem hlt]
    rw [e]
    exact vclone_l8 rec n v hs hn hr k m (i + 1) (by omega) (by omega)
theorem vClone_eq : ∀ (n : Nat) (v : Vl), v.size < n → v.size ≤ 1000000000 → v_Clone_F n v = some v
  | 0, v, h, _ => absurd h (Nat.not_lt_zero _)
  | n + 1, v, h, hs => by
    have hl := parts_len v
    rw [v_Clone_F, v_Clone_B]
    have := vclone_l8 (v_Clone_F n) n v ⟨by omega, by omega⟩ (by omega) ⟨fun x hx => vClone_eq n x (by have := v.list_size x hx; omega) (by have := v.list_size x hx; omega), fun p hp => vClone_eq n p.2 (by have := v.field_size p hp; omega) (by have := v.field_size p hp; omega)⟩ v.list.length n 0 (by omega) (by omega)
    rw [List.take_zero] at this
    exact this
abbrev TF := Int × ByteArray × Int × Ty × List Vl
theorem scf_l11 (rec : Ty → Option Ty) (n : Nat) (p : TF) (y : Ty) (hs : p.2.2.2.2.length ≤ 1000000000) (hr : ∀ v ∈ p.2.2.2.2, v_Clone_F n v = some v) : ∀ (k m i : Nat), i + k = p.2.2.2.2.length → k < m → s_cloneField_l11 rec n p y m (p.2.2.2.2.take i) i = some (p.1, p.2.1, p.2.2.1, y, p.2.2.2.2)
  | k, 0, i, _, h => absurd h (Nat.not_lt_zero _)
  | 0, m + 1, i, hi, _ => by
    rw [s_cloneField_l11, lt_int, decide_eq_false (by omega)]
    simp only [Bool.false_eq_true, if_false, s_cloneField_k8]
    rw [List.take_of_length_le (by omega)]
  | k + 1, m + 1, i, hi, hm => by
    have hlt : i < p.2.2.2.2.length := by omega
    rw [s_cloneField_l11, lt_int, decide_eq_true hlt]
    simp only [if_true, idx_nat hlt, Option.bind_some, hr _ (List.getElem_mem hlt)]
    rw [if_pos (by rw [List.length_take]; omega), if_pos (I64_succ (by omega))]
    have e : p.2.2.2.2.take i ++ [p.2.2.2.2[i]] = p.2.2.2.2.take (i + 1) := by rw [List.take_succ_eq_append_getElem hlt]
    rw [e]
    exact scf_l11 rec n p y hs hr k m (i + 1) (by omega) (by omega)
theorem scf_eq (rec : Ty → Option Ty) (n : Nat) (p : TF) (hs : p.2.2.2.2.length ≤ 1000000000) (hn : p.2.2.2.2.length < n) (hr : ∀ v ∈ p.2.2.2.2, v_Clone_F n v = some v) (ht : rec p.2.2.2.1 = some p.2.2.2.1) : s_cloneField_F rec n p = some p := by
  rw [s_cloneField_F, ht]
  simp only [Option.bind_some]
  rw [if_pos (by omega)]
  have := scf_l11 rec n p p.2.2.2.1 hs hr p.2.2.2.2.length n 0 (by omega) hn
  rw [List.take_zero] at this
  exact this
theorem sclone_l29 (rec : Ty → Option Ty) (n : Nat) (t : Ty) (hw : t.words.length ≤ 1000000000) (hs : t.fields.length ≤ 1000000000) (hr : ∀ p ∈ t.fields, s_cloneField_F rec n p = some p) (e : List Ty) : ∀ (k m i : Nat), i + k = t.fields.length → k < m → s_Clone_l29 rec n t m e (t.fields.take i) i = some (Ty.mk t.kind t.min t.max t.scale t.words e t.fields)
  | k, 0, i, _, h => absurd h (Nat.not_lt_zero _)
  | 0, m + 1, i, hi, _ => by
    rw [s_Clone_l29, lt_int, decide_eq_false (by omega)]
    simp only [Bool.false_eq_true, if_false, s_Clone_k26]
    rw [List.take_of_length_le (by omega), if_pos (by omega)]
  | k + 1, m + 1, i, hi, hm => by
    have hlt : i < t.fields.length := by omega
    rw [s_Clone_l29, lt_int, decide_eq_true hlt]
    simp only [if_true, idx_nat hlt, Option.bind_some, hr _ (List.getElem_mem hlt)]
    rw [if_pos (by rw [List.length_take]; omega), if_pos (I64_succ (by omega))]
    have e' : t.fields.take i ++ [t.fields[i]] = t.fields.take (i + 1) := by rw [List.take_succ_eq_append_getElem hlt]
    rw [e']
    exact sclone_l29 rec n t hw hs hr e k m (i + 1) (by omega) (by omega)
theorem sclone_l9 (rec : Ty → Option Ty) (n : Nat) (t : Ty) (hw : t.words.length ≤ 1000000000) (hs : t.fields.length ≤ 1000000000 ∧ t.elem.length ≤ 1000000000) (hn : t.fields.length < n) (hr : (∀ x ∈ t.elem, rec x = some x) ∧ ∀ p ∈ t.fields, s_cloneField_F rec n p = some p) : ∀ (k m i : Nat), i + k = t.elem.length → k < m → s_Clone_l9 rec n t m (t.elem.take i) i = some t
  | k, 0, i, _, h => absurd h (Nat.not_lt_zero _)
  | 0, m + 1, i, hi, _ => by
    rw [s_Clone_l9, lt_int, decide_eq_false (by omega)]
    simp only [Bool.false_eq_true, if_false, s_Clone_k6]
    rw [List.take_of_length_le (by omega), if_pos (by omega)]
    have := sclone_l29 rec n t hw hs.1 hr.2 t.elem t.fields.length n 0 (by omega) hn
    rw [List.take_zero] at this
    exact this.trans (by rw [Ty.eta])
  | k + 1, m + 1, i, hi, hm => by
    have hlt : i < t.elem.length := by omega
    rw [s_Clone_l9, lt_int, decide_eq_true hlt]
    simp only [if_true, idx_nat hlt, Option.bind_some, hr.1 _ (List.getElem_mem hlt)]
    rw [if_pos (by rw [List.length_take]; omega), if_pos (I64_succ (by omega))]
    have e : t.elem.take i ++ [t.elem[i]] = t.elem.take (i + 1) := by rw [List.take_succ_eq_append_getElem hlt]
    rw [e]
    exact sclone_l9 rec n t hw hs hn hr k m (i + 1) (by omega) (by omega)
theorem sClone_eq : ∀ (n : Nat) (t : Ty), t.size + 400 < n → t.size ≤ 1000000000 → t.ok → s_Clone_F n t = some t
  | 0, t, h, _, _ => absurd h (Nat.not_lt_zero _)
  | n + 1, t, h, hs, hok => by
    have hl := t.lens
    obtain ⟨o1, o2, o3, o4⟩ := t.ok_eq.1 hok
    rw [s_Clone_F, s_Clone_B, if_pos (by omega)]
    have := sclone_l9 (s_Clone_F n) n t (by omega) ⟨by omega, by omega⟩ (by omega) ⟨fun x hx => sClone_eq n x (by have := t.elem_size x hx; omega) (by have := t.elem_size x hx; omega) (o3 x hx), fun p hp => by
      obtain ⟨_, q2, q3, q4⟩ := o4 p hp
      have := t.field_size p hp
      exact scf_eq _ n p (by omega) (by omega) (fun v hv => vClone_eq n v (by have := (q4 v hv).1; omega) (by have := (q4 v hv).1; omega)) (sClone_eq n _ (by omega) (by omega) q2)⟩ t.elem.length n 0 (by omega) (by omega)
    rw [List.take_zero] at this
    exact this
end Go.Proofs.YtggimoedcamonaaGreatDoor
namespace Go.Proofs.YtggimoedcamonaaGreatDoor
open Go Go.RowKit Go.Ev
set_option linter.unusedVariables false
set_option linter.unusedSimpArgs false
theorem ba_ext {a b : ByteArray} (h : a.data.toList = b.data.toList) : a = b := by
  cases a; cases b; simp at h; rw [h]
theorem sEq_iff (x y : ByteArray) : sEq x y = true ↔ x = y := by
  unfold sEq
  rw [beq_iff_eq]
  exact ⟨ba_ext, fun h => by rw [h]⟩
theorem sz_max {n : Nat} (h : n ≤ 2000) : n ≤ maxLen := by unfold maxLen; omega


theorem Vl.ext' {a b : Vl} (h1 : a.kind = b.kind) (h2 : a.int = b.int) (h3 : a.scale = b.scale) (h4 : a.text = b.text) (h5 : a.list = b.list) (h6 : a.fields = b.fields) : a = b := by
  rw [← a.eta, ← b.eta, h1, h2, h3, h4, h5, h6]
theorem TF.ext' {p q : TF} (h1 : p.1 = q.1) (h2 : p.2.1 = q.2.1) (h3 : p.2.2.1 = q.2.2.1) (h4 : p.2.2.2.1 = q.2.2.2.1) (h5 : p.2.2.2.2 = q.2.2.2.2) : p = q := by
  obtain ⟨a, b, c, d, e⟩ := p
  obtain ⟨a', b', c', d', e'⟩ := q
  simp only at h1 h2 h3 h4 h5
  rw [h1, h2, h3, h4, h5]
theorem Ty.ext' {a b : Ty} (h1 : a.kind = b.kind) (h2 : a.min = b.min) (h3 : a.max = b.max) (h4 : a.scale = b.scale) (h5 : a.words = b.words) (h6 : a.elem = b.elem) (h7 : a.fields = b.fields) : a = b := by
  rw [← a.eta, ← b.eta, h1, h2, h3, h4, h5, h6, h7]
end Go.Proofs.YtggimoedcamonaaGreatDoor
namespace Go.Ev
open Go
set_option linter.unusedVariables false
set_option linter.unusedSimpArgs false
structure VStk (Rw rows : List RowA) (sz : Nat) (xs : List AV) (id ver : Nat) : Prop where
  pre : Rw <+: rows
  calm : ∀ r ∈ rows.drop Rw.length, ∀ y ∈ r.cells, ∀ a b c, Under a b c y
  own : Rw.length ≤ id
  len : ∀ y ∈ xs, y.cells.length = sz
  at_ : ∃ rest, rows[id]? = some (.vec ver sz (xs.flatMap AV.cells ++ rest))
theorem VStk.under {Rw rows : List RowA} {sz : Nat} {xs : List AV} {id ver : Nat} (h : VStk Rw rows sz xs id ver) : id < rows.length := by
  obtain ⟨rest, h⟩ := h.at_
  exact (List.getElem?_eq_some_iff.1 h).1
theorem VStk.read {Rw rows : List RowA} {sz : Nat} {xs : List AV} {id ver : Nat} (h : VStk Rw rows sz xs id ver) :
    ∃ cs, vecR rows id ver = some (sz, cs) ∧ ∀ i y, xs[i]? = some y → (cs.drop (i * sz)).take sz = y.cells ∧ i * sz + sz ≤ cs.length := by
  obtain ⟨rest, h1⟩ := h.at_
  refine ⟨xs.flatMap AV.cells ++ rest, by simp only [vecR, h1, if_true], fun i y hy => ?_⟩
  obtain ⟨hi, rfl⟩ := List.getElem?_eq_some_iff.1 hy
  have q := h.len _ (List.getElem_mem hi)
  have hl : (xs.flatMap AV.cells).length = xs.length * sz := fm_len2 h.len
  have hm : i * sz + sz ≤ xs.length * sz := by rw [← Nat.succ_mul]; exact Nat.mul_le_mul_right _ hi
  refine ⟨List.ext_getElem? fun j => ?_, by rw [List.length_append]; omega⟩
  by_cases hj : j < sz
  · rw [List.getElem?_take_of_lt hj, List.getElem?_drop, List.getElem?_append_left (by omega), fm_get2 h.len i hi j hj]
  · rw [List.getElem?_eq_none (by simp; omega), List.getElem?_eq_none (by omega)]
theorem VStk.start (Rw : List RowA) {sz : Nat} {y : AV} {cs : List AV} (hc : cs = y.cells) (hy : y.cells.length = sz) (hu : ∀ c ∈ y.cells, ∀ a b d, Under a b d c) : VStk Rw (Rw ++ [.vec 0 sz cs]) sz [y] Rw.length 0 := by
  subst hc
  refine ⟨List.prefix_append _ _, fun r hr x hx a b c => ?_, Nat.le_refl _, fun x hx => by rw [List.mem_singleton.1 hx]; exact hy, ⟨[], by simp⟩⟩
  rw [List.drop_left] at hr
  rw [List.mem_singleton.1 hr] at hx
  exact hu x hx a b c
theorem VStk.take {Rw rows : List RowA} {sz : Nat} {xs : List AV} {id ver : Nat} (h : VStk Rw rows sz xs id ver) (k : Nat) : VStk Rw rows sz (xs.take k) id ver := by
  obtain ⟨rest, h1⟩ := h.at_
  refine ⟨h.pre, h.calm, h.own, fun y hy => h.len y (List.mem_of_mem_take hy), ⟨(xs.drop k).flatMap AV.cells ++ rest, ?_⟩⟩
  rw [h1, ← List.append_assoc, ← List.flatMap_append, List.take_append_drop]
theorem VStk.of_eq {Rw rows : List RowA} {sz : Nat} {xs ys : List AV} {id ver : Nat} (h : VStk Rw rows sz xs id ver) (he : xs = ys) : VStk Rw rows sz ys id ver := he ▸ h
theorem VStk.append {P : Program} {t el : TypeId} {sz by8 : Nat} {ag : Bool} {Rw rows : List RowA} {xs : List AV} {y : AV} {id ver : Nat} (h : VStk Rw rows sz xs id ver) (he : elT P t = some (el, sz, ag, by8)) (hz : (zeroT P el).isSome = true) (hs : 0 < sz)
    (hb : (xs.length + 1) * by8 ≤ 140737488355328) (hb2 : xs.length + 1 ≤ 4611686018427387904) (hy : y.cells.length = sz ∧ notTup y = true) (hp : y.pub = y) (hu : ∀ c ∈ y.cells, ∀ a b d, Under a b d c) :
    ∃ rows', VStk Rw rows' sz (xs ++ [y]) id (ver + 1) ∧ ∀ (B : List (List AV)) (L : List LoopA) (o2 : Own), evAppend P ⟨B, rows, L⟩ t (.vec id ver 0 xs.length) (.list [y] o2) = (True, .vec id (ver + 1) 0 (xs.length + 1), ⟨B, rows', L⟩) := by
  have hl := h.pre.length_le
  have h2 := h.own
  obtain ⟨rest, h3⟩ := h.at_
  have hlt := (List.getElem?_eq_some_iff.1 h3).1
  have hcl : (xs.flatMap AV.cells).length = xs.length * sz := fm_len2 h.len
  have ob : appendOb P el sz by8 xs.length [y] = True := by
    simp only [appendOb, hs, hz, List.length_singleton, hb, hb2, true_and, List.mem_singleton, forall_eq, hy, and_self]
  refine ⟨rows.set id (.vec (ver + 1) sz (xs.flatMap AV.cells ++ y.cells)), ⟨set_grow_pre h.pre h2 _, fun r hr z hz' a b c => ?_, h2, fun z hz => ?_, ⟨[], by simp [hlt, List.flatMap_append]⟩⟩, fun B L o2 => ?_⟩
  · rw [List.drop_set, if_neg (by omega)] at hr
    rcases List.mem_or_eq_of_mem_set hr with hr | rfl
    · exact h.calm r hr z hz' a b c
    · rcases List.mem_append.1 hz' with q | q
      · exact h.calm (.vec ver sz (xs.flatMap AV.cells ++ rest)) (by
          rw [List.mem_iff_getElem?]
          exact ⟨id - Rw.length, by rw [List.getElem?_drop, Nat.add_sub_cancel' h2]; exact h3⟩) z (List.mem_append_left _ q) a b c
      · exact hu z q a b c
  · rcases List.mem_append.1 hz with q | q
    · exact h.len z q
    · rw [List.mem_singleton.1 q]; exact hy.1
  · simp only [evAppend, he, listOf, isList, List.length_singleton, List.flatMap_cons, List.flatMap_nil, List.append_nil, hp, vecR, h3, if_true]
    rw [ob]
    have e1 : (xs.flatMap AV.cells ++ rest).take (xs.length * sz) = xs.flatMap AV.cells := by rw [← hcl, List.take_left]
    have e2 : xs.length * sz ≤ (xs.flatMap AV.cells ++ rest).length := by rw [List.length_append]; omega
    simp only [true_and, e1, eq_true e2, and_self]
section
variable {P : Program} {w0 : World} {n : Nat} {e : Env} {st : St} {M0 : Mem} {W0 : World} {ro : Option Nat} {Q : AQ} {c : Code}
theorem tdS {B0 B bs X : List (List AV)} {Rw rows : List RowA} {L : List LoopA} {sz : Nat} {xs : List AV} {id ver : Nat} (hN : M0.N = B0.length) (hNR : M0.NR = Rw.length) (hNL : M0.NL = L.length) (hc : Calm B0.length Rw.length L.length ⟨B, Rw, L⟩) (ho : VStk Rw rows sz xs id ver)
    (h : awp P w0 n M0 W0 ro c Q e ⟨B ++ bs, rows, L⟩) (hB : B.length = B0.length := by first | rfl | simp only [List.length_set])
    (hbs : ∀ cs ∈ bs, ∀ x ∈ cs, Under (B0.length + bs.length) rows.length L.length x := by (simp +decide only [go_sem, Nat.reduceAdd]) <;> (try (repeat' apply And.intro)) <;> first | omega | assumption)
    (he : calmE (B0.length + bs.length) rows.length L.length e := by (simp +decide only [go_sem, Nat.reduceAdd, calmE]) <;> (try (repeat' apply And.intro)) <;> first | omega | assumption) : awp P w0 n M0 W0 ro c Q e ⟨B ++ (bs ++ X), rows, L⟩ := by
  rw [← hB] at hN hc hbs he
  clear hB B0
  have hl := ho.pre.length_le
  have e1 : St.cut ⟨B ++ (bs ++ X), rows, L⟩ (B.length + bs.length) rows.length L.length = ⟨B ++ bs, rows, L⟩ := by
    simp only [St.cut, List.take_length, ← List.append_assoc]
    rw [List.take_left' (by simp)]
  refine awp_cut (B.length + bs.length) rows.length L.length (by simp) (Nat.le_refl _) (Nat.le_refl _) (by omega) (by omega) (by omega) ?_ he (by rw [e1]; exact h)
  rw [e1]
  refine ⟨fun r hr x hx => ?_, fun cs hcs x hx => ?_, fun la hla k x hx ht => ?_⟩
  · obtain ⟨t, rfl⟩ := ho.pre
    rcases List.mem_append.1 hr with hr | hr
    · exact under_up (by omega) (by omega) (Nat.le_refl _) (hc.rows r hr x hx)
    · exact ho.calm r (by simpa using hr) x hx _ _ _
  · rcases List.mem_append.1 hcs with hcs | hcs
    · exact under_up (by omega) (by omega) (Nat.le_refl _) (hc.boxes cs hcs x hx)
    · exact hbs cs hcs x hx
  · exact under_up (by omega) (by omega) (Nat.le_refl _) (hc.loops la hla k x hx ht)
end
end Go.Ev
namespace Go.Proofs.YtggimoedcamonaaGreatDoor
open Go Go.RowKit Go.Ev
set_option linter.unusedSimpArgs false
set_option linter.unusedVariables false
def r4_fields_k7 (n : Nat)  : Option Int :=
  some (0)
def r4_fields_l10 (n : Nat) (a0 : List (ByteArray × Vl)) : Nat → Int → Option Int
  | 0, _ => none
  | m + 1, x3_l10 =>
    if decide (x3_l10 < ((a0.length : Int))) then
      (idx a0 x3_l10).bind fun x16 =>
      if x16.1.size ≤ maxLen then
        if !(nameB x16.1) then
          some (12)
        else
          if decide (0 < x3_l10) then
            if I64 (x3_l10 - 1) then
              (idx a0 (x3_l10 - 1)).bind fun x23 =>
              if sEq x16.1 x23.1 then
                some (7)
              else
                if I64 (x3_l10 - 1) then
                  if sLt x16.1 x23.1 then
                    some (24)
                  else
                    if I64 (x3_l10 + 1) then
                      (r4_fields_l10 n a0 m) (x3_l10 + 1)
                    else none
                else none
            else none
          else
            if I64 (x3_l10 + 1) then
              (r4_fields_l10 n a0 m) (x3_l10 + 1)
            else none
      else none
    else
      r4_fields_k7 n 
def r4_fields_F (n : Nat) (a0 : List (ByteArray × Vl)) : Option Int :=
  if decide (64 < ((a0.length : Int))) then
    some (9)
  else
    r4_fields_l10 n a0 n 0
set_option maxRecDepth 100000 in
set_option maxHeartbeats 4000000 in
theorem r4_fields_at (w0 : World) (n : Nat) (B : List (List AV)) (Rw : List RowA) (L : List LoopA) (a0 : List (ByteArray × Vl)) (r : Int) (h : r4_fields_F n a0 = some r) :
    ACalls Tryz.prog w0 159 [.list (a0.map avF) .none] ⟨B, Rw, L⟩ fun x st => x = .val (.int .i64 r) ∧ st = ⟨B, Rw, L⟩ := by
  rw [r4_fields_F] at h
  refine ACalls.finP (acalls_of (rs := [.tmp 2]) Tryz.func159 rfl rfl Tryz.ntmps159 (enters_some Tryz.func159 rfl (by decide)) (Nat.le_of_ble_eq_true rfl) ?_)
  intro M0 W0 hN hNR hNL hcalm hu
  dsimp only at hN hNR hNL hcalm hu
  simp only [argsE]
  have hO := Owns.none Rw
  have hs := fact0
  refine rg [0] hs ?_
  apply awp_seq; intro K2 hK2
  refine rg [0, 6] hs ?_
  refine cnd h hs (fun hs h => ?_) (fun hs h => ?_)
  · skip
    have hb4 := hs.1
    refine rg [2] hs ?_
    exact rt h hs hcalm hO
  have hb4 := hs.1
  refine sk [0] hs hK2 ?_
  clear hK2
  refine awp_mid (fun e st => ∃ (X_k7 : List (List AV)) (rows_k7 : List RowA), e = [] ∧ st = ⟨B ++ ([] ++ X_k7), rows_k7, L⟩ ∧ Owns Rw rows_k7 [] ∧ r4_fields_k7 n  = some r) ?_ ?_
  · intro K8 hK8
    refine rg [0, 3] hs ?_
    apply awp_block
    refine awp_loop (fun m e st => ∃ (x3_l10 : Int) (X_l10 : List (List AV)) (rows_l10 : List RowA), e = [(0, true, .list (a0.map avF) .none), (3, true, .val (.int .i64 x3_l10))] ∧ st = ⟨B ++ ([] ++ X_l10), rows_l10, L⟩ ∧ Owns Rw rows_l10 [] ∧ r4_fields_l10 n a0 m x3_l10 = some r) n ⟨0, ([]), Rw, ef hs, ef hs, hO, h⟩ ?_
    rintro m_l10 e st ⟨x3_l10, X_l10, rows_l10, rfl, rfl, hO, h⟩ KR_l10 hKR_l10
    cases m_l10 with
    | zero => cases h
    | succ m_l10 =>
    rw [r4_fields_l10] at h
    refine td hN hNR hNL hcalm hO ?_
    apply awp_seq; intro K11 hK11
    refine rg [0, 3, 10] hs ?_
    refine cnd h hs (fun hs h => ?_) (fun hs h => ?_)
    rotate_left
    · skip
      have hb13 := hs.1
      refine sx [] hs hK8 ?_
      exact ⟨([]), rows_l10, ef hs, ef hs, hO, h⟩
    have hb13 := hs.1
    refine sk [0, 3] hs hK11 ?_
    clear hK11
    apply awp_seq; intro K14 hK14
    apply awp_block
    apply awp_block
    obtain ⟨x16, hx16, h⟩ := bind_some h
    obtain ⟨hx16a, hx16b, hx16c⟩ := idx_some hx16
    have hx16d := getD_map (f := avF) hx16c
    obtain ⟨hg17, h⟩ := guard_some h
    have hs := And.intro hx16d hs
    refine rc 2 [0, 3, 13] hs ?_; intro K15 hK15
    refine callK_p _ (rName_at w0 _ _ _ x16.1 hg17) (hv hs) ?_
    refine ne hs hK15 ?_
    clear hK15
    refine cnd h hs (fun hs h => ?_) (fun hs h => ?_)
    · skip
      have hb18 := hs.1
      refine rg [2] hs ?_
      exact rt h hs hcalm hO
    have hb18 := hs.1
    apply awp_seq; intro K20 hK20
    rcases Bool.eq_false_or_eq_true (decide (0 < x3_l10)) with hf21 | hf21
    · replace h := ite_tt h hf21
      obtain ⟨hg22, h⟩ := guard_some h
      obtain ⟨x23, hx23, h⟩ := bind_some h
      obtain ⟨hx23a, hx23b, hx23c⟩ := idx_some hx23
      have hx23d := getD_map (f := avF) hx23c
      apply awp_draw mix 17 1 1 [0, 3, 21] (by kernel_rfl)
      rw [evK_succ]; simp +decide only [go_sem, Nat.reduceAdd, hb4, hb13, hx16d, hb18, hf21, hx23d]
      (repeat' with_reducible apply And.intro) <;> first | (rw [evK_succ]; simp +decide only [go_sem, Nat.reduceAdd, hb4, hb13, hx16d, hb18, hf21, hx23d]) | exact cl
      (repeat' apply And.intro) <;> first | refine hK20 _ _ ?_ | exact cl
      clear hK20
      have hs := And.intro hf21 hs
      have hs := And.intro hx23d hs
      refine cnd h hs (fun hs h => ?_) (fun hs h => ?_)
      · skip
        have hb24 := hs.1
        refine rg [2] hs ?_
        exact rt h hs hcalm hO
      have hb24 := hs.1
      obtain ⟨hg27, h⟩ := guard_some h
      refine dg 17 1 1 [0, 3, 38] hs mix ?_
      refine cnd h hs (fun hs h => ?_) (fun hs h => ?_)
      · skip
        have hb28 := hs.1
        refine rg [2] hs ?_
        exact rt h hs hcalm hO
      have hb28 := hs.1
      refine sk [0, 3] hs hK14 ?_
      clear hK14
      obtain ⟨hg30, h⟩ := guard_some h
      apply awp_region 1 [0, 3]
      rw [evK_succ]; simp +decide only [go_sem, Nat.reduceAdd, hb4, hb13, hx16d, hb18, hf21, hx23d, hb24, hb28]
      (repeat' apply And.intro) <;> first | refine hKR_l10 m_l10 _ _ (Nat.lt_succ_self m_l10) ⟨(x3_l10 + 1), ([]), rows_l10, ef hs, ef hs, hO, h⟩ | exact cl
    · replace h := ite_ff h hf21
      apply awp_draw mix 17 1 1 [0, 3, 21] (by kernel_rfl)
      rw [evK_succ]; simp +decide only [go_sem, Nat.reduceAdd, hb4, hb13, hx16d, hb18, hf21]
      (repeat' with_reducible apply And.intro) <;> first | (rw [evK_succ]; simp +decide only [go_sem, Nat.reduceAdd, hb4, hb13, hx16d, hb18, hf21]) | exact cl
      (repeat' apply And.intro) <;> first | refine hK20 _ _ ?_ | exact cl
      clear hK20
      have hs := And.intro hf21 hs
      refine awp_cond false ev (ef hs) (fun hb31 => by cases hb31) (fun hb31 => ?_)
      refine dg 17 1 1 [0, 3, 38] hs mix ?_
      refine awp_cond false ev (ef hs) (fun hb33 => by cases hb33) (fun hb33 => ?_)
      refine sk [0, 3] hs hK14 ?_
      clear hK14
      obtain ⟨hg34, h⟩ := guard_some h
      apply awp_region 1 [0, 3]
      rw [evK_succ]; simp +decide only [go_sem, Nat.reduceAdd, hb4, hb13, hx16d, hb18, hf21]
      (repeat' apply And.intro) <;> first | refine hKR_l10 m_l10 _ _ (Nat.lt_succ_self m_l10) ⟨(x3_l10 + 1), ([]), rows_l10, ef hs, ef hs, hO, h⟩ | exact cl
  · clear h; rintro e st ⟨X_k7, rows_k7, rfl, rfl, hO, h⟩
    rw [r4_fields_k7] at h
    refine td hN hNR hNL hcalm hO ?_
    refine rg [2] hs ?_
    exact rt h hs hcalm hO
end Go.Proofs.YtggimoedcamonaaGreatDoor
namespace Go.Proofs.YtggimoedcamonaaGreatDoor
open Go Go.RowKit Go.Ev
set_option linter.unusedSimpArgs false
set_option linter.unusedVariables false
def r4_Null_F (a0 : Vl) : Bool :=
  (((((decide (a0.kind = 0)) && (decide (a0.int = 0))) && (decide (a0.scale = 0))) && (sEq a0.text ((⟨#[]⟩ : ByteArray)))) && (decide (((a0.list.length : Int)) = 0))) && (decide (((a0.fields.length : Int)) = 0))
set_option maxRecDepth 100000 in
set_option maxHeartbeats 4000000 in
theorem r4_Null_at (w0 : World) (B : List (List AV)) (Rw : List RowA) (L : List LoopA) (a0 : Vl) (r : Bool) (h : r4_Null_F a0 = r) :
    ACalls Tryz.prog w0 22 [.agg (a0.cs)] ⟨B, Rw, L⟩ fun x st => x = .val (.bool r) ∧ st = ⟨B, Rw, L⟩ := by
  rw [r4_Null_F] at h
  refine ACalls.finP (acalls_of (rs := [.tmp 2]) Tryz.func22 rfl rfl Tryz.ntmps22 (enters_some Tryz.func22 rfl (by decide)) (Nat.le_of_ble_eq_true rfl) ?_)
  intro M0 W0 hN hNR hNL hcalm hu
  dsimp only at hN hNR hNL hcalm hu
  simp only [argsE]
  have hO := Owns.none Rw
  have hs := fact0
  refine rg [1] hs ?_
  refine rg [2] hs ?_
  apply awp_ret; simp +decide only [go_sem, Nat.reduceAdd]
  subst h
  first | refine fin_q0 hcalm rfl hO.pre ev ⟨?_, rfl⟩ | refine fin_q hcalm rfl hO.pre ev ⟨?_, rfl⟩
  first | rfl | (simp +decide only [go_sem, Nat.reduceAdd]; done) | (simp +decide only [go_sem, Nat.reduceAdd, Vl.cs, Ty.cs]; done)
theorem r4_Null_at' (w0 : World) (B : List (List AV)) (Rw : List RowA) (L : List LoopA) (a0 : Vl) :
    ACalls Tryz.prog w0 22 [.agg (a0.cs)] ⟨B, Rw, L⟩ fun x st => x = .val (.bool (r4_Null_F a0)) ∧ st = ⟨B, Rw, L⟩ := r4_Null_at w0 B Rw L a0 _ rfl
end Go.Proofs.YtggimoedcamonaaGreatDoor
namespace Go.Proofs.YtggimoedcamonaaGreatDoor
open Go Go.RowKit Go.Ev
set_option linter.unusedSimpArgs false
set_option linter.unusedVariables false
def r4_outside_F (a0 : Int) (a1 : Int) (a2 : Int) : Bool :=
  (decide (a0 < a1)) || (decide (a2 < a0))
set_option maxRecDepth 100000 in
set_option maxHeartbeats 4000000 in
theorem r4_outside_at (w0 : World) (B : List (List AV)) (Rw : List RowA) (L : List LoopA) (a0 : Int) (a1 : Int) (a2 : Int) (r : Bool) (h : r4_outside_F a0 a1 a2 = r) :
    ACalls Tryz.prog w0 158 [.val (.int .i64 a0), .val (.int .i64 a1), .val (.int .i64 a2)] ⟨B, Rw, L⟩ fun x st => x = .val (.bool r) ∧ st = ⟨B, Rw, L⟩ := by
  rw [r4_outside_F] at h
  refine ACalls.finP (acalls_of (rs := [.tmp 6]) Tryz.func158 rfl rfl Tryz.ntmps158 (enters_some Tryz.func158 rfl (by decide)) (Nat.le_of_ble_eq_true rfl) ?_)
  intro M0 W0 hN hNR hNL hcalm hu
  dsimp only at hN hNR hNL hcalm hu
  simp only [argsE]
  have hO := Owns.none Rw
  have hs := fact0
  refine rg [0, 1, 2] hs ?_
  refine rg [6] hs ?_
  apply awp_ret; simp +decide only [go_sem, Nat.reduceAdd]
  subst h
  first | refine fin_q0 hcalm rfl hO.pre ev ⟨?_, rfl⟩ | refine fin_q hcalm rfl hO.pre ev ⟨?_, rfl⟩
  first | rfl | (simp +decide only [go_sem, Nat.reduceAdd]; done) | (simp +decide only [go_sem, Nat.reduceAdd, Vl.cs, Ty.cs]; done)
theorem r4_outside_at' (w0 : World) (B : List (List AV)) (Rw : List RowA) (L : List LoopA) (a0 : Int) (a1 : Int) (a2 : Int) :
    ACalls Tryz.prog w0 158 [.val (.int .i64 a0), .val (.int .i64 a1), .val (.int .i64 a2)] ⟨B, Rw, L⟩ fun x st => x = .val (.bool (r4_outside_F a0 a1 a2)) ∧ st = ⟨B, Rw, L⟩ := r4_outside_at w0 B Rw L a0 a1 a2 _ rfl
end Go.Proofs.YtggimoedcamonaaGreatDoor
namespace Go.Proofs.YtggimoedcamonaaGreatDoor
open Go Go.RowKit Go.Ev
set_option linter.unusedSimpArgs false
set_option linter.unusedVariables false
def r4_unused_F (a0 : Vl) : Bool :=
  (((((!((((decide (1 ≤ a0.kind)) && (decide (a0.kind ≤ 3))) || (decide (a0.kind = 6))) || (decide (a0.kind = 7)))) && (!(decide (a0.int = 0)))) || ((!(decide (a0.kind = 3))) && (!(decide (a0.scale = 0))))) || ((!(((decide (a0.kind = 4)) || (decide (a0.kind = 5))) || (decide (a0.kind = 10)))) && (!(sEq a0.text ((⟨#[]⟩ : ByteArray)))))) || ((!((decide (a0.kind = 8)) || (decide (a0.kind = 10)))) && (decide (0 < ((a0.list.length : Int)))))) || ((!(decide (a0.kind = 9))) && (decide (0 < ((a0.fields.length : Int)))))
set_option maxRecDepth 100000 in
set_option maxHeartbeats 4000000 in
theorem r4_unused_at (w0 : World) (B : List (List AV)) (Rw : List RowA) (L : List LoopA) (a0 : Vl) (r : Bool) (h : r4_unused_F a0 = r) :
    ACalls Tryz.prog w0 157 [.agg (a0.cs)] ⟨B, Rw, L⟩ fun x st => x = .val (.bool r) ∧ st = ⟨B, Rw, L⟩ := by
  rw [r4_unused_F] at h
  refine ACalls.finP (acalls_of (rs := [.tmp 2]) Tryz.func157 rfl rfl Tryz.ntmps157 (enters_some Tryz.func157 rfl (by decide)) (Nat.le_of_ble_eq_true rfl) ?_)
  intro M0 W0 hN hNR hNL hcalm hu
  dsimp only at hN hNR hNL hcalm hu
  simp only [argsE]
  have hO := Owns.none Rw
  have hs := fact0
  refine rg [1] hs ?_
  refine rg [1, 3] hs ?_
  refine rg [1, 3, 4] hs ?_
  refine rg [1, 3, 4, 5] hs ?_
  refine rg [2] hs ?_
  apply awp_ret; simp +decide only [go_sem, Nat.reduceAdd]
  subst h
  first | refine fin_q0 hcalm rfl hO.pre ev ⟨?_, rfl⟩ | refine fin_q hcalm rfl hO.pre ev ⟨?_, rfl⟩
  first | rfl | (simp +decide only [go_sem, Nat.reduceAdd]; done) | (simp +decide only [go_sem, Nat.reduceAdd, Vl.cs, Ty.cs]; done)
theorem r4_unused_at' (w0 : World) (B : List (List AV)) (Rw : List RowA) (L : List LoopA) (a0 : Vl) :
    ACalls Tryz.prog w0 157 [.agg (a0.cs)] ⟨B, Rw, L⟩ fun x st => x = .val (.bool (r4_unused_F a0)) ∧ st = ⟨B, Rw, L⟩ := r4_unused_at w0 B Rw L a0 _ rfl
end Go.Proofs.YtggimoedcamonaaGreatDoor
namespace Go.Proofs.YtggimoedcamonaaGreatDoor
open Go Go.RowKit Go.Ev
set_option linter.unusedSimpArgs false
set_option linter.unusedVariables false
def r4_Own_k13 (n : Nat)  : Option Int :=
  some (0)
def r4_Own_k31 (n : Nat) (a0 : Vl) (x51_k31 : Bool) : Option Int :=
  if x51_k31 then
    if decide (1024 < ((a0.text.size : Int))) then
      some (5)
    else
      if decide (a0.kind = 4) then
        if a0.text.size ≤ maxLen then
          if !(Lib.validD a0.text.data.toList) then
            some (16)
          else
            r4_Own_k13 n 
        else none
      else
        r4_Own_k13 n 
  else
    if decide (a0.kind = 6) then
      if r4_outside_F a0.int ((-719162)) 2932896 then
        some (2)
      else
        r4_Own_k13 n 
    else
      if decide (a0.kind = 7) then
        if r4_outside_F a0.int ((-62135596800000)) 253402300799999 then
          some (2)
        else
          r4_Own_k13 n 
      else
        if decide (a0.kind = 8) then
          if decide (256 < ((a0.list.length : Int))) then
            some (9)
          else
            r4_Own_k13 n 
        else
          if decide (a0.kind = 9) then
            (r4_fields_F n a0.fields).bind fun y64 =>
            some (y64)
          else
            if a0.text.size ≤ maxLen then
              if !(nameB a0.text) then
                some (12)
              else
                if decide (((a0.list.length : Int)) = 0) then
                  some (4)
                else
                  if decide (1 < ((a0.list.length : Int))) then
                    some (3)
                  else
                    r4_Own_k13 n 
            else none
def r4_Own_k22 (n : Nat) (a0 : Vl) (x40_k22 : Bool) : Option Int :=
  if x40_k22 then
    if (r4_outside_F a0.int ((-999999999999999)) 999999999999999) || (r4_outside_F a0.scale 0 12) then
      some (2)
    else
      r4_Own_k13 n 
  else
    if decide (a0.kind = 4) then
      r4_Own_k31 n a0 true
    else
      r4_Own_k31 n a0 (decide (a0.kind = 5))
def r4_Own_F (n : Nat) (a0 : Vl) : Option Int :=
  if r4_Null_F a0 then
    some (19)
  else
    if (decide (a0.kind < 1)) || (decide (10 < a0.kind)) then
      some (11)
    else
      if r4_unused_F a0 then
        some (3)
      else
        if decide (a0.kind = 1) then
          if r4_outside_F a0.int 0 1 then
            some (2)
          else
            r4_Own_k13 n 
        else
          if decide (a0.kind = 2) then
            r4_Own_k22 n a0 true
          else
            r4_Own_k22 n a0 (decide (a0.kind = 3))
set_option maxRecDepth 100000 in
set_option maxHeartbeats 4000000 in
theorem r4_Own_at (w0 : World) (hT : Lib.Utf8Tabs 0 1 w0) (n : Nat) (B : List (List AV)) (Rw : List RowA) (L : List LoopA) (a0 : Vl) (r : Int) (h : r4_Own_F n a0 = some r) :
    ACalls Tryz.prog w0 102 [.agg (a0.cs)] ⟨B, Rw, L⟩ fun x st => x = .val (.int .i64 r) ∧ st = ⟨B, Rw, L⟩ := by
  rw [r4_Own_F] at h
  refine ACalls.finP (acalls_of (rs := [.tmp 2]) Tryz.func102 rfl rfl Tryz.ntmps102 (enters_some Tryz.func102 rfl (by decide)) (Nat.le_of_ble_eq_true rfl) ?_)
  intro M0 W0 hN hNR hNL hcalm hu
  dsimp only at hN hNR hNL hcalm hu
  simp only [argsE]
  have hO := Owns.none Rw
  have hs := fact0
  refine rg [1] hs ?_
  apply awp_seq; intro K2 hK2
  apply awp_block
  refine rc 2 [1, 3] hs ?_; intro K3 hK3
  refine callK_p _ (r4_Null_at' w0 _ _ _ a0) (hv hs) ?_
  refine ne hs hK3 ?_
  clear hK3
  refine cnd h hs (fun hs h => ?_) (fun hs h => ?_)
  · skip
    have hb4 := hs.1
    refine rg [2] hs ?_
    exact rt h hs hcalm hO
  have hb4 := hs.1
  refine rg [1, 6] hs ?_
  refine cnd h hs (fun hs h => ?_) (fun hs h => ?_)
  · skip
    have hb7 := hs.1
    refine rg [2] hs ?_
    exact rt h hs hcalm hO
  have hb7 := hs.1
  refine rc 2 [1, 15] hs ?_; intro K9 hK9
  refine callK_p _ (r4_unused_at' w0 _ _ _ a0) (hv hs) ?_
  refine ne hs hK9 ?_
  clear hK9
  refine cnd h hs (fun hs h => ?_) (fun hs h => ?_)
  · skip
    have hb10 := hs.1
    refine rg [2] hs ?_
    exact rt h hs hcalm hO
  have hb10 := hs.1
  refine sk [1] hs hK2 ?_
  clear hK2
  refine awp_mid (fun e st => ∃ (X_k13 : List (List AV)) (rows_k13 : List RowA), e = [] ∧ st = ⟨B ++ ([a0.cs] ++ X_k13), rows_k13, L⟩ ∧ Owns Rw rows_k13 [] ∧ r4_Own_k13 n  = some r) ?_ ?_
  · intro K14 hK14
    refine rg [1, 19] hs ?_
    apply awp_block
    refine rg [1, 19, 35] hs ?_
    refine cnd h hs (fun hs h => ?_) (fun hs h => ?_)
    · skip
      have hb17 := hs.1
      refine rc 2 [39] hs ?_; intro K18 hK18
      refine callK_p _ (r4_outside_at' w0 _ _ _ a0.int 0 1) (hv hs) ?_
      refine ne hs hK18 ?_
      clear hK18
      refine cnd h hs (fun hs h => ?_) (fun hs h => ?_)
      · skip
        refine rg [2] hs ?_
        exact rt h hs hcalm hO
      refine sk [] hs hK14 ?_
      exact ⟨([]), Rw, ef hs, ef hs, hO, h⟩
    have hb17 := hs.1
    refine awp_mid (fun e st => ∃ (x40_k22 : Bool) (X_k22 : List (List AV)) (rows_k22 : List RowA), e = [(1, true, .box B.length 0), (19, true, .val (.int .i64 a0.kind)), (40, true, .val (.bool x40_k22))] ∧ st = ⟨B ++ ([a0.cs] ++ X_k22), rows_k22, L⟩ ∧ Owns Rw rows_k22 [] ∧ r4_Own_k22 n a0 x40_k22 = some r) ?_ ?_
    · intro K23 hK23
      refine rg [1, 19, 40] hs ?_
      refine cnd h hs (fun hs h => ?_) (fun hs h => ?_)
      · skip
        have hb25 := hs.1
        refine sk [1, 19, 40] hs hK23 ?_
        exact ⟨true, ([]), Rw, ef hs, ef hs, hO, h⟩
      have hb25 := hs.1
      apply awp_region 1 [1, 19, 40]
      rw [evK_succ]; simp +decide only [go_sem, Nat.reduceAdd, hb4, hb7, hb10, hb17, hb25]
      (repeat' apply And.intro) <;> first | refine hK23 _ _ ⟨(decide (a0.kind = 3)), ([]), Rw, ef hs, ef hs, hO, h⟩ | exact cl
    · clear h; rintro e st ⟨x40_k22, X_k22, rows_k22, rfl, rfl, hO, h⟩
      rw [r4_Own_k22] at h
      refine td hN hNR hNL hcalm hO ?_
      refine cnd h hs (fun hs h => ?_) (fun hs h => ?_)
      · skip
        have hb26 := hs.1
        refine rc 3 [50] hs ?_; intro K27 hK27
        refine callK_p _ (r4_outside_at' w0 _ _ _ a0.int ((-999999999999999)) 999999999999999) (hv hs) ?_
        refine nc hs ?_
        refine callK_p_if _ (fun _ => r4_outside_at' w0 _ _ _ a0.scale 0 12) (hv hs) ?_
        refine ne hs hK27 ?_
        clear hK27
        refine cnd h hs (fun hs h => ?_) (fun hs h => ?_)
        · skip
          refine rg [2] hs ?_
          exact rt h hs hcalm hO
        refine sk [] hs hK14 ?_
        exact ⟨([]), rows_k22, ef hs, ef hs, hO, h⟩
      have hb26 := hs.1
      refine awp_mid (fun e st => ∃ (x51_k31 : Bool) (X_k31 : List (List AV)) (rows_k31 : List RowA), e = [(1, true, .box B.length 0), (19, true, .val (.int .i64 a0.kind)), (51, true, .val (.bool x51_k31))] ∧ st = ⟨B ++ ([a0.cs] ++ X_k31), rows_k31, L⟩ ∧ Owns Rw rows_k31 [] ∧ r4_Own_k31 n a0 x51_k31 = some r) ?_ ?_
      · intro K32 hK32
        refine rg [1, 19, 51] hs ?_
        refine cnd h hs (fun hs h => ?_) (fun hs h => ?_)
        · skip
          have hb34 := hs.1
          refine sk [1, 19, 51] hs hK32 ?_
          exact ⟨true, ([]), rows_k22, ef hs, ef hs, hO, h⟩
        have hb34 := hs.1
        apply awp_region 1 [1, 19, 51]
        rw [evK_succ]; simp +decide only [go_sem, Nat.reduceAdd, hb4, hb7, hb10, hb17, hb26, hb34]
        (repeat' apply And.intro) <;> first | refine hK32 _ _ ⟨(decide (a0.kind = 5)), ([]), rows_k22, ef hs, ef hs, hO, h⟩ | exact cl
      · clear h; rintro e st ⟨x51_k31, X_k31, rows_k31, rfl, rfl, hO, h⟩
        rw [r4_Own_k31] at h
        refine td hN hNR hNL hcalm hO ?_
        refine cnd h hs (fun hs h => ?_) (fun hs h => ?_)
        · skip
          have hb35 := hs.1
          apply awp_seq; intro K36 hK36
          refine rg [1, 57] hs ?_
          refine cnd h hs (fun hs h => ?_) (fun hs h => ?_)
          · skip
            have hb38 := hs.1
            refine rg [2] hs ?_
            exact rt h hs hcalm hO
          have hb38 := hs.1
          refine sk [1] hs hK36 ?_
          clear hK36
          apply awp_seq; intro K40 hK40
          rcases Bool.eq_false_or_eq_true (decide (a0.kind = 4)) with hf41 | hf41
          · replace h := ite_tt h hf41
            obtain ⟨hg42, h⟩ := guard_some h
            apply awp_region 2 [66]
            rw [evK_succ]; simp +decide only [go_sem, Nat.reduceAdd, hb4, hb7, hb10, hb17, hb26, hb35, hb38, hf41]
            have hs := And.intro hf41 hs
            (repeat' apply And.intro) <;> first | refine callK_p _ (sValid_at2 w0 _ _ _ hT a0.text hg42) (hv hs) ?_ | exact cl
            rw [evK_succ]; simp +decide only [go_sem, Nat.reduceAdd, hb4, hb7, hb10, hb17, hb26, hb35, hb38, hf41]
            (repeat' apply And.intro) <;> first | refine hK40 _ _ ?_ | exact cl
            clear hK40
            refine cnd h hs (fun hs h => ?_) (fun hs h => ?_)
            · skip
              refine rg [2] hs ?_
              exact rt h hs hcalm hO
            refine sk [] hs hK14 ?_
            exact ⟨([]), rows_k31, ef hs, ef hs, hO, h⟩
          · replace h := ite_ff h hf41
            apply awp_region 2 [66]
            rw [evK_succ]; simp +decide only [go_sem, Nat.reduceAdd, hb4, hb7, hb10, hb17, hb26, hb35, hb38, hf41]
            (repeat' apply And.intro) <;> first | refine callK_skip ?_ | exact cl
            rw [evK_succ]; simp +decide only [go_sem, Nat.reduceAdd, hb4, hb7, hb10, hb17, hb26, hb35, hb38, hf41]
            (repeat' apply And.intro) <;> first | refine hK40 _ _ ?_ | exact cl
            clear hK40
            have hs := And.intro hf41 hs
            refine awp_cond false ev (ef hs) (fun hb45 => by cases hb45) (fun hb45 => ?_)
            refine sk [] hs hK14 ?_
            exact ⟨([]), rows_k31, ef hs, ef hs, hO, h⟩
        have hb35 := hs.1
        refine rg [1, 19, 67] hs ?_
        refine cnd h hs (fun hs h => ?_) (fun hs h => ?_)
        · skip
          refine rc 2 [71] hs ?_; intro K48 hK48
          refine callK_p _ (r4_outside_at' w0 _ _ _ a0.int ((-719162)) 2932896) (hv hs) ?_
          refine ne hs hK48 ?_
          clear hK48
          refine cnd h hs (fun hs h => ?_) (fun hs h => ?_)
          · skip
            refine rg [2] hs ?_
            exact rt h hs hcalm hO
          refine sk [] hs hK14 ?_
          exact ⟨([]), rows_k31, ef hs, ef hs, hO, h⟩
        refine rg [1, 19, 72] hs ?_
        refine cnd h hs (fun hs h => ?_) (fun hs h => ?_)
        · skip
          refine rc 2 [76] hs ?_; intro K53 hK53
          refine callK_p _ (r4_outside_at' w0 _ _ _ a0.int ((-62135596800000)) 253402300799999) (hv hs) ?_
          refine ne hs hK53 ?_
          clear hK53
          refine cnd h hs (fun hs h => ?_) (fun hs h => ?_)
          · skip
            refine rg [2] hs ?_
            exact rt h hs hcalm hO
          refine sk [] hs hK14 ?_
          exact ⟨([]), rows_k31, ef hs, ef hs, hO, h⟩
        refine rg [1, 19, 77] hs ?_
        refine cnd h hs (fun hs h => ?_) (fun hs h => ?_)
        · skip
          refine rg [82] hs ?_
          refine cnd h hs (fun hs h => ?_) (fun hs h => ?_)
          · skip
            refine rg [2] hs ?_
            exact rt h hs hcalm hO
          refine sk [] hs hK14 ?_
          exact ⟨([]), rows_k31, ef hs, ef hs, hO, h⟩
        refine rg [1, 83] hs ?_
        refine cnd h hs (fun hs h => ?_) (fun hs h => ?_)
        · skip
          obtain ⟨y64, hy64, h⟩ := bind_some h
          refine rc 2 [2] hs ?_; intro K63 hK63
          refine callK_p _ (r4_fields_at w0 n _ _ _ a0.fields _ hy64) (hv hs) ?_
          refine ne hs hK63 ?_
          clear hK63
          exact rt h hs hcalm hO
        apply awp_block
        obtain ⟨hg66, h⟩ := guard_some h
        refine rc 2 [1, 20] hs ?_; intro K65 hK65
        refine callK_p _ (rName_at w0 _ _ _ a0.text hg66) (hv hs) ?_
        refine ne hs hK65 ?_
        clear hK65
        refine cnd h hs (fun hs h => ?_) (fun hs h => ?_)
        · skip
          refine rg [2] hs ?_
          exact rt h hs hcalm hO
        refine rg [1, 25] hs ?_
        refine cnd h hs (fun hs h => ?_) (fun hs h => ?_)
        · skip
          refine rg [2] hs ?_
          exact rt h hs hcalm hO
        refine rg [30] hs ?_
        refine cnd h hs (fun hs h => ?_) (fun hs h => ?_)
        · skip
          refine rg [2] hs ?_
          exact rt h hs hcalm hO
        refine sk [] hs hK14 ?_
        exact ⟨([]), rows_k31, ef hs, ef hs, hO, h⟩
  · clear h; rintro e st ⟨X_k13, rows_k13, rfl, rfl, hO, h⟩
    rw [r4_Own_k13] at h
    refine td hN hNR hNL hcalm hO ?_
    refine rg [2] hs ?_
    exact rt h hs hcalm hO
end Go.Proofs.YtggimoedcamonaaGreatDoor
namespace Go.Proofs.YtggimoedcamonaaGreatDoor
open Go Go.RowKit Go.Ev
set_option linter.unusedSimpArgs false
set_option linter.unusedVariables false
def r4_Parts_k4 (n : Nat)  (x3_k4 : List Vl) : Option ((List Vl)) :=
  some (x3_k4)
def r4_Parts_l21 (n : Nat) (a0 : Vl) : Nat → (List Vl) → Int → Option ((List Vl))
  | 0, _, _ => none
  | m + 1, x3_l21, x4_l21 =>
    if decide (x4_l21 < ((a0.fields.length : Int))) then
      (idx a0.fields x4_l21).bind fun x26 =>
      if (x3_l21.length + 1) * 88 ≤ 140737488355328 ∧ x3_l21.length + 1 ≤ 4611686018427387904 then
        if I64 (x4_l21 + 1) then
          (r4_Parts_l21 n a0 m) (x3_l21 ++ ([x26.2])) (x4_l21 + 1)
        else none
      else none
    else
      r4_Parts_k4 n x3_l21
def r4_Parts_k8 (n : Nat) (a0 : Vl) (x7_k8 : Bool) : Option ((List Vl)) :=
  if x7_k8 then
    if (0 + a0.list.length) * 88 ≤ 140737488355328 ∧ 0 + a0.list.length ≤ 4611686018427387904 then
      r4_Parts_k4 n a0.list
    else none
  else
    if decide (a0.kind = 9) then
      r4_Parts_l21 n a0 n ([]) 0
    else
      r4_Parts_k4 n ([])
def r4_Parts_F (n : Nat) (a0 : Vl) : Option ((List Vl)) :=
  if decide (a0.kind = 8) then
    r4_Parts_k8 n a0 true
  else
    r4_Parts_k8 n a0 (decide (a0.kind = 10))
set_option maxRecDepth 100000 in
set_option maxHeartbeats 4000000 in
theorem r4_Parts_at (w0 : World) (n : Nat) (B : List (List AV)) (Rw : List RowA) (L : List LoopA) (a0 : Vl) (r : (List Vl)) (h : r4_Parts_F n a0 = some r) :
    ACalls Tryz.prog w0 103 [.agg (a0.cs)] ⟨B, Rw, L⟩ fun x st => x = .list (r.map avV) .none ∧ st = ⟨B, Rw, L⟩ := by
  rw [r4_Parts_F] at h
  refine ACalls.finP (acalls_of (rs := [.tmp 2]) Tryz.func103 rfl rfl Tryz.ntmps103 (enters_some Tryz.func103 rfl (by decide)) (Nat.le_of_ble_eq_true rfl) ?_)
  intro M0 W0 hN hNR hNL hcalm hu
  dsimp only at hN hNR hNL hcalm hu
  simp only [argsE]
  have hO := Owns.none Rw
  have hs := fact0
  refine rg [1] hs ?_
  refine rg [1, 3] hs ?_
  refine awp_mid (fun e st => ∃ (x3_k4 : List Vl) (ox3_k4 : Ev.Own) (X_k4 : List (List AV)) (rows_k4 : List RowA), e = [(3, true, .list (x3_k4.map avV) ox3_k4)] ∧ st = ⟨B ++ ([a0.cs] ++ X_k4), rows_k4, L⟩ ∧ Owns Rw rows_k4 [(6, x3_k4.length, ox3_k4)] ∧ r4_Parts_k4 n x3_k4 = some r) ?_ ?_
  · intro K5 hK5
    refine rg [1, 3, 6] hs ?_
    apply awp_block
    refine awp_mid (fun e st => ∃ (x7_k8 : Bool) (X_k8 : List (List AV)) (rows_k8 : List RowA), e = [(1, true, .box B.length 0), (3, true, .list ([]) .full), (6, true, .val (.int .i64 a0.kind)), (7, true, .val (.bool x7_k8))] ∧ st = ⟨B ++ ([a0.cs] ++ X_k8), rows_k8, L⟩ ∧ Owns Rw rows_k8 [] ∧ r4_Parts_k8 n a0 x7_k8 = some r) ?_ ?_
    · intro K9 hK9
      refine rg [1, 3, 6, 7] hs ?_
      refine cnd h hs (fun hs h => ?_) (fun hs h => ?_)
      · skip
        have hb11 := hs.1
        refine sk [1, 3, 6, 7] hs hK9 ?_
        exact ⟨true, ([]), Rw, ef hs, ef hs, hO, h⟩
      have hb11 := hs.1
      apply awp_region 1 [1, 3, 6, 7]
      rw [evK_succ]; simp +decide only [go_sem, Nat.reduceAdd, hb11]
      (repeat' apply And.intro) <;> first | refine hK9 _ _ ⟨(decide (a0.kind = 10)), ([]), Rw, ef hs, ef hs, hO, h⟩ | exact cl
    · clear h; rintro e st ⟨x7_k8, X_k8, rows_k8, rfl, rfl, hO, h⟩
      rw [r4_Parts_k8] at h
      refine td hN hNR hNL hcalm hO ?_
      refine cnd h hs (fun hs h => ?_) (fun hs h => ?_)
      · skip
        have hb12 := hs.1
        obtain ⟨hg13, h⟩ := guard_some h
        have hO := hO.full 6 0
        obtain ⟨o15, rows16, hO, hap17⟩ := hO.append (P := Tryz.prog) elT_31 (by rw [zeroT_34]; rfl) (by decide) a0.list.length hg13.1 hg13.2
        simp only [Nat.zero_add] at hO
        replace hap17 := fun (ys : List AV) B L o2 => hap17 ([]) ys B L o2 (by first | rfl | simp only [List.length_map, List.length_nil, List.length_append, List.length_cons, Nat.zero_add])
        replace hap17 := fun B L o2 => hap17 (a0.list.map avV) B L o2 (by first | rfl | simp only [List.length_map, List.length_nil, List.length_cons]) ev
        try simp only [List.mem_singleton, List.mem_cons, List.not_mem_nil, or_false, forall_eq_or_imp, forall_eq, List.map_append, List.map_cons, List.map_nil, avI_eq, avB_eq, avS_eq, avV_eq, avT_eq, avF_eq, avTF_eq, avPt_eq, avL_eq, avSch_eq, avItm_eq, avLm_eq] at hap17
        apply awp_region 1 [3]
        rw [evK_succ]; simp +decide only [go_sem, Nat.reduceAdd, hb12, hap17]
        have hs := And.intro hap17 hs
        (repeat' apply And.intro) <;> first | refine hK5 _ _ ⟨a0.list, o15, ([]), rows16, ef hs, ef hs, Owns.of_eq (hO) (by first | rfl | simp only [List.length_append, List.length_cons, List.length_nil, List.length_map, Nat.zero_add, Nat.add_zero]), h⟩ | exact cl
      have hb12 := hs.1
      refine rg [1, 3, 14] hs ?_
      refine cnd h hs (fun hs h => ?_) (fun hs h => ?_)
      · skip
        have hb19 := hs.1
        refine rg [1, 3, 4] hs ?_
        apply awp_block
        refine awp_loop (fun m e st => ∃ (x3_l21 : List Vl) (x4_l21 : Int) (ox3_l21 : Ev.Own) (X_l21 : List (List AV)) (rows_l21 : List RowA), e = [(1, true, .box B.length 0), (3, true, .list (x3_l21.map avV) ox3_l21), (4, true, .val (.int .i64 x4_l21))] ∧ st = ⟨B ++ ([a0.cs] ++ X_l21), rows_l21, L⟩ ∧ Owns Rw rows_l21 [(6, x3_l21.length, ox3_l21)] ∧ r4_Parts_l21 n a0 m x3_l21 x4_l21 = some r) n ⟨([]), 0, .full, ([]), rows_k8, ef hs, ef hs, Owns.of_eq ((hO).full 6 0) (by first | rfl | simp only [List.length_append, List.length_cons, List.length_nil, List.length_map, Nat.zero_add, Nat.add_zero]), h⟩ ?_
        rintro m_l21 e st ⟨x3_l21, x4_l21, ox3_l21, X_l21, rows_l21, rfl, rfl, hO, h⟩ KR_l21 hKR_l21
        cases m_l21 with
        | zero => cases h
        | succ m_l21 =>
        rw [r4_Parts_l21] at h
        have hU := hO.unders
        simp only [List.mem_cons, List.not_mem_nil, or_false, forall_eq_or_imp, forall_eq] at hU
        refine td hN hNR hNL hcalm hO ?_
        apply awp_seq; intro K22 hK22
        refine rg [1, 3, 4, 20] hs ?_
        refine cnd h hs (fun hs h => ?_) (fun hs h => ?_)
        rotate_left
        · skip
          have hb24 := hs.1
          refine sx [3] hs hK5 ?_
          exact ⟨x3_l21, ox3_l21, ([]), rows_l21, ef hs, ef hs, Owns.of_eq (hO) (by first | rfl | simp only [List.length_append, List.length_cons, List.length_nil, List.length_map, Nat.zero_add, Nat.add_zero]), h⟩
        have hb24 := hs.1
        refine sk [1, 3, 4] hs hK22 ?_
        clear hK22
        apply awp_seq; intro K25 hK25
        apply awp_block
        obtain ⟨x26, hx26, h⟩ := bind_some h
        obtain ⟨hx26a, hx26b, hx26c⟩ := idx_some hx26
        have hx26d := getD_map (f := avF) hx26c
        obtain ⟨hg27, h⟩ := guard_some h
        obtain ⟨o28, rows29, hO, hap30⟩ := hO.append (P := Tryz.prog) elT_31 (by rw [zeroT_34]; rfl) (by decide) 1 hg27.1 hg27.2
        replace hap30 := fun (ys : List AV) B L o2 => hap30 (x3_l21.map avV) ys B L o2 (by first | rfl | simp only [List.length_map, List.length_nil, List.length_append, List.length_cons, Nat.zero_add])
        replace hap30 := fun (y : AV) B L o2 => hap30 [y] B L o2 (by first | rfl | simp only [List.length_map, List.length_nil, List.length_cons]) ev
        try simp only [List.mem_singleton, List.mem_cons, List.not_mem_nil, or_false, forall_eq_or_imp, forall_eq, List.map_append, List.map_cons, List.map_nil, avI_eq, avB_eq, avS_eq, avV_eq, avT_eq, avF_eq, avTF_eq, avPt_eq, avL_eq, avSch_eq, avItm_eq, avLm_eq] at hap30
        apply awp_region 1 [1, 3, 4]
        rw [evK_succ]; simp +decide only [go_sem, Nat.reduceAdd, hb12, hb19, hb24, hx26d, hap30]
        (repeat' apply And.intro) <;> first | refine hK25 _ _ ?_ | exact cl
        clear hK25
        obtain ⟨hg31, h⟩ := guard_some h
        apply awp_region 1 [1, 3, 4]
        rw [evK_succ]; simp +decide only [go_sem, Nat.reduceAdd, hb12, hb19, hb24, hx26d, hap30]
        have hs := And.intro hx26d hs
        have hs := And.intro hap30 hs
        (repeat' apply And.intro) <;> first | refine hKR_l21 m_l21 _ _ (Nat.lt_succ_self m_l21) ⟨(x3_l21 ++ ([x26.2])), (x4_l21 + 1), o28, ([]), rows29, ef hs, ef hs, Owns.of_eq (hO) (by first | rfl | simp only [List.length_append, List.length_cons, List.length_nil, List.length_map, Nat.zero_add, Nat.add_zero]), h⟩ | exact cl
      have hb19 := hs.1
      refine sk [3] hs hK5 ?_
      exact ⟨([]), .full, ([]), rows_k8, ef hs, ef hs, Owns.of_eq ((hO).full 6 0) (by first | rfl | simp only [List.length_append, List.length_cons, List.length_nil, List.length_map, Nat.zero_add, Nat.add_zero]), h⟩
  · clear h; rintro e st ⟨x3_k4, ox3_k4, X_k4, rows_k4, rfl, rfl, hO, h⟩
    rw [r4_Parts_k4] at h
    have hU := hO.unders
    simp only [List.mem_cons, List.not_mem_nil, or_false, forall_eq_or_imp, forall_eq] at hU
    refine td hN hNR hNL hcalm hO ?_
    refine rg [2] hs ?_
    exact rt h hs hcalm hO
end Go.Proofs.YtggimoedcamonaaGreatDoor
namespace Go.Proofs.YtggimoedcamonaaGreatDoor
open Go Go.RowKit Go.Ev
set_option linter.unusedSimpArgs false
set_option linter.unusedVariables false
@[go_sem] theorem vl_a6 (v : Vl) (x d : AV) : (v.cs ++ [x]).getD 6 d = x := by cases v; rfl
@[go_sem] theorem splice_vl0 (v : Vl) (a b c d e f g : AV) : splice [a, b, c, d, e, f, g] 0 v.cs = v.cs ++ [g] := by
  cases v; rfl
@[go_sem] theorem splice_vl6 (v : Vl) (g x : AV) : splice (v.cs ++ [g]) 6 [x] = v.cs ++ [x] := by
  cases v; rfl
theorem avItm_one (x : Itm) : (avItm x).cells.length = 7 ∧ notTup (avItm x) = true := by simp +decide only [go_sem, and_self]
theorem avItm_pubOne (x : Itm) : (avItm x).pub = avItm x := by simp +decide only [go_sem]
theorem avItm_underOne (x : Itm) : ∀ c ∈ (avItm x).cells, ∀ a b d, Under a b d c := by
  intro c hc a b d
  simp only [avItm, AV.cells, List.mem_append, List.mem_singleton] at hc
  rcases hc with hc | rfl
  · exact x.v.under a b d c hc
  · exact .val _
def r4_Check_k13 (n : Nat) (again_l8 : (List Itm) → Int → Option Int) (x4_l8 : Int) (x3_k13 : List Itm) : Option Int :=
  if I64 (x4_l8 + 1) then
    again_l8 x3_k13 (x4_l8 + 1)
  else none
def r4_Check_k5 (n : Nat)  : Option Int :=
  some (0)
def r4_Check_l38 (n : Nat) (again_l8 : (List Itm) → Int → Option Int) (x4_l8 : Int) (x17 : Itm) (y35 : (List Vl)) : Nat → (List Itm) → Int → Option Int
  | 0, _, _ => none
  | m + 1, x3_l38, x8_l38 =>
    if decide (0 ≤ x8_l38) then
      (idx y35 x8_l38).bind fun x43 =>
      if I64 (x17.level + 1) then
        if (x3_l38.length + 1) * 96 ≤ 140737488355328 ∧ x3_l38.length + 1 ≤ 4611686018427387904 then
          if I64 (x8_l38 - 1) then
            (r4_Check_l38 n again_l8 x4_l8 x17 y35 m) (x3_l38 ++ ([Itm.mk x43 (x17.level + 1)])) (x8_l38 - 1)
          else none
        else none
      else none
    else
      r4_Check_k13 n again_l8 x4_l8 x3_l38
def r4_Check_l8 (n : Nat)  : Nat → (List Itm) → Int → Option Int
  | 0, _, _ => none
  | m + 1, x3_l8, x4_l8 =>
    if decide (0 < ((x3_l8.length : Int))) then
      if I64 (((x3_l8.length : Int)) - 1) then
        (idx x3_l8 (((x3_l8.length : Int)) - 1)).bind fun x17 =>
        if I64 (((x3_l8.length : Int)) - 1) then
          if 0 ≤ ((x3_l8.length : Int)) - 1 ∧ ((x3_l8.length : Int)) - 1 ≤ (x3_l8.length : Int) then
            if decide (4096 ≤ x4_l8) then
              some (9)
            else
              if decide (8 < x17.level) then
                some (23)
              else
                (r4_Own_F n x17.v).bind fun y30 =>
                if !(decide (y30 = 0)) then
                  some (y30)
                else
                  (r4_Parts_F n x17.v).bind fun y35 =>
                  if I64 (((y35.length : Int)) - 1) then
                    r4_Check_l38 n (r4_Check_l8 n m) x4_l8 x17 y35 n (x3_l8.take (((x3_l8.length : Int)) - 1).toNat) (((y35.length : Int)) - 1)
                  else none
          else none
        else none
      else none
    else
      r4_Check_k5 n 
def r4_Check_F (n : Nat) (a0 : Vl) : Option Int :=
  r4_Check_l8 n n ([Itm.mk a0 1]) 0
set_option maxRecDepth 100000 in
set_option maxHeartbeats 4000000 in
theorem r4_Check_at (w0 : World) (hT : Lib.Utf8Tabs 0 1 w0) (n : Nat) (B : List (List AV)) (Rw : List RowA) (L : List LoopA) (a0 : Vl) (r : Int) (h : r4_Check_F n a0 = some r) :
    ACalls Tryz.prog w0 59 [.agg (a0.cs)] ⟨B, Rw, L⟩ fun x st => x = .val (.int .i64 r) ∧ st = ⟨B, Rw, L⟩ := by
  rw [r4_Check_F] at h
  refine ACalls.finP (acalls_of (rs := [.tmp 2]) Tryz.func59 rfl rfl Tryz.ntmps59 (enters_some Tryz.func59 rfl (by decide)) (Nat.le_of_ble_eq_true rfl) ?_)
  intro M0 W0 hN hNR hNL hcalm hu
  dsimp only at hN hNR hNL hcalm hu
  simp only [argsE]
  have hO := Owns.none Rw
  have hs := fact0
  refine rg [1] hs ?_
  apply awp_seq; intro K2 hK2
  refine awp_mark 128 (by decide) ?_
  apply awp_region 1 [3]
  rw [evK_succ]; simp +decide only [go_sem, Nat.reduceAdd, fillA, fillOk, placeT]
  (repeat' apply And.intro) <;> first | refine hK2 _ _ ?_ | exact cl
  clear hK2
  refine awp_mid (fun e st => ∃ (xs_k5 : List AV) (id_k5 ver_k5 : Nat) (X_k5 : List (List AV)) (rows_k5 : List RowA), e = [] ∧ st = ⟨B ++ ([a0.cs] ++ X_k5), rows_k5, L⟩ ∧ VStk Rw rows_k5 7 xs_k5 id_k5 ver_k5 ∧ r4_Check_k5 n  = some r) ?_ ?_
  · intro K6 hK6
    refine rg [3, 4] hs ?_
    apply awp_block
    refine awp_loop (fun m e st => ∃ (x3_l8 : List Itm) (x4_l8 : Int) (id_l8 ver_l8 : Nat) (X_l8 : List (List AV)) (rows_l8 : List RowA), e = [(3, true, .vec id_l8 ver_l8 0 x3_l8.length), (4, true, .val (.int .i64 x4_l8))] ∧ st = ⟨B ++ ([a0.cs] ++ X_l8), rows_l8, L⟩ ∧ VStk Rw rows_l8 7 (x3_l8.map avItm) id_l8 ver_l8 ∧ r4_Check_l8 n m x3_l8 x4_l8 = some r) n ⟨([Itm.mk a0 1]), 0, Rw.length, 0, ([]), Rw ++ [.vec 0 7 ([avItm (Itm.mk a0 1)].flatMap fun x => x.pub.cells)], ef hs, ef hs, VStk.start (y := avItm (Itm.mk a0 1)) Rw (by simp only [List.flatMap_cons, List.flatMap_nil, List.append_nil, avItm_pubOne]) (avItm_one _).1 (avItm_underOne _), h⟩ ?_
    rintro m_l8 e st ⟨x3_l8, x4_l8, id_l8, ver_l8, X_l8, rows_l8, rfl, rfl, hO, h⟩ KR_l8 hKR_l8
    cases m_l8 with
    | zero => cases h
    | succ m_l8 =>
    rw [r4_Check_l8] at h
    obtain ⟨cs, hvr, hget⟩ := hO.read
    have hU := hO.under
    refine tdS hN hNR hNL hcalm hO ?_
    have hs := And.intro hvr hs
    apply awp_seq; intro K9 hK9
    refine rg [3, 4, 14] hs ?_
    refine cnd h hs (fun hs h => ?_) (fun hs h => ?_)
    rotate_left
    · skip
      have hb11 := hs.1
      refine sx [] hs hK6 ?_
      exact ⟨_, _, _, ([]), rows_l8, ef hs, ef hs, hO, h⟩
    have hb11 := hs.1
    refine sk [3, 4] hs hK9 ?_
    clear hK9
    refine awp_mid (fun e st => ∃ (x3_k13 : List Itm) (id_k13 ver_k13 : Nat) (X_k13 : List (List AV)) (rows_k13 : List RowA), e = [(3, true, .vec id_k13 ver_k13 0 x3_k13.length), (4, true, .val (.int .i64 x4_l8))] ∧ st = ⟨B ++ ([a0.cs] ++ X_k13), rows_k13, L⟩ ∧ VStk Rw rows_k13 7 (x3_k13.map avItm) id_k13 ver_k13 ∧ r4_Check_k13 n (r4_Check_l8 n m_l8) x4_l8 x3_k13 = some r) ?_ ?_
    · intro K14 hK14
      apply awp_block
      obtain ⟨hg16, h⟩ := guard_some h
      obtain ⟨x17, hx17, h⟩ := bind_some h
      obtain ⟨hx17a, hx17b, hx17c⟩ := idx_some hx17
      obtain ⟨hx17d, hx17e⟩ := hget _ (avItm x17) (by rw [List.getElem?_map, hx17c]; rfl)
      replace hx17d : _ = x17.v.cs ++ [.val (.int .i64 x17.level)] := hx17d
      have hs := And.intro hx17d hs
      refine rg [3, 4, 5] hs ?_
      obtain ⟨hg19, h⟩ := guard_some h
      obtain ⟨hg20, h⟩ := guard_some h
      obtain ⟨x3t, hx3t⟩ : ∃ l, l = x3_l8.take (((x3_l8.length : Int)) - 1).toNat := ⟨_, rfl⟩
      have hx3n : (((x3_l8.length : Int)) - 1).toNat = x3t.length := by rw [hx3t, List.length_take]; omega
      rw [← hx3t] at h
      have hO := (hO.take (((x3_l8.length : Int)) - 1).toNat).of_eq (by rw [← List.map_take, ← hx3t])
      have hs := And.intro hx3n hs
      refine rg [3, 4, 5] hs ?_
      apply awp_seq; intro K21 hK21
      apply awp_block
      refine rg [3, 4, 5, 28] hs ?_
      refine cnd h hs (fun hs h => ?_) (fun hs h => ?_)
      · skip
        have hb23 := hs.1
        refine rg [2] hs ?_
        exact rt h hs hcalm hO
      have hb23 := hs.1
      refine rg [3, 4, 5, 31] hs ?_
      refine cnd h hs (fun hs h => ?_) (fun hs h => ?_)
      · skip
        have hb26 := hs.1
        refine rg [2] hs ?_
        exact rt h hs hcalm hO
      have hb26 := hs.1
      refine sk [3, 4, 5] hs hK21 ?_
      clear hK21
      apply awp_seq; intro K28 hK28
      obtain ⟨y30, hy30, h⟩ := bind_some h
      refine rc 2 [3, 4, 5, 6] hs ?_; intro K29 hK29
      refine callK_p _ (r4_Own_at w0 hT n _ _ _ x17.v _ hy30) (hv hs) ?_
      refine ne hs hK29 ?_
      clear hK29
      refine rg [3, 4, 5, 6, 39] hs ?_
      refine cnd h hs (fun hs h => ?_) (fun hs h => ?_)
      · skip
        have hb32 := hs.1
        refine rg [2] hs ?_
        exact rt h hs hcalm hO
      have hb32 := hs.1
      refine sk [3, 4, 5] hs hK28 ?_
      clear hK28
      obtain ⟨y35, hy35, h⟩ := bind_some h
      refine rc 2 [3, 4, 5, 7] hs ?_; intro K34 hK34
      refine callK_p _ (r4_Parts_at w0 n _ _ _ x17.v _ hy35) (hv hs) ?_
      refine ne hs hK34 ?_
      clear hK34
      obtain ⟨hg37, h⟩ := guard_some h
      refine rg [3, 4, 5, 7, 8] hs ?_
      apply awp_block
      refine awp_loop (fun m e st => ∃ (x3_l38 : List Itm) (x8_l38 : Int) (id_l38 ver_l38 : Nat) (X_l38 : List (List AV)) (rows_l38 : List RowA), e = [(3, true, .vec id_l38 ver_l38 0 x3_l38.length), (4, true, .val (.int .i64 x4_l8)), (5, true, .box (B.length + 1) 0), (7, true, .list (y35.map avV) .none), (8, true, .val (.int .i64 x8_l38))] ∧ st = ⟨B ++ ([a0.cs, (x17.v.cs) ++ ([.val (.int .i64 x17.level)])] ++ X_l38), rows_l38, L⟩ ∧ VStk Rw rows_l38 7 (x3_l38.map avItm) id_l38 ver_l38 ∧ r4_Check_l38 n (r4_Check_l8 n m_l8) x4_l8 x17 y35 m x3_l38 x8_l38 = some r) n ⟨x3t, (((y35.length : Int)) - 1), id_l8, ver_l8, ([]), rows_l8, ef hs, ef hs, hO, h⟩ ?_
      rintro m_l38 e st ⟨x3_l38, x8_l38, id_l38, ver_l38, X_l38, rows_l38, rfl, rfl, hO, h⟩ KR_l38 hKR_l38
      cases m_l38 with
      | zero => cases h
      | succ m_l38 =>
      rw [r4_Check_l38] at h
      obtain ⟨cs, hvr, hget⟩ := hO.read
      have hU := hO.under
      refine tdS hN hNR hNL hcalm hO ?_
      have hs := And.intro hvr hs
      apply awp_seq; intro K39 hK39
      refine rg [3, 4, 5, 7, 8, 48] hs ?_
      refine cnd h hs (fun hs h => ?_) (fun hs h => ?_)
      rotate_left
      · skip
        have hb41 := hs.1
        refine sx [3, 4] hs hK14 ?_
        exact ⟨x3_l38, id_l38, ver_l38, ([(x17.v.cs) ++ ([.val (.int .i64 x17.level)])]), rows_l38, ef hs, ef hs, hO, h⟩
      have hb41 := hs.1
      refine sk [3, 4, 5, 7, 8] hs hK39 ?_
      clear hK39
      apply awp_seq; intro K42 hK42
      apply awp_block
      obtain ⟨x43, hx43, h⟩ := bind_some h
      obtain ⟨hx43a, hx43b, hx43c⟩ := idx_some hx43
      have hx43d := getD_map (f := avV) hx43c
      obtain ⟨hg44, h⟩ := guard_some h
      obtain ⟨hg45, h⟩ := guard_some h
      obtain ⟨rows47, hO, hap48⟩ := hO.append (P := Tryz.prog) (y := avItm (Itm.mk x43 (x17.level + 1))) elT_128 (by rw [zeroT_127]; rfl) (by decide) (by rw [List.length_map]; exact hg45.1) (by rw [List.length_map]; exact hg45.2) (avItm_one _) (avItm_pubOne _) (avItm_underOne _)
      rw [List.length_map] at hap48
      try simp only [List.mem_singleton, List.mem_cons, List.not_mem_nil, or_false, forall_eq_or_imp, forall_eq, List.map_append, List.map_cons, List.map_nil, avI_eq, avB_eq, avS_eq, avV_eq, avT_eq, avF_eq, avTF_eq, avPt_eq, avL_eq, avSch_eq, avItm_eq, avLm_eq] at hap48
      apply awp_draw mix 10 1 1 [3, 4, 5, 7, 8] (by kernel_rfl)
      rw [evK_succ]; simp +decide only [go_sem, Nat.reduceAdd, hb11, hx17d, hb23, hb26, hb32, hb41, hx43d, hap48, fillA, fillOk, placeT]
      (repeat' with_reducible apply And.intro) <;> first | (rw [evK_succ]; simp +decide only [go_sem, Nat.reduceAdd, hb11, hx17d, hb23, hb26, hb32, hb41, hx43d, hap48, fillA, fillOk, placeT]) | exact cl
      (repeat' apply And.intro) <;> first | refine hK42 _ _ ?_ | exact cl
      clear hK42
      obtain ⟨hg49, h⟩ := guard_some h
      apply awp_region 1 [3, 4, 5, 7, 8]
      rw [evK_succ]; simp +decide only [go_sem, Nat.reduceAdd, hb11, hx17d, hb23, hb26, hb32, hb41, hx43d, hap48]
      have hs := And.intro hx43d hs
      have hs := And.intro hap48 hs
      (repeat' apply And.intro) <;> first | refine hKR_l38 m_l38 _ _ (Nat.lt_succ_self m_l38) ⟨(x3_l38 ++ ([Itm.mk x43 (x17.level + 1)])), (x8_l38 - 1), id_l38, ver_l38 + 1, ([]), rows47, ef hs, ef hs, hO.of_eq (by rw [List.map_append]; rfl), h⟩ | exact cl
    · clear h; rintro e st ⟨x3_k13, id_k13, ver_k13, X_k13, rows_k13, rfl, rfl, hO, h⟩
      rw [r4_Check_k13] at h
      obtain ⟨cs, hvr, hget⟩ := hO.read
      have hU := hO.under
      refine tdS hN hNR hNL hcalm hO ?_
      have hs := And.intro hvr hs
      obtain ⟨hg50, h⟩ := guard_some h
      apply awp_region 1 [3, 4]
      rw [evK_succ]; simp +decide only [go_sem, Nat.reduceAdd, hb11]
      (repeat' apply And.intro) <;> first | refine hKR_l8 m_l8 _ _ (Nat.lt_succ_self m_l8) ⟨x3_k13, (x4_l8 + 1), id_k13, ver_k13, ([]), rows_k13, ef hs, ef hs, hO, h⟩ | exact cl
  · clear h; rintro e st ⟨xs_k5, id_k5, ver_k5, X_k5, rows_k5, rfl, rfl, hO, h⟩
    rw [r4_Check_k5] at h
    have hU := hO.under
    refine tdS hN hNR hNL hcalm hO ?_
    refine rg [2] hs ?_
    exact rt h hs hcalm hO
end Go.Proofs.YtggimoedcamonaaGreatDoor
namespace Go.Proofs.YtggimoedcamonaaGreatDoor
open Go Go.RowKit Go.Ev
set_option linter.unusedSimpArgs false
set_option linter.unusedVariables false
def v_IsNull_F (a0 : Vl) : Bool :=
  (((((decide (a0.kind = 0)) && (decide (a0.int = 0))) && (decide (a0.scale = 0))) && (sEq a0.text ((⟨#[]⟩ : ByteArray)))) && (decide (((a0.list.length : Int)) = 0))) && (decide (((a0.fields.length : Int)) = 0))
set_option maxRecDepth 100000 in
set_option maxHeartbeats 4000000 in
theorem v_IsNull_at (w0 : World) (B : List (List AV)) (Rw : List RowA) (L : List LoopA) (a0 : Vl) (r : Bool) (h : v_IsNull_F a0 = r) :
    ACalls Tryz.prog w0 90 [.agg (a0.cs)] ⟨B, Rw, L⟩ fun x st => x = .val (.bool r) ∧ st = ⟨B, Rw, L⟩ := by
  rw [v_IsNull_F] at h
  refine ACalls.finP (acalls_of (rs := [.tmp 2]) Tryz.func90 rfl rfl Tryz.ntmps90 (enters_some Tryz.func90 rfl (by decide)) (Nat.le_of_ble_eq_true rfl) ?_)
  intro M0 W0 hN hNR hNL hcalm hu
  dsimp only at hN hNR hNL hcalm hu
  simp only [argsE]
  have hO := Owns.none Rw
  have hs := fact0
  refine rg [1] hs ?_
  refine rg [2] hs ?_
  apply awp_ret; simp +decide only [go_sem, Nat.reduceAdd]
  subst h
  first | refine fin_q0 hcalm rfl hO.pre ev ⟨?_, rfl⟩ | refine fin_q hcalm rfl hO.pre ev ⟨?_, rfl⟩
  first | rfl | (simp +decide only [go_sem, Nat.reduceAdd]; done) | (simp +decide only [go_sem, Nat.reduceAdd, Vl.cs, Ty.cs]; done)
theorem v_IsNull_at' (w0 : World) (B : List (List AV)) (Rw : List RowA) (L : List LoopA) (a0 : Vl) :
    ACalls Tryz.prog w0 90 [.agg (a0.cs)] ⟨B, Rw, L⟩ fun x st => x = .val (.bool (v_IsNull_F a0)) ∧ st = ⟨B, Rw, L⟩ := v_IsNull_at w0 B Rw L a0 _ rfl
end Go.Proofs.YtggimoedcamonaaGreatDoor
namespace Go.Proofs.YtggimoedcamonaaGreatDoor
open Go Go.RowKit Go.Ev
set_option linter.unusedSimpArgs false
set_option linter.unusedVariables false
def v_between_F (a0 : Int) (a1 : Int) (a2 : Int) : Int :=
  if (decide (a0 < a1)) || (decide (a2 < a0)) then
    2
  else
    0
set_option maxRecDepth 100000 in
set_option maxHeartbeats 4000000 in
theorem v_between_at (w0 : World) (B : List (List AV)) (Rw : List RowA) (L : List LoopA) (a0 : Int) (a1 : Int) (a2 : Int) (r : Int) (h : v_between_F a0 a1 a2 = r) :
    ACalls Tryz.prog w0 123 [.val (.int .i64 a0), .val (.int .i64 a1), .val (.int .i64 a2)] ⟨B, Rw, L⟩ fun x st => x = .val (.int .i64 r) ∧ st = ⟨B, Rw, L⟩ := by
  rw [v_between_F] at h
  refine ACalls.finP (acalls_of (rs := [.tmp 6]) Tryz.func123 rfl rfl Tryz.ntmps123 (enters_some Tryz.func123 rfl (by decide)) (Nat.le_of_ble_eq_true rfl) ?_)
  intro M0 W0 hN hNR hNL hcalm hu
  dsimp only at hN hNR hNL hcalm hu
  simp only [argsE]
  have hO := Owns.none Rw
  have hs := fact0
  refine rg [0, 1, 2] hs ?_
  apply awp_seq; intro K2 hK2
  refine rg [14] hs ?_
  refine cnd h hs (fun hs h => ?_) (fun hs h => ?_)
  · skip
    have hb4 := hs.1
    refine rg [6] hs ?_
    apply awp_ret; simp +decide only [go_sem, Nat.reduceAdd, hb4]
    subst h
    first | refine fin_q0 hcalm rfl hO.pre ev ⟨?_, rfl⟩ | refine fin_q hcalm rfl hO.pre ev ⟨?_, rfl⟩
    first | rfl | (simp +decide only [go_sem, Nat.reduceAdd, hb4]; done) | (simp +decide only [go_sem, Nat.reduceAdd, Vl.cs, Ty.cs, hb4]; done)
  have hb4 := hs.1
  refine sk [] hs hK2 ?_
  clear hK2
  refine rg [6] hs ?_
  apply awp_ret; simp +decide only [go_sem, Nat.reduceAdd, hb4]
  subst h
  first | refine fin_q0 hcalm rfl hO.pre ev ⟨?_, rfl⟩ | refine fin_q hcalm rfl hO.pre ev ⟨?_, rfl⟩
  first | rfl | (simp +decide only [go_sem, Nat.reduceAdd, hb4]; done) | (simp +decide only [go_sem, Nat.reduceAdd, Vl.cs, Ty.cs, hb4]; done)
theorem v_between_at' (w0 : World) (B : List (List AV)) (Rw : List RowA) (L : List LoopA) (a0 : Int) (a1 : Int) (a2 : Int) :
    ACalls Tryz.prog w0 123 [.val (.int .i64 a0), .val (.int .i64 a1), .val (.int .i64 a2)] ⟨B, Rw, L⟩ fun x st => x = .val (.int .i64 (v_between_F a0 a1 a2)) ∧ st = ⟨B, Rw, L⟩ := v_between_at w0 B Rw L a0 a1 a2 _ rfl
end Go.Proofs.YtggimoedcamonaaGreatDoor
namespace Go.Proofs.YtggimoedcamonaaGreatDoor
open Go Go.RowKit Go.Ev
set_option linter.unusedSimpArgs false
set_option linter.unusedVariables false
def v_rules_1_F (a0 : Vl) : Int :=
  v_between_F a0.int 0 1
set_option maxRecDepth 100000 in
set_option maxHeartbeats 4000000 in
theorem v_rules_1_at (w0 : World) (B : List (List AV)) (Rw : List RowA) (L : List LoopA) (a0 : Vl) (r : Int) (h : v_rules_1_F a0 = r) :
    ACalls Tryz.prog w0 122 [.agg (a0.cs)] ⟨B, Rw, L⟩ fun x st => x = .val (.int .i64 r) ∧ st = ⟨B, Rw, L⟩ := by
  rw [v_rules_1_F] at h
  refine ACalls.finP (acalls_of (rs := [.tmp 2]) Tryz.func122 rfl rfl Tryz.ntmps122 (enters_some Tryz.func122 rfl (by decide)) (Nat.le_of_ble_eq_true rfl) ?_)
  intro M0 W0 hN hNR hNL hcalm hu
  dsimp only at hN hNR hNL hcalm hu
  simp only [argsE]
  have hO := Owns.none Rw
  have hs := fact0
  refine rg [1] hs ?_
  refine rc 2 [2] hs ?_; intro K2 hK2
  refine callK_p _ (v_between_at' w0 _ _ _ a0.int 0 1) (hv hs) ?_
  refine ne hs hK2 ?_
  clear hK2
  apply awp_ret; simp +decide only [go_sem, Nat.reduceAdd]
  subst h
  first | refine fin_q0 hcalm rfl hO.pre ev ⟨?_, rfl⟩ | refine fin_q hcalm rfl hO.pre ev ⟨?_, rfl⟩
  first | rfl | (simp +decide only [go_sem, Nat.reduceAdd]; done) | (simp +decide only [go_sem, Nat.reduceAdd, Vl.cs, Ty.cs]; done)
theorem v_rules_1_at' (w0 : World) (B : List (List AV)) (Rw : List RowA) (L : List LoopA) (a0 : Vl) :
    ACalls Tryz.prog w0 122 [.agg (a0.cs)] ⟨B, Rw, L⟩ fun x st => x = .val (.int .i64 (v_rules_1_F a0)) ∧ st = ⟨B, Rw, L⟩ := v_rules_1_at w0 B Rw L a0 _ rfl
end Go.Proofs.YtggimoedcamonaaGreatDoor
namespace Go.Proofs.YtggimoedcamonaaGreatDoor
open Go Go.RowKit Go.Ev
set_option linter.unusedSimpArgs false
set_option linter.unusedVariables false
def v_size_F (a0 : Int) (a1 : Int) (a2 : Int) : Int :=
  if decide (a1 < a0) then
    a2
  else
    0
set_option maxRecDepth 100000 in
set_option maxHeartbeats 4000000 in
theorem v_size_at (w0 : World) (B : List (List AV)) (Rw : List RowA) (L : List LoopA) (a0 : Int) (a1 : Int) (a2 : Int) (r : Int) (h : v_size_F a0 a1 a2 = r) :
    ACalls Tryz.prog w0 128 [.val (.int .i64 a0), .val (.int .i64 a1), .val (.int .i64 a2)] ⟨B, Rw, L⟩ fun x st => x = .val (.int .i64 r) ∧ st = ⟨B, Rw, L⟩ := by
  rw [v_size_F] at h
  refine ACalls.finP (acalls_of (rs := [.tmp 6]) Tryz.func128 rfl rfl Tryz.ntmps128 (enters_some Tryz.func128 rfl (by decide)) (Nat.le_of_ble_eq_true rfl) ?_)
  intro M0 W0 hN hNR hNL hcalm hu
  dsimp only at hN hNR hNL hcalm hu
  simp only [argsE]
  have hO := Owns.none Rw
  have hs := fact0
  refine rg [0, 1, 2] hs ?_
  apply awp_seq; intro K2 hK2
  refine rg [2, 9] hs ?_
  refine cnd h hs (fun hs h => ?_) (fun hs h => ?_)
  · skip
    have hb4 := hs.1
    refine rg [6] hs ?_
    apply awp_ret; simp +decide only [go_sem, Nat.reduceAdd, hb4]
    subst h
    first | refine fin_q0 hcalm rfl hO.pre ev ⟨?_, rfl⟩ | refine fin_q hcalm rfl hO.pre ev ⟨?_, rfl⟩
    first | rfl | (simp +decide only [go_sem, Nat.reduceAdd, hb4]; done) | (simp +decide only [go_sem, Nat.reduceAdd, Vl.cs, Ty.cs, hb4]; done)
  have hb4 := hs.1
  refine sk [] hs hK2 ?_
  clear hK2
  refine rg [6] hs ?_
  apply awp_ret; simp +decide only [go_sem, Nat.reduceAdd, hb4]
  subst h
  first | refine fin_q0 hcalm rfl hO.pre ev ⟨?_, rfl⟩ | refine fin_q hcalm rfl hO.pre ev ⟨?_, rfl⟩
  first | rfl | (simp +decide only [go_sem, Nat.reduceAdd, hb4]; done) | (simp +decide only [go_sem, Nat.reduceAdd, Vl.cs, Ty.cs, hb4]; done)
theorem v_size_at' (w0 : World) (B : List (List AV)) (Rw : List RowA) (L : List LoopA) (a0 : Int) (a1 : Int) (a2 : Int) :
    ACalls Tryz.prog w0 128 [.val (.int .i64 a0), .val (.int .i64 a1), .val (.int .i64 a2)] ⟨B, Rw, L⟩ fun x st => x = .val (.int .i64 (v_size_F a0 a1 a2)) ∧ st = ⟨B, Rw, L⟩ := v_size_at w0 B Rw L a0 a1 a2 _ rfl
end Go.Proofs.YtggimoedcamonaaGreatDoor
namespace Go.Proofs.YtggimoedcamonaaGreatDoor
open Go Go.RowKit Go.Ev
set_option linter.unusedSimpArgs false
set_option linter.unusedVariables false
def v_rules_10_F (a0 : Vl) : Option Int :=
  if a0.text.size ≤ maxLen then
    if !(nameB a0.text) then
      some (12)
    else
      if decide (((a0.list.length : Int)) = 0) then
        some (4)
      else
        some (v_size_F ((a0.list.length : Int)) 1 3)
  else none
set_option maxRecDepth 100000 in
set_option maxHeartbeats 4000000 in
theorem v_rules_10_at (w0 : World) (B : List (List AV)) (Rw : List RowA) (L : List LoopA) (a0 : Vl) (r : Int) (h : v_rules_10_F a0 = some r) :
    ACalls Tryz.prog w0 135 [.agg (a0.cs)] ⟨B, Rw, L⟩ fun x st => x = .val (.int .i64 r) ∧ st = ⟨B, Rw, L⟩ := by
  rw [v_rules_10_F] at h
  refine ACalls.finP (acalls_of (rs := [.tmp 2]) Tryz.func135 rfl rfl Tryz.ntmps135 (enters_some Tryz.func135 rfl (by decide)) (Nat.le_of_ble_eq_true rfl) ?_)
  intro M0 W0 hN hNR hNL hcalm hu
  dsimp only at hN hNR hNL hcalm hu
  simp only [argsE]
  have hO := Owns.none Rw
  have hs := fact0
  refine rg [1] hs ?_
  apply awp_seq; intro K2 hK2
  apply awp_block
  obtain ⟨hg4, h⟩ := guard_some h
  refine rc 2 [1, 3] hs ?_; intro K3 hK3
  refine callK_p _ (IsName_at w0 _ _ _ a0.text hg4) (hv hs) ?_
  refine ne hs hK3 ?_
  clear hK3
  refine cnd h hs (fun hs h => ?_) (fun hs h => ?_)
  · skip
    refine rg [2] hs ?_
    exact rt h hs hcalm hO
  refine rg [1, 8] hs ?_
  refine cnd h hs (fun hs h => ?_) (fun hs h => ?_)
  · skip
    refine rg [2] hs ?_
    exact rt h hs hcalm hO
  refine sk [1] hs hK2 ?_
  clear hK2
  refine rc 2 [2] hs ?_; intro K10 hK10
  refine callK_p _ (v_size_at' w0 _ _ _ ((a0.list.length : Int)) 1 3) (hv hs) ?_
  refine ne hs hK10 ?_
  clear hK10
  exact rt h hs hcalm hO
end Go.Proofs.YtggimoedcamonaaGreatDoor
namespace Go.Proofs.YtggimoedcamonaaGreatDoor
open Go Go.RowKit Go.Ev
set_option linter.unusedSimpArgs false
set_option linter.unusedVariables false
def v_rules_2_F (a0 : Vl) : Int :=
  v_between_F a0.int ((-999999999999999)) 999999999999999
set_option maxRecDepth 100000 in
set_option maxHeartbeats 4000000 in
theorem v_rules_2_at (w0 : World) (B : List (List AV)) (Rw : List RowA) (L : List LoopA) (a0 : Vl) (r : Int) (h : v_rules_2_F a0 = r) :
    ACalls Tryz.prog w0 124 [.agg (a0.cs)] ⟨B, Rw, L⟩ fun x st => x = .val (.int .i64 r) ∧ st = ⟨B, Rw, L⟩ := by
  rw [v_rules_2_F] at h
  refine ACalls.finP (acalls_of (rs := [.tmp 2]) Tryz.func124 rfl rfl Tryz.ntmps124 (enters_some Tryz.func124 rfl (by decide)) (Nat.le_of_ble_eq_true rfl) ?_)
  intro M0 W0 hN hNR hNL hcalm hu
  dsimp only at hN hNR hNL hcalm hu
  simp only [argsE]
  have hO := Owns.none Rw
  have hs := fact0
  refine rg [1] hs ?_
  refine rc 2 [2] hs ?_; intro K2 hK2
  refine callK_p _ (v_between_at' w0 _ _ _ a0.int ((-999999999999999)) 999999999999999) (hv hs) ?_
  refine ne hs hK2 ?_
  clear hK2
  apply awp_ret; simp +decide only [go_sem, Nat.reduceAdd]
  subst h
  first | refine fin_q0 hcalm rfl hO.pre ev ⟨?_, rfl⟩ | refine fin_q hcalm rfl hO.pre ev ⟨?_, rfl⟩
  first | rfl | (simp +decide only [go_sem, Nat.reduceAdd]; done) | (simp +decide only [go_sem, Nat.reduceAdd, Vl.cs, Ty.cs]; done)
theorem v_rules_2_at' (w0 : World) (B : List (List AV)) (Rw : List RowA) (L : List LoopA) (a0 : Vl) :
    ACalls Tryz.prog w0 124 [.agg (a0.cs)] ⟨B, Rw, L⟩ fun x st => x = .val (.int .i64 (v_rules_2_F a0)) ∧ st = ⟨B, Rw, L⟩ := v_rules_2_at w0 B Rw L a0 _ rfl
end Go.Proofs.YtggimoedcamonaaGreatDoor
namespace Go.Proofs.YtggimoedcamonaaGreatDoor
open Go Go.RowKit Go.Ev
set_option linter.unusedSimpArgs false
set_option linter.unusedVariables false
def v_first_k3 (n : Nat)  : Option Int :=
  some (0)
def v_first_l6 (n : Nat) (a0 : List Int) : Nat → Int → Option Int
  | 0, _ => none
  | m + 1, x7_l6 =>
    if decide (x7_l6 < ((a0.length : Int))) then
      (idx a0 x7_l6).bind fun x12 =>
      if !(decide (x12 = 0)) then
        some (x12)
      else
        if I64 (x7_l6 + 1) then
          (v_first_l6 n a0 m) (x7_l6 + 1)
        else none
    else
      v_first_k3 n 
def v_first_F (n : Nat) (a0 : List Int) : Option Int :=
  v_first_l6 n a0 n 0
set_option maxRecDepth 100000 in
set_option maxHeartbeats 4000000 in
theorem v_first_at (w0 : World) (n : Nat) (B : List (List AV)) (Rw : List RowA) (L : List LoopA) (a0 : List Int) (r : Int) (h : v_first_F n a0 = some r) :
    ACalls Tryz.prog w0 126 [.list (a0.map avI) .none] ⟨B, Rw, L⟩ fun x st => x = .val (.int .i64 r) ∧ st = ⟨B, Rw, L⟩ := by
  rw [v_first_F] at h
  refine ACalls.finP (acalls_of (rs := [.tmp 2]) Tryz.func126 rfl rfl Tryz.ntmps126 (enters_some Tryz.func126 rfl (by decide)) (Nat.le_of_ble_eq_true rfl) ?_)
  intro M0 W0 hN hNR hNL hcalm hu
  dsimp only at hN hNR hNL hcalm hu
  simp only [argsE]
  have hO := Owns.none Rw
  have hs := fact0
  refine rg [0] hs ?_
  refine awp_mid (fun e st => ∃ (X_k3 : List (List AV)) (rows_k3 : List RowA), e = [] ∧ st = ⟨B ++ ([] ++ X_k3), rows_k3, L⟩ ∧ Owns Rw rows_k3 [] ∧ v_first_k3 n  = some r) ?_ ?_
  · intro K4 hK4
    refine rg [5, 6, 7] hs ?_
    apply awp_block
    refine awp_loop (fun m e st => ∃ (x7_l6 : Int) (X_l6 : List (List AV)) (rows_l6 : List RowA), e = [(5, true, .list (a0.map avI) .none), (6, true, .val (.int .i64 ((a0.length : Int)))), (7, true, .val (.int .i64 x7_l6))] ∧ st = ⟨B ++ ([] ++ X_l6), rows_l6, L⟩ ∧ Owns Rw rows_l6 [] ∧ v_first_l6 n a0 m x7_l6 = some r) n ⟨0, ([]), Rw, ef hs, ef hs, hO, h⟩ ?_
    rintro m_l6 e st ⟨x7_l6, X_l6, rows_l6, rfl, rfl, hO, h⟩ KR_l6 hKR_l6
    cases m_l6 with
    | zero => cases h
    | succ m_l6 =>
    rw [v_first_l6] at h
    refine td hN hNR hNL hcalm hO ?_
    refine rg [5, 6, 7, 8] hs ?_
    apply awp_seq; intro K8 hK8
    refine cnd h hs (fun hs h => ?_) (fun hs h => ?_)
    rotate_left
    · skip
      have hb9 := hs.1
      refine sx [] hs hK4 ?_
      exact ⟨([]), rows_l6, ef hs, ef hs, hO, h⟩
    have hb9 := hs.1
    refine sk [5, 6, 7] hs hK8 ?_
    clear hK8
    apply awp_seq; intro K10 hK10
    apply awp_block
    obtain ⟨x12, hx12, h⟩ := bind_some h
    obtain ⟨hx12a, hx12b, hx12c⟩ := idx_some hx12
    have hx12d := getD_map (f := avI) hx12c
    have hs := And.intro hx12d hs
    refine rg [4, 5, 6, 7] hs ?_
    refine rg [4, 5, 6, 7, 12] hs ?_
    refine cnd h hs (fun hs h => ?_) (fun hs h => ?_)
    · skip
      have hb14 := hs.1
      refine rg [2] hs ?_
      exact rt h hs hcalm hO
    have hb14 := hs.1
    refine sk [5, 6, 7] hs hK10 ?_
    clear hK10
    obtain ⟨hg16, h⟩ := guard_some h
    apply awp_region 1 [5, 6, 7]
    rw [evK_succ]; simp +decide only [go_sem, Nat.reduceAdd, hb9, hx12d, hb14]
    (repeat' apply And.intro) <;> first | refine hKR_l6 m_l6 _ _ (Nat.lt_succ_self m_l6) ⟨(x7_l6 + 1), ([]), rows_l6, ef hs, ef hs, hO, h⟩ | exact cl
  · clear h; rintro e st ⟨X_k3, rows_k3, rfl, rfl, hO, h⟩
    rw [v_first_k3] at h
    refine td hN hNR hNL hcalm hO ?_
    refine rg [2] hs ?_
    exact rt h hs hcalm hO
end Go.Proofs.YtggimoedcamonaaGreatDoor
namespace Go.Proofs.YtggimoedcamonaaGreatDoor
open Go Go.RowKit Go.Ev
set_option linter.unusedSimpArgs false
set_option linter.unusedVariables false
def v_rules_3_F (n : Nat) (a0 : Vl) : Option Int :=
  (v_first_F n ([v_between_F a0.int ((-999999999999999)) 999999999999999, v_between_F a0.scale 0 12])).bind fun y3 =>
  some (y3)
set_option maxRecDepth 100000 in
set_option maxHeartbeats 4000000 in
theorem v_rules_3_at (w0 : World) (n : Nat) (B : List (List AV)) (Rw : List RowA) (L : List LoopA) (a0 : Vl) (r : Int) (h : v_rules_3_F n a0 = some r) :
    ACalls Tryz.prog w0 125 [.agg (a0.cs)] ⟨B, Rw, L⟩ fun x st => x = .val (.int .i64 r) ∧ st = ⟨B, Rw, L⟩ := by
  rw [v_rules_3_F] at h
  refine ACalls.finP (acalls_of (rs := [.tmp 2]) Tryz.func125 rfl rfl Tryz.ntmps125 (enters_some Tryz.func125 rfl (by decide)) (Nat.le_of_ble_eq_true rfl) ?_)
  intro M0 W0 hN hNR hNL hcalm hu
  dsimp only at hN hNR hNL hcalm hu
  simp only [argsE]
  have hO := Owns.none Rw
  have hs := fact0
  refine rg [1] hs ?_
  apply awp_seq; intro K2 hK2
  obtain ⟨y3, hy3, h⟩ := bind_some h
  apply awp_draw mix 9 4 1 [2] (by kernel_rfl)
  rw [evK_succ]; simp +decide only [go_sem, Nat.reduceAdd]
  (repeat' apply And.intro) <;> first | refine callK_p _ (v_between_at' w0 _ _ _ a0.int ((-999999999999999)) 999999999999999) (hv hs) ?_ | exact cl
  rw [evK_succ]; simp +decide only [go_sem, Nat.reduceAdd]
  (repeat' apply And.intro) <;> first | refine callK_p _ (v_between_at' w0 _ _ _ a0.scale 0 12) (hv hs) ?_ | exact cl
  rw [evK_succ]; simp +decide only [go_sem, Nat.reduceAdd]
  (repeat' apply And.intro) <;> first | refine callK_p _ (v_first_at w0 n _ _ _ ([v_between_F a0.int ((-999999999999999)) 999999999999999, v_between_F a0.scale 0 12]) _ hy3) (hv hs) ?_ | exact cl
  rw [evK_succ]; simp +decide only [go_sem, Nat.reduceAdd]
  (repeat' with_reducible apply And.intro) <;> first | (rw [evK_succ]; simp +decide only [go_sem, Nat.reduceAdd]) | exact cl
  (repeat' apply And.intro) <;> first | refine hK2 _ _ ?_ | exact cl
  clear hK2
  exact rt h hs hcalm hO
end Go.Proofs.YtggimoedcamonaaGreatDoor
namespace Go.Proofs.YtggimoedcamonaaGreatDoor
open Go Go.RowKit Go.Ev
set_option linter.unusedSimpArgs false
set_option linter.unusedVariables false
def v_rules_4_k4  (x3_k4 : Int) : Option Int :=
  some (x3_k4)
def v_rules_4_F (a0 : Vl) : Option Int :=
  if decide ((v_size_F ((a0.text.size : Int)) 1024 5) = 0) then
    if a0.text.size ≤ maxLen then
      if !(Lib.validD a0.text.data.toList) then
        v_rules_4_k4  16
      else
        v_rules_4_k4  (v_size_F ((a0.text.size : Int)) 1024 5)
    else none
  else
    v_rules_4_k4  (v_size_F ((a0.text.size : Int)) 1024 5)
set_option maxRecDepth 100000 in
set_option maxHeartbeats 4000000 in
theorem v_rules_4_at (w0 : World) (hT : Lib.Utf8Tabs 0 1 w0) (B : List (List AV)) (Rw : List RowA) (L : List LoopA) (a0 : Vl) (r : Int) (h : v_rules_4_F a0 = some r) :
    ACalls Tryz.prog w0 127 [.agg (a0.cs)] ⟨B, Rw, L⟩ fun x st => x = .val (.int .i64 r) ∧ st = ⟨B, Rw, L⟩ := by
  rw [v_rules_4_F] at h
  refine ACalls.finP (acalls_of (rs := [.tmp 2]) Tryz.func127 rfl rfl Tryz.ntmps127 (enters_some Tryz.func127 rfl (by decide)) (Nat.le_of_ble_eq_true rfl) ?_)
  intro M0 W0 hN hNR hNL hcalm hu
  dsimp only at hN hNR hNL hcalm hu
  simp only [argsE]
  have hO := Owns.none Rw
  have hs := fact0
  refine rg [1] hs ?_
  refine rc 2 [1, 3] hs ?_; intro K2 hK2
  refine callK_p _ (v_size_at' w0 _ _ _ ((a0.text.size : Int)) 1024 5) (hv hs) ?_
  refine ne hs hK2 ?_
  clear hK2
  refine awp_mid (fun e st => ∃ (x3_k4 : Int) (X_k4 : List (List AV)) (rows_k4 : List RowA), e = [(3, true, .val (.int .i64 x3_k4))] ∧ st = ⟨B ++ ([a0.cs] ++ X_k4), rows_k4, L⟩ ∧ Owns Rw rows_k4 [] ∧ v_rules_4_k4  x3_k4 = some r) ?_ ?_
  · intro K5 hK5
    apply awp_seq; intro K6 hK6
    rcases Bool.eq_false_or_eq_true (decide ((v_size_F ((a0.text.size : Int)) 1024 5) = 0)) with hf7 | hf7
    · replace h := ite_tt h hf7
      obtain ⟨hg8, h⟩ := guard_some h
      apply awp_region 2 [3, 15]
      rw [evK_succ]; simp +decide only [go_sem, Nat.reduceAdd, hf7]
      have hs := And.intro hf7 hs
      (repeat' apply And.intro) <;> first | refine callK_p _ (sValid_at2 w0 _ _ _ hT a0.text hg8) (hv hs) ?_ | exact cl
      rw [evK_succ]; simp +decide only [go_sem, Nat.reduceAdd, hf7]
      (repeat' apply And.intro) <;> first | refine hK6 _ _ ?_ | exact cl
      clear hK6
      refine cnd h hs (fun hs h => ?_) (fun hs h => ?_)
      · skip
        have hb9 := hs.1
        apply awp_region 1 [3]
        rw [evK_succ]; simp +decide only [go_sem, Nat.reduceAdd, hf7, hb9]
        (repeat' apply And.intro) <;> first | refine hK5 _ _ ⟨16, ([]), Rw, ef hs, ef hs, hO, h⟩ | exact cl
      have hb9 := hs.1
      refine sk [3] hs hK5 ?_
      exact ⟨(v_size_F ((a0.text.size : Int)) 1024 5), ([]), Rw, ef hs, ef hs, hO, h⟩
    · replace h := ite_ff h hf7
      apply awp_region 2 [3, 15]
      rw [evK_succ]; simp +decide only [go_sem, Nat.reduceAdd, hf7]
      (repeat' apply And.intro) <;> first | refine callK_skip ?_ | exact cl
      rw [evK_succ]; simp +decide only [go_sem, Nat.reduceAdd, hf7]
      (repeat' apply And.intro) <;> first | refine hK6 _ _ ?_ | exact cl
      clear hK6
      have hs := And.intro hf7 hs
      refine awp_cond false ev (ef hs) (fun hb10 => by cases hb10) (fun hb10 => ?_)
      refine sk [3] hs hK5 ?_
      exact ⟨(v_size_F ((a0.text.size : Int)) 1024 5), ([]), Rw, ef hs, ef hs, hO, h⟩
  · clear h; rintro e st ⟨x3_k4, X_k4, rows_k4, rfl, rfl, hO, h⟩
    rw [v_rules_4_k4] at h
    refine td hN hNR hNL hcalm hO ?_
    refine rg [2] hs ?_
    exact rt h hs hcalm hO
end Go.Proofs.YtggimoedcamonaaGreatDoor
namespace Go.Proofs.YtggimoedcamonaaGreatDoor
open Go Go.RowKit Go.Ev
set_option linter.unusedSimpArgs false
set_option linter.unusedVariables false
def v_rules_5_F (a0 : Vl) : Int :=
  v_size_F ((a0.text.size : Int)) 1024 5
set_option maxRecDepth 100000 in
set_option maxHeartbeats 4000000 in
theorem v_rules_5_at (w0 : World) (B : List (List AV)) (Rw : List RowA) (L : List LoopA) (a0 : Vl) (r : Int) (h : v_rules_5_F a0 = r) :
    ACalls Tryz.prog w0 130 [.agg (a0.cs)] ⟨B, Rw, L⟩ fun x st => x = .val (.int .i64 r) ∧ st = ⟨B, Rw, L⟩ := by
  rw [v_rules_5_F] at h
  refine ACalls.finP (acalls_of (rs := [.tmp 2]) Tryz.func130 rfl rfl Tryz.ntmps130 (enters_some Tryz.func130 rfl (by decide)) (Nat.le_of_ble_eq_true rfl) ?_)
  intro M0 W0 hN hNR hNL hcalm hu
  dsimp only at hN hNR hNL hcalm hu
  simp only [argsE]
  have hO := Owns.none Rw
  have hs := fact0
  refine rg [1] hs ?_
  refine rc 2 [2] hs ?_; intro K2 hK2
  refine callK_p _ (v_size_at' w0 _ _ _ ((a0.text.size : Int)) 1024 5) (hv hs) ?_
  refine ne hs hK2 ?_
  clear hK2
  apply awp_ret; simp +decide only [go_sem, Nat.reduceAdd]
  subst h
  first | refine fin_q0 hcalm rfl hO.pre ev ⟨?_, rfl⟩ | refine fin_q hcalm rfl hO.pre ev ⟨?_, rfl⟩
  first | rfl | (simp +decide only [go_sem, Nat.reduceAdd]; done) | (simp +decide only [go_sem, Nat.reduceAdd, Vl.cs, Ty.cs]; done)
theorem v_rules_5_at' (w0 : World) (B : List (List AV)) (Rw : List RowA) (L : List LoopA) (a0 : Vl) :
    ACalls Tryz.prog w0 130 [.agg (a0.cs)] ⟨B, Rw, L⟩ fun x st => x = .val (.int .i64 (v_rules_5_F a0)) ∧ st = ⟨B, Rw, L⟩ := v_rules_5_at w0 B Rw L a0 _ rfl
end Go.Proofs.YtggimoedcamonaaGreatDoor
namespace Go.Proofs.YtggimoedcamonaaGreatDoor
open Go Go.RowKit Go.Ev
set_option linter.unusedSimpArgs false
set_option linter.unusedVariables false
def v_rules_6_F (a0 : Vl) : Int :=
  v_between_F a0.int ((-719162)) 2932896
set_option maxRecDepth 100000 in
set_option maxHeartbeats 4000000 in
theorem v_rules_6_at (w0 : World) (B : List (List AV)) (Rw : List RowA) (L : List LoopA) (a0 : Vl) (r : Int) (h : v_rules_6_F a0 = r) :
    ACalls Tryz.prog w0 131 [.agg (a0.cs)] ⟨B, Rw, L⟩ fun x st => x = .val (.int .i64 r) ∧ st = ⟨B, Rw, L⟩ := by
  rw [v_rules_6_F] at h
  refine ACalls.finP (acalls_of (rs := [.tmp 2]) Tryz.func131 rfl rfl Tryz.ntmps131 (enters_some Tryz.func131 rfl (by decide)) (Nat.le_of_ble_eq_true rfl) ?_)
  intro M0 W0 hN hNR hNL hcalm hu
  dsimp only at hN hNR hNL hcalm hu
  simp only [argsE]
  have hO := Owns.none Rw
  have hs := fact0
  refine rg [1] hs ?_
  refine rc 2 [2] hs ?_; intro K2 hK2
  refine callK_p _ (v_between_at' w0 _ _ _ a0.int ((-719162)) 2932896) (hv hs) ?_
  refine ne hs hK2 ?_
  clear hK2
  apply awp_ret; simp +decide only [go_sem, Nat.reduceAdd]
  subst h
  first | refine fin_q0 hcalm rfl hO.pre ev ⟨?_, rfl⟩ | refine fin_q hcalm rfl hO.pre ev ⟨?_, rfl⟩
  first | rfl | (simp +decide only [go_sem, Nat.reduceAdd]; done) | (simp +decide only [go_sem, Nat.reduceAdd, Vl.cs, Ty.cs]; done)
theorem v_rules_6_at' (w0 : World) (B : List (List AV)) (Rw : List RowA) (L : List LoopA) (a0 : Vl) :
    ACalls Tryz.prog w0 131 [.agg (a0.cs)] ⟨B, Rw, L⟩ fun x st => x = .val (.int .i64 (v_rules_6_F a0)) ∧ st = ⟨B, Rw, L⟩ := v_rules_6_at w0 B Rw L a0 _ rfl
end Go.Proofs.YtggimoedcamonaaGreatDoor
namespace Go.Proofs.YtggimoedcamonaaGreatDoor
open Go Go.RowKit Go.Ev
set_option linter.unusedSimpArgs false
set_option linter.unusedVariables false
def v_rules_7_F (a0 : Vl) : Int :=
  v_between_F a0.int ((-62135596800000)) 253402300799999
set_option maxRecDepth 100000 in
set_option maxHeartbeats 4000000 in
theorem v_rules_7_at (w0 : World) (B : List (List AV)) (Rw : List RowA) (L : List LoopA) (a0 : Vl) (r : Int) (h : v_rules_7_F a0 = r) :
    ACalls Tryz.prog w0 132 [.agg (a0.cs)] ⟨B, Rw, L⟩ fun x st => x = .val (.int .i64 r) ∧ st = ⟨B, Rw, L⟩ := by
  rw [v_rules_7_F] at h
  refine ACalls.finP (acalls_of (rs := [.tmp 2]) Tryz.func132 rfl rfl Tryz.ntmps132 (enters_some Tryz.func132 rfl (by decide)) (Nat.le_of_ble_eq_true rfl) ?_)
  intro M0 W0 hN hNR hNL hcalm hu
  dsimp only at hN hNR hNL hcalm hu
  simp only [argsE]
  have hO := Owns.none Rw
  have hs := fact0
  refine rg [1] hs ?_
  refine rc 2 [2] hs ?_; intro K2 hK2
  refine callK_p _ (v_between_at' w0 _ _ _ a0.int ((-62135596800000)) 253402300799999) (hv hs) ?_
  refine ne hs hK2 ?_
  clear hK2
  apply awp_ret; simp +decide only [go_sem, Nat.reduceAdd]
  subst h
  first | refine fin_q0 hcalm rfl hO.pre ev ⟨?_, rfl⟩ | refine fin_q hcalm rfl hO.pre ev ⟨?_, rfl⟩
  first | rfl | (simp +decide only [go_sem, Nat.reduceAdd]; done) | (simp +decide only [go_sem, Nat.reduceAdd, Vl.cs, Ty.cs]; done)
theorem v_rules_7_at' (w0 : World) (B : List (List AV)) (Rw : List RowA) (L : List LoopA) (a0 : Vl) :
    ACalls Tryz.prog w0 132 [.agg (a0.cs)] ⟨B, Rw, L⟩ fun x st => x = .val (.int .i64 (v_rules_7_F a0)) ∧ st = ⟨B, Rw, L⟩ := v_rules_7_at w0 B Rw L a0 _ rfl
end Go.Proofs.YtggimoedcamonaaGreatDoor
namespace Go.Proofs.YtggimoedcamonaaGreatDoor
open Go Go.RowKit Go.Ev
set_option linter.unusedSimpArgs false
set_option linter.unusedVariables false
def v_rules_8_F (a0 : Vl) : Int :=
  v_size_F ((a0.list.length : Int)) 256 9
set_option maxRecDepth 100000 in
set_option maxHeartbeats 4000000 in
theorem v_rules_8_at (w0 : World) (B : List (List AV)) (Rw : List RowA) (L : List LoopA) (a0 : Vl) (r : Int) (h : v_rules_8_F a0 = r) :
    ACalls Tryz.prog w0 133 [.agg (a0.cs)] ⟨B, Rw, L⟩ fun x st => x = .val (.int .i64 r) ∧ st = ⟨B, Rw, L⟩ := by
  rw [v_rules_8_F] at h
  refine ACalls.finP (acalls_of (rs := [.tmp 2]) Tryz.func133 rfl rfl Tryz.ntmps133 (enters_some Tryz.func133 rfl (by decide)) (Nat.le_of_ble_eq_true rfl) ?_)
  intro M0 W0 hN hNR hNL hcalm hu
  dsimp only at hN hNR hNL hcalm hu
  simp only [argsE]
  have hO := Owns.none Rw
  have hs := fact0
  refine rg [1] hs ?_
  refine rc 2 [2] hs ?_; intro K2 hK2
  refine callK_p _ (v_size_at' w0 _ _ _ ((a0.list.length : Int)) 256 9) (hv hs) ?_
  refine ne hs hK2 ?_
  clear hK2
  apply awp_ret; simp +decide only [go_sem, Nat.reduceAdd]
  subst h
  first | refine fin_q0 hcalm rfl hO.pre ev ⟨?_, rfl⟩ | refine fin_q hcalm rfl hO.pre ev ⟨?_, rfl⟩
  first | rfl | (simp +decide only [go_sem, Nat.reduceAdd]; done) | (simp +decide only [go_sem, Nat.reduceAdd, Vl.cs, Ty.cs]; done)
theorem v_rules_8_at' (w0 : World) (B : List (List AV)) (Rw : List RowA) (L : List LoopA) (a0 : Vl) :
    ACalls Tryz.prog w0 133 [.agg (a0.cs)] ⟨B, Rw, L⟩ fun x st => x = .val (.int .i64 (v_rules_8_F a0)) ∧ st = ⟨B, Rw, L⟩ := v_rules_8_at w0 B Rw L a0 _ rfl
end Go.Proofs.YtggimoedcamonaaGreatDoor
namespace Go.Proofs.YtggimoedcamonaaGreatDoor
open Go Go.RowKit Go.Ev
set_option linter.unusedSimpArgs false
set_option linter.unusedVariables false
def v_rules_9_k8 (n : Nat)  : Option Int :=
  some (0)
def v_rules_9_l11 (n : Nat) (a0 : Vl) : Nat → Int → Option Int
  | 0, _ => none
  | m + 1, x16_l11 =>
    if decide (x16_l11 < ((a0.fields.length : Int))) then
      (idx a0.fields x16_l11).bind fun x17 =>
      if x17.1.size ≤ maxLen then
        if !(nameB x17.1) then
          some (12)
        else
          if decide (0 < x16_l11) then
            if I64 (x16_l11 - 1) then
              (idx a0.fields (x16_l11 - 1)).bind fun x25 =>
              if sEq x17.1 x25.1 then
                some (7)
              else
                if I64 (x16_l11 - 1) then
                  if sLt x17.1 x25.1 then
                    some (24)
                  else
                    if I64 (x16_l11 + 1) then
                      (v_rules_9_l11 n a0 m) (x16_l11 + 1)
                    else none
                else none
            else none
          else
            if I64 (x16_l11 + 1) then
              (v_rules_9_l11 n a0 m) (x16_l11 + 1)
            else none
      else none
    else
      v_rules_9_k8 n 
def v_rules_9_F (n : Nat) (a0 : Vl) : Option Int :=
  if !(decide ((v_size_F ((a0.fields.length : Int)) 64 9) = 0)) then
    some (v_size_F ((a0.fields.length : Int)) 64 9)
  else
    v_rules_9_l11 n a0 n 0
set_option maxRecDepth 100000 in
set_option maxHeartbeats 4000000 in
theorem v_rules_9_at (w0 : World) (n : Nat) (B : List (List AV)) (Rw : List RowA) (L : List LoopA) (a0 : Vl) (r : Int) (h : v_rules_9_F n a0 = some r) :
    ACalls Tryz.prog w0 134 [.agg (a0.cs)] ⟨B, Rw, L⟩ fun x st => x = .val (.int .i64 r) ∧ st = ⟨B, Rw, L⟩ := by
  rw [v_rules_9_F] at h
  refine ACalls.finP (acalls_of (rs := [.tmp 2]) Tryz.func134 rfl rfl Tryz.ntmps134 (enters_some Tryz.func134 rfl (by decide)) (Nat.le_of_ble_eq_true rfl) ?_)
  intro M0 W0 hN hNR hNL hcalm hu
  dsimp only at hN hNR hNL hcalm hu
  simp only [argsE]
  have hO := Owns.none Rw
  have hs := fact0
  refine rg [1] hs ?_
  apply awp_seq; intro K2 hK2
  refine rc 2 [1, 3] hs ?_; intro K3 hK3
  refine callK_p _ (v_size_at' w0 _ _ _ ((a0.fields.length : Int)) 64 9) (hv hs) ?_
  refine ne hs hK3 ?_
  clear hK3
  refine rg [1, 3, 11] hs ?_
  refine cnd h hs (fun hs h => ?_) (fun hs h => ?_)
  · skip
    have hb5 := hs.1
    refine rg [2] hs ?_
    exact rt h hs hcalm hO
  have hb5 := hs.1
  refine sk [1] hs hK2 ?_
  clear hK2
  refine awp_mid (fun e st => ∃ (X_k8 : List (List AV)) (rows_k8 : List RowA), e = [] ∧ st = ⟨B ++ ([a0.cs] ++ X_k8), rows_k8, L⟩ ∧ Owns Rw rows_k8 [] ∧ v_rules_9_k8 n  = some r) ?_ ?_
  · intro K9 hK9
    refine rg [1, 14, 15, 16] hs ?_
    apply awp_block
    refine awp_loop (fun m e st => ∃ (x16_l11 : Int) (X_l11 : List (List AV)) (rows_l11 : List RowA), e = [(1, true, .box B.length 0), (14, true, .list (a0.fields.map avF) .none), (15, true, .val (.int .i64 ((a0.fields.length : Int)))), (16, true, .val (.int .i64 x16_l11))] ∧ st = ⟨B ++ ([a0.cs] ++ X_l11), rows_l11, L⟩ ∧ Owns Rw rows_l11 [] ∧ v_rules_9_l11 n a0 m x16_l11 = some r) n ⟨0, ([]), Rw, ef hs, ef hs, hO, h⟩ ?_
    rintro m_l11 e st ⟨x16_l11, X_l11, rows_l11, rfl, rfl, hO, h⟩ KR_l11 hKR_l11
    cases m_l11 with
    | zero => cases h
    | succ m_l11 =>
    rw [v_rules_9_l11] at h
    refine td hN hNR hNL hcalm hO ?_
    refine rg [1, 14, 15, 16, 17] hs ?_
    apply awp_seq; intro K13 hK13
    refine cnd h hs (fun hs h => ?_) (fun hs h => ?_)
    rotate_left
    · skip
      have hb14 := hs.1
      refine sx [] hs hK9 ?_
      exact ⟨([]), rows_l11, ef hs, ef hs, hO, h⟩
    have hb14 := hs.1
    refine sk [1, 14, 15, 16] hs hK13 ?_
    clear hK13
    apply awp_seq; intro K15 hK15
    apply awp_block
    obtain ⟨x17, hx17, h⟩ := bind_some h
    obtain ⟨hx17a, hx17b, hx17c⟩ := idx_some hx17
    have hx17d := getD_map (f := avF) hx17c
    have hs := And.intro hx17d hs
    refine rg [1, 4, 5, 14, 15, 16] hs ?_
    apply awp_block
    obtain ⟨hg19, h⟩ := guard_some h
    refine rc 2 [1, 4, 5, 14, 15, 16, 21] hs ?_; intro K18 hK18
    refine callK_p _ (IsName_at w0 _ _ _ x17.1 hg19) (hv hs) ?_
    refine ne hs hK18 ?_
    clear hK18
    refine cnd h hs (fun hs h => ?_) (fun hs h => ?_)
    · skip
      have hb20 := hs.1
      refine rg [2] hs ?_
      exact rt h hs hcalm hO
    have hb20 := hs.1
    apply awp_seq; intro K22 hK22
    rcases Bool.eq_false_or_eq_true (decide (0 < x16_l11)) with hf23 | hf23
    · replace h := ite_tt h hf23
      obtain ⟨hg24, h⟩ := guard_some h
      obtain ⟨x25, hx25, h⟩ := bind_some h
      obtain ⟨hx25a, hx25b, hx25c⟩ := idx_some hx25
      have hx25d := getD_map (f := avF) hx25c
      apply awp_draw mix 15 1 1 [1, 4, 5, 14, 15, 16, 26] (by kernel_rfl)
      rw [evK_succ]; simp +decide only [go_sem, Nat.reduceAdd, hb5, hb14, hx17d, hb20, hf23, hx25d]
      (repeat' with_reducible apply And.intro) <;> first | (rw [evK_succ]; simp +decide only [go_sem, Nat.reduceAdd, hb5, hb14, hx17d, hb20, hf23, hx25d]) | exact cl
      (repeat' apply And.intro) <;> first | refine hK22 _ _ ?_ | exact cl
      clear hK22
      have hs := And.intro hf23 hs
      have hs := And.intro hx25d hs
      refine cnd h hs (fun hs h => ?_) (fun hs h => ?_)
      · skip
        have hb26 := hs.1
        refine rg [2] hs ?_
        exact rt h hs hcalm hO
      have hb26 := hs.1
      obtain ⟨hg29, h⟩ := guard_some h
      refine dg 15 1 1 [1, 14, 15, 16, 41] hs mix ?_
      refine cnd h hs (fun hs h => ?_) (fun hs h => ?_)
      · skip
        have hb30 := hs.1
        refine rg [2] hs ?_
        exact rt h hs hcalm hO
      have hb30 := hs.1
      refine sk [1, 14, 15, 16] hs hK15 ?_
      clear hK15
      obtain ⟨hg32, h⟩ := guard_some h
      apply awp_region 1 [1, 14, 15, 16]
      rw [evK_succ]; simp +decide only [go_sem, Nat.reduceAdd, hb5, hb14, hx17d, hb20, hf23, hx25d, hb26, hb30]
      (repeat' apply And.intro) <;> first | refine hKR_l11 m_l11 _ _ (Nat.lt_succ_self m_l11) ⟨(x16_l11 + 1), ([.val (.string x17.1) :: (x17.2.cs)]), rows_l11, ef hs, ef hs, hO, h⟩ | exact cl
    · replace h := ite_ff h hf23
      apply awp_draw mix 15 1 1 [1, 4, 5, 14, 15, 16, 26] (by kernel_rfl)
      rw [evK_succ]; simp +decide only [go_sem, Nat.reduceAdd, hb5, hb14, hx17d, hb20, hf23]
      (repeat' with_reducible apply And.intro) <;> first | (rw [evK_succ]; simp +decide only [go_sem, Nat.reduceAdd, hb5, hb14, hx17d, hb20, hf23]) | exact cl
      (repeat' apply And.intro) <;> first | refine hK22 _ _ ?_ | exact cl
      clear hK22
      have hs := And.intro hf23 hs
      refine awp_cond false ev (ef hs) (fun hb33 => by cases hb33) (fun hb33 => ?_)
      refine dg 15 1 1 [1, 14, 15, 16, 41] hs mix ?_
      refine awp_cond false ev (ef hs) (fun hb35 => by cases hb35) (fun hb35 => ?_)
      refine sk [1, 14, 15, 16] hs hK15 ?_
      clear hK15
      obtain ⟨hg36, h⟩ := guard_some h
      apply awp_region 1 [1, 14, 15, 16]
      rw [evK_succ]; simp +decide only [go_sem, Nat.reduceAdd, hb5, hb14, hx17d, hb20, hf23]
      (repeat' apply And.intro) <;> first | refine hKR_l11 m_l11 _ _ (Nat.lt_succ_self m_l11) ⟨(x16_l11 + 1), ([.val (.string x17.1) :: (x17.2.cs)]), rows_l11, ef hs, ef hs, hO, h⟩ | exact cl
  · clear h; rintro e st ⟨X_k8, rows_k8, rfl, rfl, hO, h⟩
    rw [v_rules_9_k8] at h
    refine td hN hNR hNL hcalm hO ?_
    refine rg [2] hs ?_
    exact rt h hs hcalm hO
end Go.Proofs.YtggimoedcamonaaGreatDoor
namespace Go.Proofs.YtggimoedcamonaaGreatDoor
open Go Go.RowKit Go.Ev
set_option linter.unusedSimpArgs false
set_option linter.unusedVariables false
def v_uses_F (a0 : Vl) : Bool :=
  (((((((((decide (a0.kind = 1)) || (decide (a0.kind = 2))) || (decide (a0.kind = 6))) || (decide (a0.kind = 7))) || (decide (a0.kind = 3))) || (decide (a0.int = 0))) && ((decide (a0.kind = 3)) || (decide (a0.scale = 0)))) && ((((decide (a0.kind = 4)) || (decide (a0.kind = 5))) || (decide (a0.kind = 10))) || (sEq a0.text ((⟨#[]⟩ : ByteArray))))) && (((decide (a0.kind = 8)) || (decide (a0.kind = 10))) || (decide (((a0.list.length : Int)) = 0)))) && ((decide (a0.kind = 9)) || (decide (((a0.fields.length : Int)) = 0)))
set_option maxRecDepth 100000 in
set_option maxHeartbeats 4000000 in
theorem v_uses_at (w0 : World) (B : List (List AV)) (Rw : List RowA) (L : List LoopA) (a0 : Vl) (r : Bool) (h : v_uses_F a0 = r) :
    ACalls Tryz.prog w0 91 [.agg (a0.cs)] ⟨B, Rw, L⟩ fun x st => x = .val (.bool r) ∧ st = ⟨B, Rw, L⟩ := by
  rw [v_uses_F] at h
  refine ACalls.finP (acalls_of (rs := [.tmp 2]) Tryz.func91 rfl rfl Tryz.ntmps91 (enters_some Tryz.func91 rfl (by decide)) (Nat.le_of_ble_eq_true rfl) ?_)
  intro M0 W0 hN hNR hNL hcalm hu
  dsimp only at hN hNR hNL hcalm hu
  simp only [argsE]
  have hO := Owns.none Rw
  have hs := fact0
  refine rg [1] hs ?_
  refine rg [1, 3] hs ?_
  refine rg [1, 3, 4] hs ?_
  refine rg [1, 3, 4, 5] hs ?_
  refine rg [2] hs ?_
  apply awp_ret; simp +decide only [go_sem, Nat.reduceAdd]
  subst h
  first | refine fin_q0 hcalm rfl hO.pre ev ⟨?_, rfl⟩ | refine fin_q hcalm rfl hO.pre ev ⟨?_, rfl⟩
  first | rfl | (simp +decide only [go_sem, Nat.reduceAdd]; done) | (simp +decide only [go_sem, Nat.reduceAdd, Vl.cs, Ty.cs]; done)
theorem v_uses_at' (w0 : World) (B : List (List AV)) (Rw : List RowA) (L : List LoopA) (a0 : Vl) :
    ACalls Tryz.prog w0 91 [.agg (a0.cs)] ⟨B, Rw, L⟩ fun x st => x = .val (.bool (v_uses_F a0)) ∧ st = ⟨B, Rw, L⟩ := v_uses_at w0 B Rw L a0 _ rfl
end Go.Proofs.YtggimoedcamonaaGreatDoor
namespace Go.Proofs.YtggimoedcamonaaGreatDoor
open Go Go.RowKit Go.Ev
set_option linter.unusedSimpArgs false
set_option linter.unusedVariables false
def v_Check_r7 (n : Nat)  : List (Nat × Vl) → Int → Option Int
  | [], b3_r7 =>
    some (0)
  | p_r7 :: rest, b3_r7 =>
    if I64 (b3_r7 + 1) then
      if decide (4096 < (b3_r7 + 1)) then
        some (9)
      else
        if decide (8 < ((p_r7.1 : Int))) then
          some (23)
        else
          if v_IsNull_F p_r7.2 then
            some (19)
          else
            if (decide (p_r7.2.kind < 1)) || (decide (10 < p_r7.2.kind)) then
              some (11)
            else
              if !(v_uses_F p_r7.2) then
                some (3)
              else
                if decide (p_r7.2.kind = 0) then
                  none
                else
                  if decide (p_r7.2.kind = 1) then
                    if !(decide ((v_rules_1_F p_r7.2) = 0)) then
                      some (v_rules_1_F p_r7.2)
                    else
                      (v_Check_r7 n rest) (b3_r7 + 1)
                  else
                    if decide (p_r7.2.kind = 2) then
                      if !(decide ((v_rules_2_F p_r7.2) = 0)) then
                        some (v_rules_2_F p_r7.2)
                      else
                        (v_Check_r7 n rest) (b3_r7 + 1)
                    else
                      if decide (p_r7.2.kind = 3) then
                        (v_rules_3_F n p_r7.2).bind fun y42 =>
                        if !(decide (y42 = 0)) then
                          some (y42)
                        else
                          (v_Check_r7 n rest) (b3_r7 + 1)
                      else
                        if decide (p_r7.2.kind = 4) then
                          (v_rules_4_F p_r7.2).bind fun y48 =>
                          if !(decide (y48 = 0)) then
                            some (y48)
                          else
                            (v_Check_r7 n rest) (b3_r7 + 1)
                        else
                          if decide (p_r7.2.kind = 5) then
                            if !(decide ((v_rules_5_F p_r7.2) = 0)) then
                              some (v_rules_5_F p_r7.2)
                            else
                              (v_Check_r7 n rest) (b3_r7 + 1)
                          else
                            if decide (p_r7.2.kind = 6) then
                              if !(decide ((v_rules_6_F p_r7.2) = 0)) then
                                some (v_rules_6_F p_r7.2)
                              else
                                (v_Check_r7 n rest) (b3_r7 + 1)
                            else
                              if decide (p_r7.2.kind = 7) then
                                if !(decide ((v_rules_7_F p_r7.2) = 0)) then
                                  some (v_rules_7_F p_r7.2)
                                else
                                  (v_Check_r7 n rest) (b3_r7 + 1)
                              else
                                if decide (p_r7.2.kind = 8) then
                                  if !(decide ((v_rules_8_F p_r7.2) = 0)) then
                                    some (v_rules_8_F p_r7.2)
                                  else
                                    (v_Check_r7 n rest) (b3_r7 + 1)
                                else
                                  if decide (p_r7.2.kind = 9) then
                                    (v_rules_9_F n p_r7.2).bind fun y74 =>
                                    if !(decide (y74 = 0)) then
                                      some (y74)
                                    else
                                      (v_Check_r7 n rest) (b3_r7 + 1)
                                  else
                                    if decide (p_r7.2.kind = 10) then
                                      (v_rules_10_F p_r7.2).bind fun y80 =>
                                      if !(decide (y80 = 0)) then
                                        some (y80)
                                      else
                                        (v_Check_r7 n rest) (b3_r7 + 1)
                                    else
                                      none
    else none
def v_Check_F (n : Nat) (a0 : Vl) : Option Int :=
  if a0.size < 1048576 then
    v_Check_r7 n (preV 1 a0) 0
  else none
set_option maxRecDepth 100000 in
set_option maxHeartbeats 4000000 in
theorem v_Check_at (w0 : World) (hT : Lib.Utf8Tabs 0 1 w0) (n : Nat) (B : List (List AV)) (Rw : List RowA) (L : List LoopA) (a0 : Vl) (r : Int) (h : v_Check_F n a0 = some r) :
    ACalls Tryz.prog w0 48 [.agg (a0.cs)] ⟨B, Rw, L⟩ fun x st => x = .val (.int .i64 r) ∧ st = ⟨B, Rw, L⟩ := by
  rw [v_Check_F] at h
  refine ACalls.finP (acalls_of (rs := [.cell 2 29]) Tryz.func48 rfl rfl Tryz.ntmps48 (enters_some Tryz.func48 rfl (by decide)) (Nat.le_of_ble_eq_true rfl) ?_)
  intro M0 W0 hN hNR hNL hcalm hu
  dsimp only at hN hNR hNL hcalm hu
  simp only [argsE]
  have hO := Owns.none Rw
  have hs := fact0
  refine rg [1, 2] hs ?_
  apply awp_seq; intro K2 hK2
  apply awp_region 2 [1, 2, 3]
  rw [evK_succ]; simp +decide only [go_sem, Nat.reduceAdd, rulesA]
  (repeat' apply And.intro) <;> first | refine callK_p _ (rules_at w0 _ _ _ ) (by first | rfl | (simp +decide only [go_sem, Nat.reduceAdd, rulesA]; done) | (simp +decide only [go_sem, Nat.reduceAdd, Vl.cs, Ty.cs, rulesA]; done)) ?_ | exact cl
  rw [evK_succ]; simp +decide only [go_sem, Nat.reduceAdd, rulesA]
  (repeat' apply And.intro) <;> first | refine hK2 _ _ ?_ | exact cl
  clear hK2
  refine rg [1, 2, 3, 4] hs ?_
  apply awp_seq; intro K4 hK4
  refine rc 2 [2, 3, 4, 10] hs ?_; intro K5 hK5
  refine callK_pp _ (preorder_at w0 _ _ _ a0) (hv hs) ?_; rintro _ _ ⟨rfl, rfl⟩
  refine ne hs hK5 ?_
  clear hK5
  apply awp_block
  obtain ⟨hg6, h⟩ := guard_some h
  refine awp_range (itemsV a0) (fun st => st.boxes[(B.length + 4)]? = some a0.cs) (fun i st => ∃ (b3_r7 : Int) (rows_r7 : List RowA), st = ⟨B ++ ([a0.cs, [.val (.int .i64 0)], [.val .nilFunc, .clo 122 [], .clo 124 [], .clo 125 [], .clo 127 [], .clo 130 [], .clo 131 [], .clo 132 [], .clo 133 [], .clo 134 [], .clo 135 []], [.val (.int .i64 b3_r7)], a0.cs]), rows_r7, L⟩ ∧ Owns Rw rows_r7 [] ∧ v_Check_r7 n ((preV 1 a0).drop i) b3_r7 = some r) (fun ex st => ex = .ret ∧ ∃ (z0 : List AV) (z2 : List AV) (z3 : List AV) (z4 : List AV) (rows : List RowA), st = ⟨B ++ [z0, [.val (.int .i64 r)], z2, z3, z4], rows, L⟩ ∧ Owns Rw rows []) ev ev (preorder_iter w0 a0 hg6 _) (fun x hx => itemsV_two a0 x hx) (by decide) ?_ ⟨0, Rw, ef hs, hO, h⟩ (fun _ _ h => .inl h.1) ?_ ?_ ?_
  · rintro i st la ⟨b3_r7, rows_r7, rfl, hO, h⟩ _ _; simp +decide [St.push]
  · rintro i s1 ⟨XB, XR, XL⟩ x M1 W1 l la la' hX hI hlike hloops hx hra K hK
    obtain ⟨p_r7, hpi, rfl, hi⟩ := itemsV_get a0 i x hx
    (try simp only at hX)
    subst hX
    obtain ⟨b3_r7, rows_r7, rfl, hO, h⟩ := hI
    rw [drop_get hpi, v_Check_r7] at h
    have hra0_r7 := hO
    simp only [St.ext, St.push, List.append_assoc, List.append_nil]
    refine rg [2, 3, 4, 5, 12] hs ?_
    apply awp_region 1 [2, 3, 4, 5, 6]
    rw [evK_succ]; simp +decide only [go_sem, Nat.reduceAdd]
    (repeat' apply And.intro) <;> first | refine hK _ _ (by simp [St.ext, St.push]) (fun KQ hKQ => ?_) | exact cl
    clear hK
    dsimp only [St.ext, St.push]
    apply awp_block
    obtain ⟨hg10, h⟩ := guard_some h
    refine rg [2, 3, 4, 5, 6] hs ?_
    apply awp_seq; intro K11 hK11
    apply awp_block
    refine rg [2, 3, 5, 6, 15] hs ?_
    refine cnd h hs (fun hs h => ?_) (fun hs h => ?_)
    · skip
      have hb13 := hs.1
      refine rg [2] hs ?_
      apply awp_ret; simp +decide only [go_sem, Nat.reduceAdd, hb13]
      have hgt := Option.some.inj h; subst hgt
      refine hKQ _ _ _ ⟨⟨B ++ [a0.cs, [.val (.int .i64 9)], [.val .nilFunc, .clo 122 [], .clo 124 [], .clo 125 [], .clo 127 [], .clo 130 [], .clo 131 [], .clo 132 [], .clo 133 [], .clo 134 [], .clo 135 []], [.val (.int .i64 (b3_r7 + 1))], a0.cs], rows_r7, L⟩, [p_r7.2.cs], by first | rfl | (simp only [List.append_assoc, List.append_nil, List.cons_append, List.nil_append]; done), ⟨by simp, by first | exact Nat.le_refl _ | (have := hO.len; simp; omega), rfl⟩, rfl, ⟨rfl, _, _, _, _, rows_r7, ef hs, hO.sub (List.nil_sublist _)⟩, ?_⟩
      exact .inr (round_calm hra hra0_r7 hO rfl (by have := hO.len; have := hra0_r7.len; first | exact Nat.le_refl _ | omega) (by simp only [List.append_assoc, List.cons_append, List.nil_append]) (by (simp +decide only [go_sem, Nat.reduceAdd]) <;> (try (repeat' apply And.intro)) <;> first | omega | assumption))
    have hb13 := hs.1
    refine rg [2, 3, 6, 18] hs ?_
    refine cnd h hs (fun hs h => ?_) (fun hs h => ?_)
    · skip
      have hb16 := hs.1
      refine rg [2] hs ?_
      apply awp_ret; simp +decide only [go_sem, Nat.reduceAdd, hb13, hb16]
      have hgt := Option.some.inj h; subst hgt
      refine hKQ _ _ _ ⟨⟨B ++ [a0.cs, [.val (.int .i64 23)], [.val .nilFunc, .clo 122 [], .clo 124 [], .clo 125 [], .clo 127 [], .clo 130 [], .clo 131 [], .clo 132 [], .clo 133 [], .clo 134 [], .clo 135 []], [.val (.int .i64 (b3_r7 + 1))], a0.cs], rows_r7, L⟩, [p_r7.2.cs], by first | rfl | (simp only [List.append_assoc, List.append_nil, List.cons_append, List.nil_append]; done), ⟨by simp, by first | exact Nat.le_refl _ | (have := hO.len; simp; omega), rfl⟩, rfl, ⟨rfl, _, _, _, _, rows_r7, ef hs, hO.sub (List.nil_sublist _)⟩, ?_⟩
      exact .inr (round_calm hra hra0_r7 hO rfl (by have := hO.len; have := hra0_r7.len; first | exact Nat.le_refl _ | omega) (by simp only [List.append_assoc, List.cons_append, List.nil_append]) (by (simp +decide only [go_sem, Nat.reduceAdd]) <;> (try (repeat' apply And.intro)) <;> first | omega | assumption))
    have hb16 := hs.1
    refine rc 2 [2, 3, 6, 21] hs ?_; intro K18 hK18
    refine callK_p _ (v_IsNull_at' w0 _ _ _ p_r7.2) (hv hs) ?_
    refine ne hs hK18 ?_
    clear hK18
    refine cnd h hs (fun hs h => ?_) (fun hs h => ?_)
    · skip
      have hb19 := hs.1
      refine rg [2] hs ?_
      apply awp_ret; simp +decide only [go_sem, Nat.reduceAdd, hb13, hb16, hb19]
      have hgt := Option.some.inj h; subst hgt
      refine hKQ _ _ _ ⟨⟨B ++ [a0.cs, [.val (.int .i64 19)], [.val .nilFunc, .clo 122 [], .clo 124 [], .clo 125 [], .clo 127 [], .clo 130 [], .clo 131 [], .clo 132 [], .clo 133 [], .clo 134 [], .clo 135 []], [.val (.int .i64 (b3_r7 + 1))], a0.cs], rows_r7, L⟩, [p_r7.2.cs], by first | rfl | (simp only [List.append_assoc, List.append_nil, List.cons_append, List.nil_append]; done), ⟨by simp, by first | exact Nat.le_refl _ | (have := hO.len; simp; omega), rfl⟩, rfl, ⟨rfl, _, _, _, _, rows_r7, ef hs, hO.sub (List.nil_sublist _)⟩, ?_⟩
      exact .inr (round_calm hra hra0_r7 hO rfl (by have := hO.len; have := hra0_r7.len; first | exact Nat.le_refl _ | omega) (by simp only [List.append_assoc, List.cons_append, List.nil_append]) (by (simp +decide only [go_sem, Nat.reduceAdd]) <;> (try (repeat' apply And.intro)) <;> first | omega | assumption))
    have hb19 := hs.1
    refine rg [2, 3, 6, 24] hs ?_
    refine cnd h hs (fun hs h => ?_) (fun hs h => ?_)
    · skip
      have hb22 := hs.1
      refine rg [2] hs ?_
      apply awp_ret; simp +decide only [go_sem, Nat.reduceAdd, hb13, hb16, hb19, hb22]
      have hgt := Option.some.inj h; subst hgt
      refine hKQ _ _ _ ⟨⟨B ++ [a0.cs, [.val (.int .i64 11)], [.val .nilFunc, .clo 122 [], .clo 124 [], .clo 125 [], .clo 127 [], .clo 130 [], .clo 131 [], .clo 132 [], .clo 133 [], .clo 134 [], .clo 135 []], [.val (.int .i64 (b3_r7 + 1))], a0.cs], rows_r7, L⟩, [p_r7.2.cs], by first | rfl | (simp only [List.append_assoc, List.append_nil, List.cons_append, List.nil_append]; done), ⟨by simp, by first | exact Nat.le_refl _ | (have := hO.len; simp; omega), rfl⟩, rfl, ⟨rfl, _, _, _, _, rows_r7, ef hs, hO.sub (List.nil_sublist _)⟩, ?_⟩
      exact .inr (round_calm hra hra0_r7 hO rfl (by have := hO.len; have := hra0_r7.len; first | exact Nat.le_refl _ | omega) (by simp only [List.append_assoc, List.cons_append, List.nil_append]) (by (simp +decide only [go_sem, Nat.reduceAdd]) <;> (try (repeat' apply And.intro)) <;> first | omega | assumption))
    have hb22 := hs.1
    refine rc 2 [2, 3, 6, 33] hs ?_; intro K24 hK24
    refine callK_p _ (v_uses_at' w0 _ _ _ p_r7.2) (hv hs) ?_
    refine ne hs hK24 ?_
    clear hK24
    refine cnd h hs (fun hs h => ?_) (fun hs h => ?_)
    · skip
      have hb25 := hs.1
      refine rg [2] hs ?_
      apply awp_ret; simp +decide only [go_sem, Nat.reduceAdd, hb13, hb16, hb19, hb22, hb25]
      have hgt := Option.some.inj h; subst hgt
      refine hKQ _ _ _ ⟨⟨B ++ [a0.cs, [.val (.int .i64 3)], [.val .nilFunc, .clo 122 [], .clo 124 [], .clo 125 [], .clo 127 [], .clo 130 [], .clo 131 [], .clo 132 [], .clo 133 [], .clo 134 [], .clo 135 []], [.val (.int .i64 (b3_r7 + 1))], a0.cs], rows_r7, L⟩, [p_r7.2.cs], by first | rfl | (simp only [List.append_assoc, List.append_nil, List.cons_append, List.nil_append]; done), ⟨by simp, by first | exact Nat.le_refl _ | (have := hO.len; simp; omega), rfl⟩, rfl, ⟨rfl, _, _, _, _, rows_r7, ef hs, hO.sub (List.nil_sublist _)⟩, ?_⟩
      exact .inr (round_calm hra hra0_r7 hO rfl (by have := hO.len; have := hra0_r7.len; first | exact Nat.le_refl _ | omega) (by simp only [List.append_assoc, List.cons_append, List.nil_append]) (by (simp +decide only [go_sem, Nat.reduceAdd]) <;> (try (repeat' apply And.intro)) <;> first | omega | assumption))
    have hb25 := hs.1
    refine sk [2, 3, 6] hs hK11 ?_
    clear hK11
    apply awp_seq; intro K27 hK27
    rcases Bool.eq_false_or_eq_true (decide (p_r7.2.kind = 0)) with hf28 | hf28
    · replace h := ite_tt h hf28
      have hk29 : p_r7.2.kind = 0 := of_decide_eq_true hf28
      cases h
    · replace h := ite_ff h hf28
      rcases Bool.eq_false_or_eq_true (decide (p_r7.2.kind = 1)) with hf30 | hf30
      · replace h := ite_tt h hf30
        have hk31 : p_r7.2.kind = 1 := of_decide_eq_true hf30
        apply awp_draw mix 7 2 1 [2, 7] (by kernel_rfl)
        rw [evK_succ]; simp +decide only [go_sem, Nat.reduceAdd, hb13, hb16, hb19, hb22, hb25, hf28, hf30, hk31]
        have hs := And.intro hf28 hs
        have hs := And.intro hf30 hs
        have hs := And.intro hk31 hs
        (repeat' apply And.intro) <;> first | refine callK_p _ (v_rules_1_at' w0 _ _ _ p_r7.2) (hv hs) ?_ | exact cl
        rw [evK_succ]; simp +decide only [go_sem, Nat.reduceAdd, hb13, hb16, hb19, hb22, hb25, hf28, hf30, hk31]
        (repeat' with_reducible apply And.intro) <;> first | (rw [evK_succ]; simp +decide only [go_sem, Nat.reduceAdd, hb13, hb16, hb19, hb22, hb25, hf28, hf30, hk31]) | exact cl
        (repeat' apply And.intro) <;> first | refine hK27 _ _ ?_ | exact cl
        clear hK27
        refine rg [2, 7, 44] hs ?_
        refine cnd h hs (fun hs h => ?_) (fun hs h => ?_)
        · skip
          have hb33 := hs.1
          refine rg [2] hs ?_
          apply awp_ret; simp +decide only [go_sem, Nat.reduceAdd, hb13, hb16, hb19, hb22, hb25, hf28, hf30, hk31, hb33]
          have hgt := Option.some.inj h; subst hgt
          refine hKQ _ _ _ ⟨⟨B ++ [a0.cs, [.val (.int .i64 (v_rules_1_F p_r7.2))], [.val .nilFunc, .clo 122 [], .clo 124 [], .clo 125 [], .clo 127 [], .clo 130 [], .clo 131 [], .clo 132 [], .clo 133 [], .clo 134 [], .clo 135 []], [.val (.int .i64 (b3_r7 + 1))], a0.cs], rows_r7, L⟩, [p_r7.2.cs], by first | rfl | (simp only [List.append_assoc, List.append_nil, List.cons_append, List.nil_append]; done), ⟨by simp, by first | exact Nat.le_refl _ | (have := hO.len; simp; omega), rfl⟩, rfl, ⟨rfl, _, _, _, _, rows_r7, ef hs, hO.sub (List.nil_sublist _)⟩, ?_⟩
          exact .inr (round_calm hra hra0_r7 hO rfl (by have := hO.len; have := hra0_r7.len; first | exact Nat.le_refl _ | omega) (by simp only [List.append_assoc, List.cons_append, List.nil_append]) (by (simp +decide only [go_sem, Nat.reduceAdd]) <;> (try (repeat' apply And.intro)) <;> first | omega | assumption))
        have hb33 := hs.1
        refine awp_sub (keepL [] _) ?_ (sub_keepL _ _)
        apply awp_skip; simp +decide only [go_sem, Nat.reduceAdd]
        (repeat' apply And.intro) <;> first | refine hKQ _ _ _ ⟨⟨B ++ [a0.cs, [.val (.int .i64 0)], [.val .nilFunc, .clo 122 [], .clo 124 [], .clo 125 [], .clo 127 [], .clo 130 [], .clo 131 [], .clo 132 [], .clo 133 [], .clo 134 [], .clo 135 []], [.val (.int .i64 (b3_r7 + 1))], a0.cs], rows_r7, L⟩, [p_r7.2.cs], by first | rfl | (simp only [List.append_assoc, List.append_nil, List.cons_append, List.nil_append]; done), ⟨by simp, by first | exact Nat.le_refl _ | (have := hO.len; simp; omega), rfl⟩, rfl, ⟨(b3_r7 + 1), rows_r7, ef hs, hO, h⟩, ?_⟩ | exact cl
        exact .inr (round_calm hra hra0_r7 hO rfl (by have := hO.len; have := hra0_r7.len; first | exact Nat.le_refl _ | omega) (by simp only [List.append_assoc, List.cons_append, List.nil_append]) (by (simp +decide only [go_sem, Nat.reduceAdd]) <;> (try (repeat' apply And.intro)) <;> first | omega | assumption))
      · replace h := ite_ff h hf30
        rcases Bool.eq_false_or_eq_true (decide (p_r7.2.kind = 2)) with hf35 | hf35
        · replace h := ite_tt h hf35
          have hk36 : p_r7.2.kind = 2 := of_decide_eq_true hf35
          apply awp_draw mix 7 2 1 [2, 7] (by kernel_rfl)
          rw [evK_succ]; simp +decide only [go_sem, Nat.reduceAdd, hb13, hb16, hb19, hb22, hb25, hf28, hf30, hf35, hk36]
          have hs := And.intro hf28 hs
          have hs := And.intro hf30 hs
          have hs := And.intro hf35 hs
          have hs := And.intro hk36 hs
          (repeat' apply And.intro) <;> first | refine callK_p _ (v_rules_2_at' w0 _ _ _ p_r7.2) (hv hs) ?_ | exact cl
          rw [evK_succ]; simp +decide only [go_sem, Nat.reduceAdd, hb13, hb16, hb19, hb22, hb25, hf28, hf30, hf35, hk36]
          (repeat' with_reducible apply And.intro) <;> first | (rw [evK_succ]; simp +decide only [go_sem, Nat.reduceAdd, hb13, hb16, hb19, hb22, hb25, hf28, hf30, hf35, hk36]) | exact cl
          (repeat' apply And.intro) <;> first | refine hK27 _ _ ?_ | exact cl
          clear hK27
          refine rg [2, 7, 44] hs ?_
          refine cnd h hs (fun hs h => ?_) (fun hs h => ?_)
          · skip
            have hb38 := hs.1
            refine rg [2] hs ?_
            apply awp_ret; simp +decide only [go_sem, Nat.reduceAdd, hb13, hb16, hb19, hb22, hb25, hf28, hf30, hf35, hk36, hb38]
            have hgt := Option.some.inj h; subst hgt
            refine hKQ _ _ _ ⟨⟨B ++ [a0.cs, [.val (.int .i64 (v_rules_2_F p_r7.2))], [.val .nilFunc, .clo 122 [], .clo 124 [], .clo 125 [], .clo 127 [], .clo 130 [], .clo 131 [], .clo 132 [], .clo 133 [], .clo 134 [], .clo 135 []], [.val (.int .i64 (b3_r7 + 1))], a0.cs], rows_r7, L⟩, [p_r7.2.cs], by first | rfl | (simp only [List.append_assoc, List.append_nil, List.cons_append, List.nil_append]; done), ⟨by simp, by first | exact Nat.le_refl _ | (have := hO.len; simp; omega), rfl⟩, rfl, ⟨rfl, _, _, _, _, rows_r7, ef hs, hO.sub (List.nil_sublist _)⟩, ?_⟩
            exact .inr (round_calm hra hra0_r7 hO rfl (by have := hO.len; have := hra0_r7.len; first | exact Nat.le_refl _ | omega) (by simp only [List.append_assoc, List.cons_append, List.nil_append]) (by (simp +decide only [go_sem, Nat.reduceAdd]) <;> (try (repeat' apply And.intro)) <;> first | omega | assumption))
          have hb38 := hs.1
          refine awp_sub (keepL [] _) ?_ (sub_keepL _ _)
          apply awp_skip; simp +decide only [go_sem, Nat.reduceAdd]
          (repeat' apply And.intro) <;> first | refine hKQ _ _ _ ⟨⟨B ++ [a0.cs, [.val (.int .i64 0)], [.val .nilFunc, .clo 122 [], .clo 124 [], .clo 125 [], .clo 127 [], .clo 130 [], .clo 131 [], .clo 132 [], .clo 133 [], .clo 134 [], .clo 135 []], [.val (.int .i64 (b3_r7 + 1))], a0.cs], rows_r7, L⟩, [p_r7.2.cs], by first | rfl | (simp only [List.append_assoc, List.append_nil, List.cons_append, List.nil_append]; done), ⟨by simp, by first | exact Nat.le_refl _ | (have := hO.len; simp; omega), rfl⟩, rfl, ⟨(b3_r7 + 1), rows_r7, ef hs, hO, h⟩, ?_⟩ | exact cl
          exact .inr (round_calm hra hra0_r7 hO rfl (by have := hO.len; have := hra0_r7.len; first | exact Nat.le_refl _ | omega) (by simp only [List.append_assoc, List.cons_append, List.nil_append]) (by (simp +decide only [go_sem, Nat.reduceAdd]) <;> (try (repeat' apply And.intro)) <;> first | omega | assumption))
        · replace h := ite_ff h hf35
          rcases Bool.eq_false_or_eq_true (decide (p_r7.2.kind = 3)) with hf40 | hf40
          · replace h := ite_tt h hf40
            have hk41 : p_r7.2.kind = 3 := of_decide_eq_true hf40
            obtain ⟨y42, hy42, h⟩ := bind_some h
            apply awp_draw mix 7 2 1 [2, 7] (by kernel_rfl)
            rw [evK_succ]; simp +decide only [go_sem, Nat.reduceAdd, hb13, hb16, hb19, hb22, hb25, hf28, hf30, hf35, hf40, hk41]
            have hs := And.intro hf28 hs
            have hs := And.intro hf30 hs
            have hs := And.intro hf35 hs
            have hs := And.intro hf40 hs
            have hs := And.intro hk41 hs
            (repeat' apply And.intro) <;> first | refine callK_p _ (v_rules_3_at w0 n _ _ _ p_r7.2 _ hy42) (hv hs) ?_ | exact cl
            rw [evK_succ]; simp +decide only [go_sem, Nat.reduceAdd, hb13, hb16, hb19, hb22, hb25, hf28, hf30, hf35, hf40, hk41]
            (repeat' with_reducible apply And.intro) <;> first | (rw [evK_succ]; simp +decide only [go_sem, Nat.reduceAdd, hb13, hb16, hb19, hb22, hb25, hf28, hf30, hf35, hf40, hk41]) | exact cl
            (repeat' apply And.intro) <;> first | refine hK27 _ _ ?_ | exact cl
            clear hK27
            refine rg [2, 7, 44] hs ?_
            refine cnd h hs (fun hs h => ?_) (fun hs h => ?_)
            · skip
              have hb44 := hs.1
              refine rg [2] hs ?_
              apply awp_ret; simp +decide only [go_sem, Nat.reduceAdd, hb13, hb16, hb19, hb22, hb25, hf28, hf30, hf35, hf40, hk41, hb44]
              have hgt := Option.some.inj h; subst hgt
              refine hKQ _ _ _ ⟨⟨B ++ [a0.cs, [.val (.int .i64 y42)], [.val .nilFunc, .clo 122 [], .clo 124 [], .clo 125 [], .clo 127 [], .clo 130 [], .clo 131 [], .clo 132 [], .clo 133 [], .clo 134 [], .clo 135 []], [.val (.int .i64 (b3_r7 + 1))], a0.cs], rows_r7, L⟩, [p_r7.2.cs], by first | rfl | (simp only [List.append_assoc, List.append_nil, List.cons_append, List.nil_append]; done), ⟨by simp, by first | exact Nat.le_refl _ | (have := hO.len; simp; omega), rfl⟩, rfl, ⟨rfl, _, _, _, _, rows_r7, ef hs, hO.sub (List.nil_sublist _)⟩, ?_⟩
              exact .inr (round_calm hra hra0_r7 hO rfl (by have := hO.len; have := hra0_r7.len; first | exact Nat.le_refl _ | omega) (by simp only [List.append_assoc, List.cons_append, List.nil_append]) (by (simp +decide only [go_sem, Nat.reduceAdd]) <;> (try (repeat' apply And.intro)) <;> first | omega | assumption))
            have hb44 := hs.1
            refine awp_sub (keepL [] _) ?_ (sub_keepL _ _)
            apply awp_skip; simp +decide only [go_sem, Nat.reduceAdd]
            (repeat' apply And.intro) <;> first | refine hKQ _ _ _ ⟨⟨B ++ [a0.cs, [.val (.int .i64 0)], [.val .nilFunc, .clo 122 [], .clo 124 [], .clo 125 [], .clo 127 [], .clo 130 [], .clo 131 [], .clo 132 [], .clo 133 [], .clo 134 [], .clo 135 []], [.val (.int .i64 (b3_r7 + 1))], a0.cs], rows_r7, L⟩, [p_r7.2.cs], by first | rfl | (simp only [List.append_assoc, List.append_nil, List.cons_append, List.nil_append]; done), ⟨by simp, by first | exact Nat.le_refl _ | (have := hO.len; simp; omega), rfl⟩, rfl, ⟨(b3_r7 + 1), rows_r7, ef hs, hO, h⟩, ?_⟩ | exact cl
            exact .inr (round_calm hra hra0_r7 hO rfl (by have := hO.len; have := hra0_r7.len; first | exact Nat.le_refl _ | omega) (by simp only [List.append_assoc, List.cons_append, List.nil_append]) (by (simp +decide only [go_sem, Nat.reduceAdd]) <;> (try (repeat' apply And.intro)) <;> first | omega | assumption))
          · replace h := ite_ff h hf40
            rcases Bool.eq_false_or_eq_true (decide (p_r7.2.kind = 4)) with hf46 | hf46
            · replace h := ite_tt h hf46
              have hk47 : p_r7.2.kind = 4 := of_decide_eq_true hf46
              obtain ⟨y48, hy48, h⟩ := bind_some h
              apply awp_draw mix 7 2 1 [2, 7] (by kernel_rfl)
              rw [evK_succ]; simp +decide only [go_sem, Nat.reduceAdd, hb13, hb16, hb19, hb22, hb25, hf28, hf30, hf35, hf40, hf46, hk47]
              have hs := And.intro hf28 hs
              have hs := And.intro hf30 hs
              have hs := And.intro hf35 hs
              have hs := And.intro hf40 hs
              have hs := And.intro hf46 hs
              have hs := And.intro hk47 hs
              (repeat' apply And.intro) <;> first | refine callK_p _ (v_rules_4_at w0 hT _ _ _ p_r7.2 _ hy48) (hv hs) ?_ | exact cl
              rw [evK_succ]; simp +decide only [go_sem, Nat.reduceAdd, hb13, hb16, hb19, hb22, hb25, hf28, hf30, hf35, hf40, hf46, hk47]
              (repeat' with_reducible apply And.intro) <;> first | (rw [evK_succ]; simp +decide only [go_sem, Nat.reduceAdd, hb13, hb16, hb19, hb22, hb25, hf28, hf30, hf35, hf40, hf46, hk47]) | exact cl
              (repeat' apply And.intro) <;> first | refine hK27 _ _ ?_ | exact cl
              clear hK27
              refine rg [2, 7, 44] hs ?_
              refine cnd h hs (fun hs h => ?_) (fun hs h => ?_)
              · skip
                have hb50 := hs.1
                refine rg [2] hs ?_
                apply awp_ret; simp +decide only [go_sem, Nat.reduceAdd, hb13, hb16, hb19, hb22, hb25, hf28, hf30, hf35, hf40, hf46, hk47, hb50]
                have hgt := Option.some.inj h; subst hgt
                refine hKQ _ _ _ ⟨⟨B ++ [a0.cs, [.val (.int .i64 y48)], [.val .nilFunc, .clo 122 [], .clo 124 [], .clo 125 [], .clo 127 [], .clo 130 [], .clo 131 [], .clo 132 [], .clo 133 [], .clo 134 [], .clo 135 []], [.val (.int .i64 (b3_r7 + 1))], a0.cs], rows_r7, L⟩, [p_r7.2.cs], by first | rfl | (simp only [List.append_assoc, List.append_nil, List.cons_append, List.nil_append]; done), ⟨by simp, by first | exact Nat.le_refl _ | (have := hO.len; simp; omega), rfl⟩, rfl, ⟨rfl, _, _, _, _, rows_r7, ef hs, hO.sub (List.nil_sublist _)⟩, ?_⟩
                exact .inr (round_calm hra hra0_r7 hO rfl (by have := hO.len; have := hra0_r7.len; first | exact Nat.le_refl _ | omega) (by simp only [List.append_assoc, List.cons_append, List.nil_append]) (by (simp +decide only [go_sem, Nat.reduceAdd]) <;> (try (repeat' apply And.intro)) <;> first | omega | assumption))
              have hb50 := hs.1
              refine awp_sub (keepL [] _) ?_ (sub_keepL _ _)
              apply awp_skip; simp +decide only [go_sem, Nat.reduceAdd]
              (repeat' apply And.intro) <;> first | refine hKQ _ _ _ ⟨⟨B ++ [a0.cs, [.val (.int .i64 0)], [.val .nilFunc, .clo 122 [], .clo 124 [], .clo 125 [], .clo 127 [], .clo 130 [], .clo 131 [], .clo 132 [], .clo 133 [], .clo 134 [], .clo 135 []], [.val (.int .i64 (b3_r7 + 1))], a0.cs], rows_r7, L⟩, [p_r7.2.cs], by first | rfl | (simp only [List.append_assoc, List.append_nil, List.cons_append, List.nil_append]; done), ⟨by simp, by first | exact Nat.le_refl _ | (have := hO.len; simp; omega), rfl⟩, rfl, ⟨(b3_r7 + 1), rows_r7, ef hs, hO, h⟩, ?_⟩ | exact cl
              exact .inr (round_calm hra hra0_r7 hO rfl (by have := hO.len; have := hra0_r7.len; first | exact Nat.le_refl _ | omega) (by simp only [List.append_assoc, List.cons_append, List.nil_append]) (by (simp +decide only [go_sem, Nat.reduceAdd]) <;> (try (repeat' apply And.intro)) <;> first | omega | assumption))
            · replace h := ite_ff h hf46
              rcases Bool.eq_false_or_eq_true (decide (p_r7.2.kind = 5)) with hf52 | hf52
              · replace h := ite_tt h hf52
                have hk53 : p_r7.2.kind = 5 := of_decide_eq_true hf52
                apply awp_draw mix 7 2 1 [2, 7] (by kernel_rfl)
                rw [evK_succ]; simp +decide only [go_sem, Nat.reduceAdd, hb13, hb16, hb19, hb22, hb25, hf28, hf30, hf35, hf40, hf46, hf52, hk53]
                have hs := And.intro hf28 hs
                have hs := And.intro hf30 hs
                have hs := And.intro hf35 hs
                have hs := And.intro hf40 hs
                have hs := And.intro hf46 hs
                have hs := And.intro hf52 hs
                have hs := And.intro hk53 hs
                (repeat' apply And.intro) <;> first | refine callK_p _ (v_rules_5_at' w0 _ _ _ p_r7.2) (hv hs) ?_ | exact cl
                rw [evK_succ]; simp +decide only [go_sem, Nat.reduceAdd, hb13, hb16, hb19, hb22, hb25, hf28, hf30, hf35, hf40, hf46, hf52, hk53]
                (repeat' with_reducible apply And.intro) <;> first | (rw [evK_succ]; simp +decide only [go_sem, Nat.reduceAdd, hb13, hb16, hb19, hb22, hb25, hf28, hf30, hf35, hf40, hf46, hf52, hk53]) | exact cl
                (repeat' apply And.intro) <;> first | refine hK27 _ _ ?_ | exact cl
                clear hK27
                refine rg [2, 7, 44] hs ?_
                refine cnd h hs (fun hs h => ?_) (fun hs h => ?_)
                · skip
                  have hb55 := hs.1
                  refine rg [2] hs ?_
                  apply awp_ret; simp +decide only [go_sem, Nat.reduceAdd, hb13, hb16, hb19, hb22, hb25, hf28, hf30, hf35, hf40, hf46, hf52, hk53, hb55]
                  have hgt := Option.some.inj h; subst hgt
                  refine hKQ _ _ _ ⟨⟨B ++ [a0.cs, [.val (.int .i64 (v_rules_5_F p_r7.2))], [.val .nilFunc, .clo 122 [], .clo 124 [], .clo 125 [], .clo 127 [], .clo 130 [], .clo 131 [], .clo 132 [], .clo 133 [], .clo 134 [], .clo 135 []], [.val (.int .i64 (b3_r7 + 1))], a0.cs], rows_r7, L⟩, [p_r7.2.cs], by first | rfl | (simp only [List.append_assoc, List.append_nil, List.cons_append, List.nil_append]; done), ⟨by simp, by first | exact Nat.le_refl _ | (have := hO.len; simp; omega), rfl⟩, rfl, ⟨rfl, _, _, _, _, rows_r7, ef hs, hO.sub (List.nil_sublist _)⟩, ?_⟩
                  exact .inr (round_calm hra hra0_r7 hO rfl (by have := hO.len; have := hra0_r7.len; first | exact Nat.le_refl _ | omega) (by simp only [List.append_assoc, List.cons_append, List.nil_append]) (by (simp +decide only [go_sem, Nat.reduceAdd]) <;> (try (repeat' apply And.intro)) <;> first | omega | assumption))
                have hb55 := hs.1
                refine awp_sub (keepL [] _) ?_ (sub_keepL _ _)
                apply awp_skip; simp +decide only [go_sem, Nat.reduceAdd]
                (repeat' apply And.intro) <;> first | refine hKQ _ _ _ ⟨⟨B ++ [a0.cs, [.val (.int .i64 0)], [.val .nilFunc, .clo 122 [], .clo 124 [], .clo 125 [], .clo 127 [], .clo 130 [], .clo 131 [], .clo 132 [], .clo 133 [], .clo 134 [], .clo 135 []], [.val (.int .i64 (b3_r7 + 1))], a0.cs], rows_r7, L⟩, [p_r7.2.cs], by first | rfl | (simp only [List.append_assoc, List.append_nil, List.cons_append, List.nil_append]; done), ⟨by simp, by first | exact Nat.le_refl _ | (have := hO.len; simp; omega), rfl⟩, rfl, ⟨(b3_r7 + 1), rows_r7, ef hs, hO, h⟩, ?_⟩ | exact cl
                exact .inr (round_calm hra hra0_r7 hO rfl (by have := hO.len; have := hra0_r7.len; first | exact Nat.le_refl _ | omega) (by simp only [List.append_assoc, List.cons_append, List.nil_append]) (by (simp +decide only [go_sem, Nat.reduceAdd]) <;> (try (repeat' apply And.intro)) <;> first | omega | assumption))
              · replace h := ite_ff h hf52
                rcases Bool.eq_false_or_eq_true (decide (p_r7.2.kind = 6)) with hf57 | hf57
                · replace h := ite_tt h hf57
                  have hk58 : p_r7.2.kind = 6 := of_decide_eq_true hf57
                  apply awp_draw mix 7 2 1 [2, 7] (by kernel_rfl)
                  rw [evK_succ]; simp +decide only [go_sem, Nat.reduceAdd, hb13, hb16, hb19, hb22, hb25, hf28, hf30, hf35, hf40, hf46, hf52, hf57, hk58]
                  have hs := And.intro hf28 hs
                  have hs := And.intro hf30 hs
                  have hs := And.intro hf35 hs
                  have hs := And.intro hf40 hs
                  have hs := And.intro hf46 hs
                  have hs := And.intro hf52 hs
                  have hs := And.intro hf57 hs
                  have hs := And.intro hk58 hs
                  (repeat' apply And.intro) <;> first | refine callK_p _ (v_rules_6_at' w0 _ _ _ p_r7.2) (hv hs) ?_ | exact cl
                  rw [evK_succ]; simp +decide only [go_sem, Nat.reduceAdd, hb13, hb16, hb19, hb22, hb25, hf28, hf30, hf35, hf40, hf46, hf52, hf57, hk58]
                  (repeat' with_reducible apply And.intro) <;> first | (rw [evK_succ]; simp +decide only [go_sem, Nat.reduceAdd, hb13, hb16, hb19, hb22, hb25, hf28, hf30, hf35, hf40, hf46, hf52, hf57, hk58]) | exact cl
                  (repeat' apply And.intro) <;> first | refine hK27 _ _ ?_ | exact cl
                  clear hK27
                  refine rg [2, 7, 44] hs ?_
                  refine cnd h hs (fun hs h => ?_) (fun hs h => ?_)
                  · skip
                    have hb60 := hs.1
                    refine rg [2] hs ?_
                    apply awp_ret; simp +decide only [go_sem, Nat.reduceAdd, hb13, hb16, hb19, hb22, hb25, hf28, hf30, hf35, hf40, hf46, hf52, hf57, hk58, hb60]
                    have hgt := Option.some.inj h; subst hgt
                    refine hKQ _ _ _ ⟨⟨B ++ [a0.cs, [.val (.int .i64 (v_rules_6_F p_r7.2))], [.val .nilFunc, .clo 122 [], .clo 124 [], .clo 125 [], .clo 127 [], .clo 130 [], .clo 131 [], .clo 132 [], .clo 133 [], .clo 134 [], .clo 135 []], [.val (.int .i64 (b3_r7 + 1))], a0.cs], rows_r7, L⟩, [p_r7.2.cs], by first | rfl | (simp only [List.append_assoc, List.append_nil, List.cons_append, List.nil_append]; done), ⟨by simp, by first | exact Nat.le_refl _ | (have := hO.len; simp; omega), rfl⟩, rfl, ⟨rfl, _, _, _, _, rows_r7, ef hs, hO.sub (List.nil_sublist _)⟩, ?_⟩
                    exact .inr (round_calm hra hra0_r7 hO rfl (by have := hO.len; have := hra0_r7.len; first | exact Nat.le_refl _ | omega) (by simp only [List.append_assoc, List.cons_append, List.nil_append]) (by (simp +decide only [go_sem, Nat.reduceAdd]) <;> (try (repeat' apply And.intro)) <;> first | omega | assumption))
                  have hb60 := hs.1
                  refine awp_sub (keepL [] _) ?_ (sub_keepL _ _)
                  apply awp_skip; simp +decide only [go_sem, Nat.reduceAdd]
                  (repeat' apply And.intro) <;> first | refine hKQ _ _ _ ⟨⟨B ++ [a0.cs, [.val (.int .i64 0)], [.val .nilFunc, .clo 122 [], .clo 124 [], .clo 125 [], .clo 127 [], .clo 130 [], .clo 131 [], .clo 132 [], .clo 133 [], .clo 134 [], .clo 135 []], [.val (.int .i64 (b3_r7 + 1))], a0.cs], rows_r7, L⟩, [p_r7.2.cs], by first | rfl | (simp only [List.append_assoc, List.append_nil, List.cons_append, List.nil_append]; done), ⟨by simp, by first | exact Nat.le_refl _ | (have := hO.len; simp; omega), rfl⟩, rfl, ⟨(b3_r7 + 1), rows_r7, ef hs, hO, h⟩, ?_⟩ | exact cl
                  exact .inr (round_calm hra hra0_r7 hO rfl (by have := hO.len; have := hra0_r7.len; first | exact Nat.le_refl _ | omega) (by simp only [List.append_assoc, List.cons_append, List.nil_append]) (by (simp +decide only [go_sem, Nat.reduceAdd]) <;> (try (repeat' apply And.intro)) <;> first | omega | assumption))
                · replace h := ite_ff h hf57
                  rcases Bool.eq_false_or_eq_true (decide (p_r7.2.kind = 7)) with hf62 | hf62
                  · replace h := ite_tt h hf62
                    have hk63 : p_r7.2.kind = 7 := of_decide_eq_true hf62
                    apply awp_draw mix 7 2 1 [2, 7] (by kernel_rfl)
                    rw [evK_succ]; simp +decide only [go_sem, Nat.reduceAdd, hb13, hb16, hb19, hb22, hb25, hf28, hf30, hf35, hf40, hf46, hf52, hf57, hf62, hk63]
                    have hs := And.intro hf28 hs
                    have hs := And.intro hf30 hs
                    have hs := And.intro hf35 hs
                    have hs := And.intro hf40 hs
                    have hs := And.intro hf46 hs
                    have hs := And.intro hf52 hs
                    have hs := And.intro hf57 hs
                    have hs := And.intro hf62 hs
                    have hs := And.intro hk63 hs
                    (repeat' apply And.intro) <;> first | refine callK_p _ (v_rules_7_at' w0 _ _ _ p_r7.2) (hv hs) ?_ | exact cl
                    rw [evK_succ]; simp +decide only [go_sem, Nat.reduceAdd, hb13, hb16, hb19, hb22, hb25, hf28, hf30, hf35, hf40, hf46, hf52, hf57, hf62, hk63]
                    (repeat' with_reducible apply And.intro) <;> first | (rw [evK_succ]; simp +decide only [go_sem, Nat.reduceAdd, hb13, hb16, hb19, hb22, hb25, hf28, hf30, hf35, hf40, hf46, hf52, hf57, hf62, hk63]) | exact cl
                    (repeat' apply And.intro) <;> first | refine hK27 _ _ ?_ | exact cl
                    clear hK27
                    refine rg [2, 7, 44] hs ?_
                    refine cnd h hs (fun hs h => ?_) (fun hs h => ?_)
                    · skip
                      have hb65 := hs.1
                      refine rg [2] hs ?_
                      apply awp_ret; simp +decide only [go_sem, Nat.reduceAdd, hb13, hb16, hb19, hb22, hb25, hf28, hf30, hf35, hf40, hf46, hf52, hf57, hf62, hk63, hb65]
                      have hgt := Option.some.inj h; subst hgt
                      refine hKQ _ _ _ ⟨⟨B ++ [a0.cs, [.val (.int .i64 (v_rules_7_F p_r7.2))], [.val .nilFunc, .clo 122 [], .clo 124 [], .clo 125 [], .clo 127 [], .clo 130 [], .clo 131 [], .clo 132 [], .clo 133 [], .clo 134 [], .clo 135 []], [.val (.int .i64 (b3_r7 + 1))], a0.cs], rows_r7, L⟩, [p_r7.2.cs], by first | rfl | (simp only [List.append_assoc, List.append_nil, List.cons_append, List.nil_append]; done), ⟨by simp, by first | exact Nat.le_refl _ | (have := hO.len; simp; omega), rfl⟩, rfl, ⟨rfl, _, _, _, _, rows_r7, ef hs, hO.sub (List.nil_sublist _)⟩, ?_⟩
                      exact .inr (round_calm hra hra0_r7 hO rfl (by have := hO.len; have := hra0_r7.len; first | exact Nat.le_refl _ | omega) (by simp only [List.append_assoc, List.cons_append, List.nil_append]) (by (simp +decide only [go_sem, Nat.reduceAdd]) <;> (try (repeat' apply And.intro)) <;> first | omega | assumption))
                    have hb65 := hs.1
                    refine awp_sub (keepL [] _) ?_ (sub_keepL _ _)
                    apply awp_skip; simp +decide only [go_sem, Nat.reduceAdd]
                    (repeat' apply And.intro) <;> first | refine hKQ _ _ _ ⟨⟨B ++ [a0.cs, [.val (.int .i64 0)], [.val .nilFunc, .clo 122 [], .clo 124 [], .clo 125 [], .clo 127 [], .clo 130 [], .clo 131 [], .clo 132 [], .clo 133 [], .clo 134 [], .clo 135 []], [.val (.int .i64 (b3_r7 + 1))], a0.cs], rows_r7, L⟩, [p_r7.2.cs], by first | rfl | (simp only [List.append_assoc, List.append_nil, List.cons_append, List.nil_append]; done), ⟨by simp, by first | exact Nat.le_refl _ | (have := hO.len; simp; omega), rfl⟩, rfl, ⟨(b3_r7 + 1), rows_r7, ef hs, hO, h⟩, ?_⟩ | exact cl
                    exact .inr (round_calm hra hra0_r7 hO rfl (by have := hO.len; have := hra0_r7.len; first | exact Nat.le_refl _ | omega) (by simp only [List.append_assoc, List.cons_append, List.nil_append]) (by (simp +decide only [go_sem, Nat.reduceAdd]) <;> (try (repeat' apply And.intro)) <;> first | omega | assumption))
                  · replace h := ite_ff h hf62
                    rcases Bool.eq_false_or_eq_true (decide (p_r7.2.kind = 8)) with hf67 | hf67
                    · replace h := ite_tt h hf67
                      have hk68 : p_r7.2.kind = 8 := of_decide_eq_true hf67
                      apply awp_draw mix 7 2 1 [2, 7] (by kernel_rfl)
                      rw [evK_succ]; simp +decide only [go_sem, Nat.reduceAdd, hb13, hb16, hb19, hb22, hb25, hf28, hf30, hf35, hf40, hf46, hf52, hf57, hf62, hf67, hk68]
                      have hs := And.intro hf28 hs
                      have hs := And.intro hf30 hs
                      have hs := And.intro hf35 hs
                      have hs := And.intro hf40 hs
                      have hs := And.intro hf46 hs
                      have hs := And.intro hf52 hs
                      have hs := And.intro hf57 hs
                      have hs := And.intro hf62 hs
                      have hs := And.intro hf67 hs
                      have hs := And.intro hk68 hs
                      (repeat' apply And.intro) <;> first | refine callK_p _ (v_rules_8_at' w0 _ _ _ p_r7.2) (hv hs) ?_ | exact cl
                      rw [evK_succ]; simp +decide only [go_sem, Nat.reduceAdd, hb13, hb16, hb19, hb22, hb25, hf28, hf30, hf35, hf40, hf46, hf52, hf57, hf62, hf67, hk68]
                      (repeat' with_reducible apply And.intro) <;> first | (rw [evK_succ]; simp +decide only [go_sem, Nat.reduceAdd, hb13, hb16, hb19, hb22, hb25, hf28, hf30, hf35, hf40, hf46, hf52, hf57, hf62, hf67, hk68]) | exact cl
                      (repeat' apply And.intro) <;> first | refine hK27 _ _ ?_ | exact cl
                      clear hK27
                      refine rg [2, 7, 44] hs ?_
                      refine cnd h hs (fun hs h => ?_) (fun hs h => ?_)
                      · skip
                        have hb70 := hs.1
                        refine rg [2] hs ?_
                        apply awp_ret; simp +decide only [go_sem, Nat.reduceAdd, hb13, hb16, hb19, hb22, hb25, hf28, hf30, hf35, hf40, hf46, hf52, hf57, hf62, hf67, hk68, hb70]
                        have hgt := Option.some.inj h; subst hgt
                        refine hKQ _ _ _ ⟨⟨B ++ [a0.cs, [.val (.int .i64 (v_rules_8_F p_r7.2))], [.val .nilFunc, .clo 122 [], .clo 124 [], .clo 125 [], .clo 127 [], .clo 130 [], .clo 131 [], .clo 132 [], .clo 133 [], .clo 134 [], .clo 135 []], [.val (.int .i64 (b3_r7 + 1))], a0.cs], rows_r7, L⟩, [p_r7.2.cs], by first | rfl | (simp only [List.append_assoc, List.append_nil, List.cons_append, List.nil_append]; done), ⟨by simp, by first | exact Nat.le_refl _ | (have := hO.len; simp; omega), rfl⟩, rfl, ⟨rfl, _, _, _, _, rows_r7, ef hs, hO.sub (List.nil_sublist _)⟩, ?_⟩
                        exact .inr (round_calm hra hra0_r7 hO rfl (by have := hO.len; have := hra0_r7.len; first | exact Nat.le_refl _ | omega) (by simp only [List.append_assoc, List.cons_append, List.nil_append]) (by (simp +decide only [go_sem, Nat.reduceAdd]) <;> (try (repeat' apply And.intro)) <;> first | omega | assumption))
                      have hb70 := hs.1
                      refine awp_sub (keepL [] _) ?_ (sub_keepL _ _)
                      apply awp_skip; simp +decide only [go_sem, Nat.reduceAdd]
                      (repeat' apply And.intro) <;> first | refine hKQ _ _ _ ⟨⟨B ++ [a0.cs, [.val (.int .i64 0)], [.val .nilFunc, .clo 122 [], .clo 124 [], .clo 125 [], .clo 127 [], .clo 130 [], .clo 131 [], .clo 132 [], .clo 133 [], .clo 134 [], .clo 135 []], [.val (.int .i64 (b3_r7 + 1))], a0.cs], rows_r7, L⟩, [p_r7.2.cs], by first | rfl | (simp only [List.append_assoc, List.append_nil, List.cons_append, List.nil_append]; done), ⟨by simp, by first | exact Nat.le_refl _ | (have := hO.len; simp; omega), rfl⟩, rfl, ⟨(b3_r7 + 1), rows_r7, ef hs, hO, h⟩, ?_⟩ | exact cl
                      exact .inr (round_calm hra hra0_r7 hO rfl (by have := hO.len; have := hra0_r7.len; first | exact Nat.le_refl _ | omega) (by simp only [List.append_assoc, List.cons_append, List.nil_append]) (by (simp +decide only [go_sem, Nat.reduceAdd]) <;> (try (repeat' apply And.intro)) <;> first | omega | assumption))
                    · replace h := ite_ff h hf67
                      rcases Bool.eq_false_or_eq_true (decide (p_r7.2.kind = 9)) with hf72 | hf72
                      · replace h := ite_tt h hf72
                        have hk73 : p_r7.2.kind = 9 := of_decide_eq_true hf72
                        obtain ⟨y74, hy74, h⟩ := bind_some h
                        apply awp_draw mix 7 2 1 [2, 7] (by kernel_rfl)
                        rw [evK_succ]; simp +decide only [go_sem, Nat.reduceAdd, hb13, hb16, hb19, hb22, hb25, hf28, hf30, hf35, hf40, hf46, hf52, hf57, hf62, hf67, hf72, hk73]
                        have hs := And.intro hf28 hs
                        have hs := And.intro hf30 hs
                        have hs := And.intro hf35 hs
                        have hs := And.intro hf40 hs
                        have hs := And.intro hf46 hs
                        have hs := And.intro hf52 hs
                        have hs := And.intro hf57 hs
                        have hs := And.intro hf62 hs
                        have hs := And.intro hf67 hs
                        have hs := And.intro hf72 hs
                        have hs := And.intro hk73 hs
                        (repeat' apply And.intro) <;> first | refine callK_p _ (v_rules_9_at w0 n _ _ _ p_r7.2 _ hy74) (hv hs) ?_ | exact cl
                        rw [evK_succ]; simp +decide only [go_sem, Nat.reduceAdd, hb13, hb16, hb19, hb22, hb25, hf28, hf30, hf35, hf40, hf46, hf52, hf57, hf62, hf67, hf72, hk73]
                        (repeat' with_reducible apply And.intro) <;> first | (rw [evK_succ]; simp +decide only [go_sem, Nat.reduceAdd, hb13, hb16, hb19, hb22, hb25, hf28, hf30, hf35, hf40, hf46, hf52, hf57, hf62, hf67, hf72, hk73]) | exact cl
                        (repeat' apply And.intro) <;> first | refine hK27 _ _ ?_ | exact cl
                        clear hK27
                        refine rg [2, 7, 44] hs ?_
                        refine cnd h hs (fun hs h => ?_) (fun hs h => ?_)
                        · skip
                          have hb76 := hs.1
                          refine rg [2] hs ?_
                          apply awp_ret; simp +decide only [go_sem, Nat.reduceAdd, hb13, hb16, hb19, hb22, hb25, hf28, hf30, hf35, hf40, hf46, hf52, hf57, hf62, hf67, hf72, hk73, hb76]
                          have hgt := Option.some.inj h; subst hgt
                          refine hKQ _ _ _ ⟨⟨B ++ [a0.cs, [.val (.int .i64 y74)], [.val .nilFunc, .clo 122 [], .clo 124 [], .clo 125 [], .clo 127 [], .clo 130 [], .clo 131 [], .clo 132 [], .clo 133 [], .clo 134 [], .clo 135 []], [.val (.int .i64 (b3_r7 + 1))], a0.cs], rows_r7, L⟩, [p_r7.2.cs], by first | rfl | (simp only [List.append_assoc, List.append_nil, List.cons_append, List.nil_append]; done), ⟨by simp, by first | exact Nat.le_refl _ | (have := hO.len; simp; omega), rfl⟩, rfl, ⟨rfl, _, _, _, _, rows_r7, ef hs, hO.sub (List.nil_sublist _)⟩, ?_⟩
                          exact .inr (round_calm hra hra0_r7 hO rfl (by have := hO.len; have := hra0_r7.len; first | exact Nat.le_refl _ | omega) (by simp only [List.append_assoc, List.cons_append, List.nil_append]) (by (simp +decide only [go_sem, Nat.reduceAdd]) <;> (try (repeat' apply And.intro)) <;> first | omega | assumption))
                        have hb76 := hs.1
                        refine awp_sub (keepL [] _) ?_ (sub_keepL _ _)
                        apply awp_skip; simp +decide only [go_sem, Nat.reduceAdd]
                        (repeat' apply And.intro) <;> first | refine hKQ _ _ _ ⟨⟨B ++ [a0.cs, [.val (.int .i64 0)], [.val .nilFunc, .clo 122 [], .clo 124 [], .clo 125 [], .clo 127 [], .clo 130 [], .clo 131 [], .clo 132 [], .clo 133 [], .clo 134 [], .clo 135 []], [.val (.int .i64 (b3_r7 + 1))], a0.cs], rows_r7, L⟩, [p_r7.2.cs], by first | rfl | (simp only [List.append_assoc, List.append_nil, List.cons_append, List.nil_append]; done), ⟨by simp, by first | exact Nat.le_refl _ | (have := hO.len; simp; omega), rfl⟩, rfl, ⟨(b3_r7 + 1), rows_r7, ef hs, hO, h⟩, ?_⟩ | exact cl
                        exact .inr (round_calm hra hra0_r7 hO rfl (by have := hO.len; have := hra0_r7.len; first | exact Nat.le_refl _ | omega) (by simp only [List.append_assoc, List.cons_append, List.nil_append]) (by (simp +decide only [go_sem, Nat.reduceAdd]) <;> (try (repeat' apply And.intro)) <;> first | omega | assumption))
                      · replace h := ite_ff h hf72
                        rcases Bool.eq_false_or_eq_true (decide (p_r7.2.kind = 10)) with hf78 | hf78
                        · replace h := ite_tt h hf78
                          have hk79 : p_r7.2.kind = 10 := of_decide_eq_true hf78
                          obtain ⟨y80, hy80, h⟩ := bind_some h
                          apply awp_draw mix 7 2 1 [2, 7] (by kernel_rfl)
                          rw [evK_succ]; simp +decide only [go_sem, Nat.reduceAdd, hb13, hb16, hb19, hb22, hb25, hf28, hf30, hf35, hf40, hf46, hf52, hf57, hf62, hf67, hf72, hf78, hk79]
                          have hs := And.intro hf28 hs
                          have hs := And.intro hf30 hs
                          have hs := And.intro hf35 hs
                          have hs := And.intro hf40 hs
                          have hs := And.intro hf46 hs
                          have hs := And.intro hf52 hs
                          have hs := And.intro hf57 hs
                          have hs := And.intro hf62 hs
                          have hs := And.intro hf67 hs
                          have hs := And.intro hf72 hs
                          have hs := And.intro hf78 hs
                          have hs := And.intro hk79 hs
                          (repeat' apply And.intro) <;> first | refine callK_p _ (v_rules_10_at w0 _ _ _ p_r7.2 _ hy80) (hv hs) ?_ | exact cl
                          rw [evK_succ]; simp +decide only [go_sem, Nat.reduceAdd, hb13, hb16, hb19, hb22, hb25, hf28, hf30, hf35, hf40, hf46, hf52, hf57, hf62, hf67, hf72, hf78, hk79]
                          (repeat' with_reducible apply And.intro) <;> first | (rw [evK_succ]; simp +decide only [go_sem, Nat.reduceAdd, hb13, hb16, hb19, hb22, hb25, hf28, hf30, hf35, hf40, hf46, hf52, hf57, hf62, hf67, hf72, hf78, hk79]) | exact cl
                          (repeat' apply And.intro) <;> first | refine hK27 _ _ ?_ | exact cl
                          clear hK27
                          refine rg [2, 7, 44] hs ?_
                          refine cnd h hs (fun hs h => ?_) (fun hs h => ?_)
                          · skip
                            have hb82 := hs.1
                            refine rg [2] hs ?_
                            apply awp_ret; simp +decide only [go_sem, Nat.reduceAdd, hb13, hb16, hb19, hb22, hb25, hf28, hf30, hf35, hf40, hf46, hf52, hf57, hf62, hf67, hf72, hf78, hk79, hb82]
                            have hgt := Option.some.inj h; subst hgt
                            refine hKQ _ _ _ ⟨⟨B ++ [a0.cs, [.val (.int .i64 y80)], [.val .nilFunc, .clo 122 [], .clo 124 [], .clo 125 [], .clo 127 [], .clo 130 [], .clo 131 [], .clo 132 [], .clo 133 [], .clo 134 [], .clo 135 []], [.val (.int .i64 (b3_r7 + 1))], a0.cs], rows_r7, L⟩, [p_r7.2.cs], by first | rfl | (simp only [List.append_assoc, List.append_nil, List.cons_append, List.nil_append]; done), ⟨by simp, by first | exact Nat.le_refl _ | (have := hO.len; simp; omega), rfl⟩, rfl, ⟨rfl, _, _, _, _, rows_r7, ef hs, hO.sub (List.nil_sublist _)⟩, ?_⟩
                            exact .inr (round_calm hra hra0_r7 hO rfl (by have := hO.len; have := hra0_r7.len; first | exact Nat.le_refl _ | omega) (by simp only [List.append_assoc, List.cons_append, List.nil_append]) (by (simp +decide only [go_sem, Nat.reduceAdd]) <;> (try (repeat' apply And.intro)) <;> first | omega | assumption))
                          have hb82 := hs.1
                          refine awp_sub (keepL [] _) ?_ (sub_keepL _ _)
                          apply awp_skip; simp +decide only [go_sem, Nat.reduceAdd]
                          (repeat' apply And.intro) <;> first | refine hKQ _ _ _ ⟨⟨B ++ [a0.cs, [.val (.int .i64 0)], [.val .nilFunc, .clo 122 [], .clo 124 [], .clo 125 [], .clo 127 [], .clo 130 [], .clo 131 [], .clo 132 [], .clo 133 [], .clo 134 [], .clo 135 []], [.val (.int .i64 (b3_r7 + 1))], a0.cs], rows_r7, L⟩, [p_r7.2.cs], by first | rfl | (simp only [List.append_assoc, List.append_nil, List.cons_append, List.nil_append]; done), ⟨by simp, by first | exact Nat.le_refl _ | (have := hO.len; simp; omega), rfl⟩, rfl, ⟨(b3_r7 + 1), rows_r7, ef hs, hO, h⟩, ?_⟩ | exact cl
                          exact .inr (round_calm hra hra0_r7 hO rfl (by have := hO.len; have := hra0_r7.len; first | exact Nat.le_refl _ | omega) (by simp only [List.append_assoc, List.cons_append, List.nil_append]) (by (simp +decide only [go_sem, Nat.reduceAdd]) <;> (try (repeat' apply And.intro)) <;> first | omega | assumption))
                        · replace h := ite_ff h hf78
                          cases h
  · rintro s la ⟨XB, XR, XL⟩ hXR ⟨b3_r7, rows_r7, rfl, hO, h⟩ _ _
    simp only at hXR
    subst hXR
    rw [List.drop_eq_nil_of_le (by rw [itemsV_length]; exact Nat.le_refl _), v_Check_r7] at h
    simp only [St.ext, St.push, List.append_assoc, List.append_nil]
    (repeat' apply And.intro) <;> first | refine hK4 _ _ ?_ | exact cl
    clear hK4
    refine awp_tidyL (bs := [a0.cs, [.val (.int .i64 0)], [.val .nilFunc, .clo 122 [], .clo 124 [], .clo 125 [], .clo 127 [], .clo 130 [], .clo 131 [], .clo 132 [], .clo 133 [], .clo 134 [], .clo 135 []], [.val (.int .i64 b3_r7)], a0.cs]) hN hNR hNL rfl hcalm hO (by (simp +decide only [go_sem, Nat.reduceAdd]) <;> (try (repeat' apply And.intro)) <;> first | omega | assumption) (by (simp +decide only [go_sem, Nat.reduceAdd, calmE]) <;> (try (repeat' apply And.intro)) <;> first | omega | assumption) ?_
    refine rg [2] hs ?_
    exact rt h hs hcalm hO
  · rintro ex s la ⟨XB, XR, XL⟩ hXR ⟨rfl, z0, z2, z3, z4, rows, rfl, hO⟩ _ _
    simp only at hXR
    subst hXR
    simp only [St.ext, St.push, List.append_assoc, List.append_nil]
    simp +decide only [go_sem, Nat.reduceAdd]
    (repeat' with_reducible apply And.intro) <;> first | refine fin_r hcalm rfl hO.pre ev ⟨?_, rfl⟩ | (intros; omega) | (intros; simp_all; done)
    first | rfl | (simp +decide only [go_sem, Nat.reduceAdd]; done)
end Go.Proofs.YtggimoedcamonaaGreatDoor
namespace Go.Proofs.YtggimoedcamonaaGreatDoor
open Go Go.RowKit Go.Ev
set_option linter.unusedVariables false
set_option linter.unusedSimpArgs false
theorem int_pred {j : Nat} : ((j + 1 : Nat) : Int) - 1 = (j : Int) := by omega
theorem pos_int {j : Nat} : decide (0 < ((j + 1 : Nat) : Int)) = true := decide_eq_true (by omega)
theorem I64_nat {k : Nat} (h : k < 1000000000000) : I64 (k : Int) := by unfold I64; omega
def fErr : Option ByteArray → List ByteArray → Int
  | _, [] => 0
  | none, x :: r => if nameB x = true then fErr (some x) r else 12
  | some p, x :: r => if nameB x = true then (if sEq x p = true then 7 else if sLt x p = true then 24 else fErr (some x) r) else 12
def prvN (l : List (ByteArray × Vl)) : Nat → Option ByteArray
  | 0 => none
  | i + 1 => (l[i]?).map Prod.fst
theorem r4f_l10 (n : Nat) (l : List (ByteArray × Vl)) (hl : (l).length ≤ 1000000000) (hz : ∀ p ∈ l, p.1.size ≤ maxLen) : ∀ (k m i : Nat), i + k = (l).length → k < m → r4_fields_l10 n l m i = some (fErr (prvN (l) i) (((l).map Prod.fst).drop i))
  | k, 0, i, _, h => absurd h (Nat.not_lt_zero _)
  | 0, m + 1, i, hi, _ => by
    rw [r4_fields_l10, lt_int, decide_eq_false (by omega)]
    simp only [Bool.false_eq_true, if_false, r4_fields_k7]
    rw [List.drop_eq_nil_of_le (by rw [List.length_map]; omega)]
    cases prvN (l) i <;> rfl
  | k + 1, m + 1, i, hi, hm => by
    have hlt : i < (l).length := by omega
    have ih := r4f_l10 n l hl hz k m (i + 1) (by omega) (by omega)
    rw [r4_fields_l10, lt_int, decide_eq_true hlt]
    simp only [if_true, idx_nat hlt, Option.bind_some]
    rw [if_pos (hz _ (List.getElem_mem hlt)), List.drop_eq_getElem_cons (by rw [List.length_map]; omega), List.getElem_map]
    have hp : prvN (l) (i + 1) = some (l)[i].1 := by simp only [prvN, List.getElem?_eq_getElem hlt]; rfl
    rw [hp] at ih
    cases i with
    | zero =>
      simp only [prvN, fErr]
      by_cases hb : nameB (l)[0].1 = true
      · rw [if_pos hb, hb]
        simp only [Bool.not_true, Bool.false_eq_true, if_false]
        rw [if_neg (by decide), if_pos (I64_succ (by omega))]
        exact ih
      · rw [if_neg hb, Bool.eq_false_iff.2 hb]; rfl
    | succ j =>
      have hj : j < (l).length := by omega
      have hq : prvN (l) (j + 1) = some (l)[j].1 := by simp only [prvN, List.getElem?_eq_getElem hj]; rfl
      rw [hq]
      simp only [fErr]
      by_cases hb : nameB (l)[j + 1].1 = true
      · rw [if_pos hb, hb]
        simp only [Bool.not_true, Bool.false_eq_true, if_false, pos_int, if_true, int_pred]
        have hI : I64 (j : Int) := I64_nat (by omega)
        simp only [if_pos hI, idx_nat hj, Option.bind_some]
        by_cases h1 : sEq (l)[j + 1].1 (l)[j].1 = true
        · rw [if_pos h1, if_pos h1]
        · rw [if_neg h1, if_neg h1]
          by_cases h2 : sLt (l)[j + 1].1 (l)[j].1 = true
          · rw [if_pos h2, if_pos h2]
          · rw [if_neg h2, if_neg h2, if_pos (I64_succ (by omega))]
            exact ih
      · rw [if_neg hb, Bool.eq_false_iff.2 hb]; rfl
theorem vr9_l11 (n : Nat) (v : Vl) (hl : (v.fields).length ≤ 1000000000) (hz : ∀ p ∈ v.fields, p.1.size ≤ maxLen) : ∀ (k m i : Nat), i + k = (v.fields).length → k < m → v_rules_9_l11 n v m i = some (fErr (prvN (v.fields) i) (((v.fields).map Prod.fst).drop i))
  | k, 0, i, _, h => absurd h (Nat.not_lt_zero _)
  | 0, m + 1, i, hi, _ => by
    rw [v_rules_9_l11, lt_int, decide_eq_false (by omega)]
    simp only [Bool.false_eq_true, if_false, v_rules_9_k8]
    rw [List.drop_eq_nil_of_le (by rw [List.length_map]; omega)]
    cases prvN (v.fields) i <;> rfl
  | k + 1, m + 1, i, hi, hm => by
    have hlt : i < (v.fields).length := by omega
    have ih := vr9_l11 n v hl hz k m (i + 1) (by omega) (by omega)
    rw [v_rules_9_l11, lt_int, decide_eq_true hlt]
    simp only [if_true, idx_nat hlt, Option.bind_some]
    rw [if_pos (hz _ (List.getElem_mem hlt)), List.drop_eq_getElem_cons (by rw [List.length_map]; omega), List.getElem_map]
    have hp : prvN (v.fields) (i + 1) = some (v.fields)[i].1 := by simp only [prvN, List.getElem?_eq_getElem hlt]; rfl
    rw [hp] at ih
    cases i with
    | zero =>
      simp only [prvN, fErr]
      by_cases hb : nameB (v.fields)[0].1 = true
      · rw [if_pos hb, hb]
        simp only [Bool.not_true, Bool.false_eq_true, if_false]
        rw [if_neg (by decide), if_pos (I64_succ (by omega))]
        exact ih
      · rw [if_neg hb, Bool.eq_false_iff.2 hb]; rfl
    | succ j =>
      have hj : j < (v.fields).length := by omega
      have hq : prvN (v.fields) (j + 1) = some (v.fields)[j].1 := by simp only [prvN, List.getElem?_eq_getElem hj]; rfl
      rw [hq]
      simp only [fErr]
      by_cases hb : nameB (v.fields)[j + 1].1 = true
      · rw [if_pos hb, hb]
        simp only [Bool.not_true, Bool.false_eq_true, if_false, pos_int, if_true, int_pred]
        have hI : I64 (j : Int) := I64_nat (by omega)
        simp only [if_pos hI, idx_nat hj, Option.bind_some]
        by_cases h1 : sEq (v.fields)[j + 1].1 (v.fields)[j].1 = true
        · rw [if_pos h1, if_pos h1]
        · rw [if_neg h1, if_neg h1]
          by_cases h2 : sLt (v.fields)[j + 1].1 (v.fields)[j].1 = true
          · rw [if_pos h2, if_pos h2]
          · rw [if_neg h2, if_neg h2, if_pos (I64_succ (by omega))]
            exact ih
      · rw [if_neg hb, Bool.eq_false_iff.2 hb]; rfl
def vOwn (v : Vl) : Int :=
  if v_IsNull_F v = true then 19
  else if v.kind < 1 ∨ 10 < v.kind then 11
  else if r4_unused_F v = true then 3
  else if v.kind = 1 then (if r4_outside_F v.int 0 1 = true then 2 else 0)
  else if v.kind = 2 then (if r4_outside_F v.int (-999999999999999) 999999999999999 = true ∨ r4_outside_F v.scale 0 12 = true then 2 else 0)
  else if v.kind = 3 then (if r4_outside_F v.int (-999999999999999) 999999999999999 = true ∨ r4_outside_F v.scale 0 12 = true then 2 else 0)
  else if v.kind = 4 then (if 1024 < v.text.size then 5 else if Lib.validD v.text.data.toList = true then 0 else 16)
  else if v.kind = 5 then (if 1024 < v.text.size then 5 else 0)
  else if v.kind = 6 then (if r4_outside_F v.int (-719162) 2932896 = true then 2 else 0)
  else if v.kind = 7 then (if r4_outside_F v.int (-62135596800000) 253402300799999 = true then 2 else 0)
  else if v.kind = 8 then (if 256 < v.list.length then 9 else 0)
  else if v.kind = 9 then (if 64 < v.fields.length then 9 else fErr none (v.fields.map Prod.fst))
  else if nameB v.text = true then (if v.list.length = 0 then 4 else if 1 < v.list.length then 3 else 0) else 12
theorem kind_cases {k : Int} (h : ¬ (k < 1 ∨ 10 < k)) : k = 1 ∨ k = 2 ∨ k = 3 ∨ k = 4 ∨ k = 5 ∨ k = 6 ∨ k = 7 ∨ k = 8 ∨ k = 9 ∨ k = 10 := by omega
theorem r4Own_eq (n : Nat) (v : Vl) (hn : v.fields.length < n) (hs : v.fields.length ≤ 1000000000) (hv : v.ok) : r4_Own_F n v = some (vOwn v) := by
  obtain ⟨o1, _, o3⟩ := v.ok_eq.1 hv
  have hz : ∀ p ∈ v.fields, p.1.size ≤ maxLen := fun p hp => sz_max (by have := (o3 p hp).1; omega)
  have hf : r4_fields_F n v.fields = some (if 64 < v.fields.length then 9 else fErr none (v.fields.map Prod.fst)) := by
    rw [r4_fields_F]
    by_cases h : 64 < v.fields.length
    · rw [if_pos h, if_pos (decide_eq_true (by omega))]
    · rw [if_neg h, if_neg (by rw [decide_eq_true_eq]; omega)]
      exact r4f_l10 n v.fields hs hz v.fields.length n 0 (by omega) hn
  have ht : v.text.size ≤ maxLen := sz_max o1
  rw [r4_Own_F, vOwn, show r4_Null_F v = v_IsNull_F v from rfl]
  by_cases h1 : v_IsNull_F v = true
  · rw [if_pos h1, if_pos h1]
  rw [if_neg h1, if_neg h1]
  by_cases h2 : v.kind < 1 ∨ 10 < v.kind
  · rw [if_pos h2, if_pos (by simpa using h2)]
  rw [if_neg h2, if_neg (by simpa using h2)]
  by_cases h3 : r4_unused_F v = true
  · rw [if_pos h3, if_pos h3]
  rw [if_neg h3, if_neg h3]
  rcases kind_cases h2 with hk | hk | hk | hk | hk | hk | hk | hk | hk | hk <;>
    simp only [hk, r4_Own_k22, r4_Own_k31, r4_Own_k13, hf, ht, if_true, Option.bind_some] <;> simp
  all_goals (repeat' split) <;> first | rfl | (exfalso; omega) | simp_all
theorem uses_eq (v : Vl) (h : ¬ (v.kind < 1 ∨ 10 < v.kind)) : v_uses_F v = !r4_unused_F v := by
  have hp : ∀ x : Nat, decide (0 < (x : Int)) = !decide ((x : Int) = 0) := fun x => by
    by_cases h : x = 0
    · subst h; rfl
    · rw [decide_eq_true (show 0 < (x : Int) by omega), decide_eq_false (show ¬ (x : Int) = 0 by omega)]; rfl
  rw [v_uses_F, r4_unused_F]
  simp only [hp]
  rcases kind_cases h with hk | hk | hk | hk | hk | hk | hk | hk | hk | hk <;> simp only [hk] <;> simp [Bool.and_assoc]
theorem first2 (n : Nat) (hn : 3 ≤ n) (a b : Int) : v_first_F n [a, b] = some (if a = 0 then b else a) := by
  obtain ⟨m, rfl⟩ : ∃ m, n = m + 3 := ⟨n - 3, by omega⟩
  rw [v_first_F, v_first_l6]
  simp only [List.length_cons, List.length_nil]
  rw [if_pos (by simp), show idx [a, b] 0 = some a from rfl]
  simp only [Option.bind_some]
  by_cases h : a = 0
  · rw [decide_eq_true h, if_neg (by decide), if_pos (by decide), if_pos h, v_first_l6]
    simp only [List.length_cons, List.length_nil]
    rw [if_pos (by simp), show idx [a, b] (0 + 1) = some b from rfl]
    simp only [Option.bind_some]
    by_cases h2 : b = 0
    · rw [decide_eq_true h2, if_neg (by decide), if_pos (by decide), v_first_l6]
      simp only [List.length_cons, List.length_nil]
      rw [if_neg (by simp), v_first_k3, h2]
    · rw [decide_eq_false h2, if_pos (by decide)]
  · rw [decide_eq_false h, if_pos (by decide), if_neg h]
theorem rules_eq (n : Nat) (hn : 3 ≤ n) (v : Vl) (hfl : v.fields.length < n) (hs : v.fields.length ≤ 1000000000) (hv : v.ok) (h1 : ¬ v_IsNull_F v = true) (h2 : ¬ (v.kind < 1 ∨ 10 < v.kind)) (h3 : ¬ r4_unused_F v = true) :
    (v.kind = 1 → v_rules_1_F v = vOwn v) ∧ (v.kind = 2 → v_rules_2_F v = vOwn v) ∧ (v.kind = 3 → v_rules_3_F n v = some (vOwn v)) ∧ (v.kind = 4 → v_rules_4_F v = some (vOwn v)) ∧ (v.kind = 5 → v_rules_5_F v = vOwn v) ∧
    (v.kind = 6 → v_rules_6_F v = vOwn v) ∧ (v.kind = 7 → v_rules_7_F v = vOwn v) ∧ (v.kind = 8 → v_rules_8_F v = vOwn v) ∧ (v.kind = 9 → v_rules_9_F n v = some (vOwn v)) ∧ (v.kind = 10 → v_rules_10_F v = some (vOwn v)) := by
  obtain ⟨o1, _, o3⟩ := v.ok_eq.1 hv
  have hz : ∀ p ∈ v.fields, p.1.size ≤ maxLen := fun p hp => sz_max (by have := (o3 p hp).1; omega)
  have ht : v.text.size ≤ maxLen := sz_max o1
  rw [vOwn, if_neg h1, if_neg h2, if_neg h3]
  refine ⟨fun hk => ?_, fun hk => ?_, fun hk => ?_, fun hk => ?_, fun hk => ?_, fun hk => ?_, fun hk => ?_, fun hk => ?_, fun hk => ?_, fun hk => ?_⟩
  · simp [hk, v_rules_1_F, v_between_F, r4_outside_F]
  · have hsc : v.scale = 0 := by
      rw [r4_unused_F] at h3
      simp [hk] at h3
      exact h3.1.1.1
    simp [hk, hsc, v_rules_2_F, v_between_F, r4_outside_F]
  · rw [v_rules_3_F, first2 n hn]
    simp [hk, v_between_F, r4_outside_F]
    by_cases q : v.int < -999999999999999 ∨ 999999999999999 < v.int
    · simp [q]; omega
    · simp [q]; omega
  · rw [v_rules_4_F]
    simp only [hk, v_size_F, v_rules_4_k4, if_pos ht]
    simp
    (repeat' split) <;> first | rfl | (exfalso; omega) | simp_all
  · simp [hk, v_rules_5_F, v_size_F]
    (repeat' split) <;> first | rfl | (exfalso; omega) | simp_all
  · simp [hk, v_rules_6_F, v_between_F, r4_outside_F]
  · simp [hk, v_rules_7_F, v_between_F, r4_outside_F]
  · simp [hk, v_rules_8_F, v_size_F]
    (repeat' split) <;> first | rfl | (exfalso; omega) | simp_all
  · rw [v_rules_9_F]
    by_cases h : 64 < v.fields.length
    · simp [hk, v_size_F, h, show (64 : Int) < (v.fields.length : Int) by omega]
    · have e := vr9_l11 n v hs hz v.fields.length n 0 (by omega) hfl
      simp only [List.drop_zero] at e
      simp only [hk, v_size_F, decide_eq_false (show ¬ (64 : Int) < (v.fields.length : Int) by omega), Bool.false_eq_true, if_false, decide_true, Bool.not_true, if_neg h]
      exact e
  · rw [v_rules_10_F, if_pos ht]
    simp only [hk, v_size_F]
    simp
    (repeat' split) <;> first | rfl | (exfalso; omega) | simp_all
theorem r7_step (n : Nat) (hn : 3 ≤ n) (lv : Nat) (v : Vl) (rest : List (Nat × Vl)) (c : Int) (hfl : v.fields.length < n) (hs : v.fields.length ≤ 1000000000) (hv : v.ok) :
    v_Check_r7 n ((lv, v) :: rest) c = if I64 (c + 1) then (if 4096 < c + 1 then some 9 else if 8 < (lv : Int) then some 23 else if vOwn v = 0 then v_Check_r7 n rest (c + 1) else some (vOwn v)) else none := by
  rw [v_Check_r7]
  by_cases hI : I64 (c + 1)
  rotate_left
  · rw [if_neg hI, if_neg hI]
  rw [if_pos hI, if_pos hI]
  by_cases q1 : 4096 < c + 1
  · rw [if_pos q1, if_pos (decide_eq_true q1)]
  rw [if_neg q1, if_neg (by simpa using q1)]
  by_cases q2 : 8 < (lv : Int)
  · rw [if_pos q2, if_pos (decide_eq_true q2)]
  rw [if_neg q2, if_neg (by simpa using q2)]
  simp only
  by_cases h1 : v_IsNull_F v = true
  · have : vOwn v = 19 := by rw [vOwn, if_pos h1]
    rw [if_pos h1, this]; rfl
  rw [if_neg h1]
  by_cases h2 : v.kind < 1 ∨ 10 < v.kind
  · have : vOwn v = 11 := by rw [vOwn, if_neg h1, if_pos h2]
    rw [if_pos (by simpa using h2), this]; rfl
  rw [if_neg (by simpa using h2), uses_eq v h2]
  by_cases h3 : r4_unused_F v = true
  · have : vOwn v = 3 := by rw [vOwn, if_neg h1, if_neg h2, if_pos h3]
    rw [h3, this]; rfl
  rw [Bool.eq_false_iff.2 h3]
  obtain ⟨r1, r2, r3, r4, r5, r6, r7, r8, r9, r10⟩ := rules_eq n hn v hfl hs hv h1 h2 h3
  rcases kind_cases h2 with hk | hk | hk | hk | hk | hk | hk | hk | hk | hk
  · have e := r1 hk; by_cases z : vOwn v = 0 <;> simp [hk, e, z]
  · have e := r2 hk; by_cases z : vOwn v = 0 <;> simp [hk, e, z]
  · have e := r3 hk; by_cases z : vOwn v = 0 <;> simp [hk, e, z]
  · have e := r4 hk; by_cases z : vOwn v = 0 <;> simp [hk, e, z]
  · have e := r5 hk; by_cases z : vOwn v = 0 <;> simp [hk, e, z]
  · have e := r6 hk; by_cases z : vOwn v = 0 <;> simp [hk, e, z]
  · have e := r7 hk; by_cases z : vOwn v = 0 <;> simp [hk, e, z]
  · have e := r8 hk; by_cases z : vOwn v = 0 <;> simp [hk, e, z]
  · have e := r9 hk; by_cases z : vOwn v = 0 <;> simp [hk, e, z]
  · have e := r10 hk; by_cases z : vOwn v = 0 <;> simp [hk, e, z]
end Go.Proofs.YtggimoedcamonaaGreatDoor
