/-
  Part 4 of the proof: rules and walks that the claim's last text uses.
-/
import Derived.Carry
import Derived.ChangeOld
import Derived.ChangeSlices
import Derived.Deep.DeepHandedRow
import Derived.Deep.DeepWitnessRowRef
import Derived.Lib.LaidIn
import Derived.Lib.LaidU8T
import Derived.PinnedBridge
import Derived.ProofKit
import Derived.SevenTiedAt
import Derived.SizedLaws
import Derived.Test.YtggimoedcamonaaGreatDoorCards
import Derived.Test.YtggimoedcamonaaGreatDoorTie
import Derived.Test.YtggimoedcamonaaGreatDoorSu3
set_option linter.unusedSimpArgs false
set_option linter.unusedVariables false
set_option maxRecDepth 100000
set_option maxHeartbeats 4000000
namespace Go.Proofs.YtggimoedcamonaaGreatDoor
open Go Go.RowKit Go.Ev
def s_cloneField_k8 (rec : Ty → Option Ty) (n : Nat) (a0 : Int × ByteArray × Int × Ty × List Vl) (y3 : Ty) (x3_k8 : List Vl) : Option ((Int × ByteArray × Int × Ty × List Vl)) :=
 some ((a0.1, a0.2.1, a0.2.2.1, y3, x3_k8))
def s_cloneField_l11 (rec : Ty → Option Ty) (n : Nat) (a0 : Int × ByteArray × Int × Ty × List Vl) (y3 : Ty) : Nat → (List Vl) → Int → Option ((Int × ByteArray × Int × Ty × List Vl))
 | 0, _, _ => none
 | m + 1, x3_l11, x17_l11 =>
  if decide (x17_l11 < ((a0.2.2.2.2.length : Int))) then
   (idx a0.2.2.2.2 x17_l11).bind fun x17 =>
   (v_Clone_F n x17).bind fun y18 =>
   if (x3_l11.length + 1) * 88 ≤ 140737488355328 ∧ x3_l11.length + 1 ≤ 4611686018427387904 then
    if I64 (x17_l11 + 1) then
     (s_cloneField_l11 rec n a0 y3 m) (x3_l11 ++ ([y18])) (x17_l11 + 1)
    else none
   else none
  else
   s_cloneField_k8 rec n a0 y3 x3_l11
def s_cloneField_F (rec : Ty → Option Ty) (n : Nat) (a0 : Int × ByteArray × Int × Ty × List Vl) : Option ((Int × ByteArray × Int × Ty × List Vl)) :=
 (rec a0.2.2.2.1).bind fun y3 =>
 if 0 ≤ (a0.2.2.2.2.length : Int) ∧ ((a0.2.2.2.2.length : Int)) * 88 ≤ 140737488355328 ∧ (a0.2.2.2.2.length : Int) ≤ 4611686018427387904 then
  s_cloneField_l11 rec n a0 y3 n ([]) 0
 else none
theorem s_cloneField_at (w0 : World) (rec : Ty → Option Ty) (ih : ∀ (B : List (List AV)) (Rw : List RowA) (L : List LoopA) (a0 : Ty) (r : Ty) (h : rec a0 = some r), ACalls Tryz.prog w0 45 [.agg (a0.cs)] ⟨B, Rw, L⟩ fun x st => x = .agg (r.cs) ∧ st = ⟨B, Rw, L⟩) (n : Nat) (B : List (List AV)) (Rw : List RowA) (L : List LoopA) (a0 : Int × ByteArray × Int × Ty × List Vl) (r : (Int × ByteArray × Int × Ty × List Vl)) (h : s_cloneField_F rec n a0 = some r) :
  ACalls Tryz.prog w0 80 [.agg (.val (.int .i64 a0.1) :: (.val (.string a0.2.1) :: (.val (.int .i64 a0.2.2.1) :: ((a0.2.2.2.1.cs) ++ ([.list (a0.2.2.2.2.map avV) .none])))))] ⟨B, Rw, L⟩ fun x st => x = .agg (.val (.int .i64 r.1) :: (.val (.string r.2.1) :: (.val (.int .i64 r.2.2.1) :: ((r.2.2.2.1.cs) ++ ([.list (r.2.2.2.2.map avV) .none]))))) ∧ st = ⟨B, Rw, L⟩ := by
 rw [s_cloneField_F] at h
 refine hd [.cell 2 53] Tryz.func80 Tryz.ntmps80 fun M0 W0 hN hNR hNL hcalm hu hO hs => ?_
 simp only [argsE]
 refine rg [1, 2] hs ?_
 apply awp_seq; intro K2 hK2
 obtain ⟨y3, hy3, h⟩ := bind_some h
 apply awp_region 2 [1, 2]
 rw [evK_succ]; simp +decide only [go_sem, Nat.reduceAdd, Ty.cs_eqs a0.2.2.2.1, Ty.cs_eqs y3]
 (repeat' apply And.intro) <;> first | refine callK_p _ (ih _ _ _ a0.2.2.2.1 _ hy3) (by first | rfl | (simp +decide only [go_sem, Nat.reduceAdd, Ty.cs_eqs a0.2.2.2.1, Ty.cs_eqs y3]; done) | (simp +decide only [go_sem, Nat.reduceAdd, Vl.cs, Ty.cs, Ty.cs_eqs a0.2.2.2.1, Ty.cs_eqs y3]; done)) ?_ | exact cl
 rw [evK_succ]; simp +decide only [go_sem, Nat.reduceAdd, Ty.cs_eqs a0.2.2.2.1, Ty.cs_eqs y3]
 (repeat' apply And.intro) <;> first | refine hK2 _ _ ?_ | exact cl
 clear hK2
 apply awp_seq; intro K4 hK4
 obtain ⟨hg5, h⟩ := guard_some h
 have hO := hO.make 6 0
 apply awp_region 1 [1, 2, 3]
 rw [evK_succ]; simp +decide only [go_sem, Nat.reduceAdd, Ty.cs_eqs a0.2.2.2.1, Ty.cs_eqs y3]
 (repeat' apply And.intro) <;> first | refine hK4 _ _ ?_ | exact cl
 clear hK4
 refine awp_mid (fun e st => ∃ (x3_k8 : List Vl) (ox3_k8 : Ev.Own), Ck e st B Rw L [(1, true, .box B.length 0), (2, true, .box (B.length + 1) 0), (3, true, .list (x3_k8.map avV) ox3_k8)] [[.val (.int .i64 a0.1), .val (.string a0.2.1), .val (.int .i64 a0.2.2.1), .val (.int .i64 y3.kind), .val (.int .i64 y3.min), .val (.int .i64 y3.max), .val (.int .i64 y3.scale), .list (y3.words.map avS) .none, .list (y3.elem.map avT) .none, .list (y3.fields.map avTF) .none, .list (a0.2.2.2.2.map avV) .none], [.val (.int .i64 0), .val (.string ((⟨#[]⟩ : ByteArray))), .val (.int .i64 0), .val (.int .i64 0), .val (.int .i64 0), .val (.int .i64 0), .val (.int .i64 0), .list ([]) .full, .list ([]) .full, .list ([]) .full, .list ([]) .full]] [(6, x3_k8.length, ox3_k8)] (s_cloneField_k8 rec n a0 y3 x3_k8 = some r)) ?_ ?_
 ·
  intro K9 hK9
  apply awp_seq; intro K10 hK10
  apply awp_region 1 [1, 2, 3, 15, 16, 17]
  rw [evK_succ]; simp +decide only [go_sem, Nat.reduceAdd, Ty.cs_eqs a0.2.2.2.1, Ty.cs_eqs y3]
  (repeat' apply And.intro) <;> first | refine hK10 _ _ ?_ | exact cl
  clear hK10
  apply awp_block
  refine awp_loop (fun m e st => ∃ (x3_l11 : List Vl) (x17_l11 : Int) (ox3_l11 : Ev.Own), Ck e st B Rw L [(1, true, .box B.length 0), (2, true, .box (B.length + 1) 0), (3, true, .list (x3_l11.map avV) ox3_l11), (15, true, .list (a0.2.2.2.2.map avV) .none), (16, true, .val (.int .i64 ((a0.2.2.2.2.length : Int)))), (17, true, .val (.int .i64 x17_l11))] [[.val (.int .i64 a0.1), .val (.string a0.2.1), .val (.int .i64 a0.2.2.1), .val (.int .i64 y3.kind), .val (.int .i64 y3.min), .val (.int .i64 y3.max), .val (.int .i64 y3.scale), .list (y3.words.map avS) .none, .list (y3.elem.map avT) .none, .list (y3.fields.map avTF) .none, .list (a0.2.2.2.2.map avV) .none], [.val (.int .i64 0), .val (.string ((⟨#[]⟩ : ByteArray))), .val (.int .i64 0), .val (.int .i64 0), .val (.int .i64 0), .val (.int .i64 0), .val (.int .i64 0), .list ([]) .full, .list ([]) .full, .list ([]) .full, .list ([]) .full]] [(6, x3_l11.length, ox3_l11)] (s_cloneField_l11 rec n a0 y3 m x3_l11 x17_l11 = some r)) n ⟨([]), 0, ((.row Rw.length)), ([]), ((Rw ++ [.grow 0 6])), by first | rfl | (simp +decide only [go_sem, Nat.reduceAdd, Ty.cs_eqs a0.2.2.2.1, Ty.cs_eqs y3]; done), by first | rfl | (simp +decide only [go_sem, Nat.reduceAdd, Ty.cs_eqs a0.2.2.2.1, Ty.cs_eqs y3]; done), Owns.of_eq (hO) (by first | rfl | simp only [List.length_append, List.length_cons, List.length_nil, List.length_map, Nat.zero_add, Nat.add_zero]), h⟩ ?_
  rintro ml11 e st ⟨x3_l11, x17_l11, ox3_l11, Xl11, Rl11, rfl, rfl, hO, h⟩ Ul11 Vl11
  cases ml11 with
  | zero => cases h
  | succ ml11 =>
  rw [s_cloneField_l11] at h
  have hU := hO.unders
  simp only [List.mem_cons, List.not_mem_nil, or_false, forall_eq_or_imp, forall_eq] at hU
  refine td hN hNR hNL hcalm hO ?_
  apply awp_seq; intro K12 hK12
  apply awp_region 1 [1, 2, 3, 15, 16, 17, 18]
  rw [evK_succ]; simp +decide only [go_sem, Nat.reduceAdd, Ty.cs_eqs a0.2.2.2.1, Ty.cs_eqs y3]
  (repeat' apply And.intro) <;> first | refine hK12 _ _ ?_ | exact cl
  clear hK12
  apply awp_seq; intro K13 hK13
  refine awp_cond (decide (x17_l11 < ((a0.2.2.2.2.length : Int)))) ev (by first | (simp +decide only [go_sem, Nat.reduceAdd, Ty.cs_eqs a0.2.2.2.1, Ty.cs_eqs y3]; done) | (simp +decide only [go_sem, Nat.reduceAdd, Ty.cs_eqs a0.2.2.2.1, Ty.cs_eqs y3]; rfl)) (fun hb14 => ?_) (fun hb14 => ?_)
  rotate_left
  ·
   replace h := ite_ff h hb14
   refine sx [1, 2, 3] hs hK9 ?_
   exact ⟨x3_l11, ox3_l11, ([]), Rl11, by first | rfl | (simp +decide only [go_sem, Nat.reduceAdd, Ty.cs_eqs a0.2.2.2.1, Ty.cs_eqs y3, hb14]; done), by first | rfl | (simp +decide only [go_sem, Nat.reduceAdd, Ty.cs_eqs a0.2.2.2.1, Ty.cs_eqs y3, hb14]; done), Owns.of_eq (hO) (by first | rfl | simp only [List.length_append, List.length_cons, List.length_nil, List.length_map, Nat.zero_add, Nat.add_zero]), h⟩
  replace h := ite_tt h hb14
  refine sk [1, 2, 3, 15, 16, 17] hs hK13 ?_
  clear hK13
  apply awp_seq; intro K15 hK15
  apply awp_block
  apply awp_seq; intro K16 hK16
  obtain ⟨x17, hx17a, hx17b, hx17d, h⟩ := ix avV h
  apply awp_region 1 [1, 2, 3, 5, 15, 16, 17]
  rw [evK_succ]; simp +decide only [go_sem, Nat.reduceAdd, Ty.cs_eqs a0.2.2.2.1, Ty.cs_eqs y3, hb14, hx17d]
  (repeat' apply And.intro) <;> first | refine hK16 _ _ ?_ | exact cl
  clear hK16
  obtain ⟨y18, hy18, h⟩ := bind_some h
  obtain ⟨hg19, h⟩ := guard_some h
  obtain ⟨o20, rows21, hO, hap22⟩ := hO.append (P := Tryz.prog) elT_31 (by rw [zeroT_34]; rfl) (by decide) 1 hg19.1 hg19.2
  replace hap22 := fun (ys : List AV) B L o2 => hap22 (x3_l11.map avV) ys B L o2 (by first | rfl | simp only [List.length_map, List.length_nil, List.length_append, List.length_cons, Nat.zero_add])
  replace hap22 := fun (y : AV) B L o2 => hap22 [y] B L o2 (by first | rfl | simp only [List.length_map, List.length_nil, List.length_cons]) ev
  try simp only [List.mem_singleton, List.mem_cons, List.not_mem_nil, or_false, forall_eq_or_imp, forall_eq, List.map_append, List.map_cons, List.map_nil, avI_eq, avB_eq, avS_eq, avV_eq, avT_eq, avF_eq, avTF_eq, avPt_eq, avL_eq, avSch_eq, avItm_eq, avLm_eq] at hap22
  apply awp_region 2 [1, 2, 3, 15, 16, 17]
  rw [evK_succ]; simp +decide only [go_sem, Nat.reduceAdd, Ty.cs_eqs a0.2.2.2.1, Ty.cs_eqs y3, hb14, hx17d, hap22]
  (repeat' apply And.intro) <;> first | refine callK_p _ (v_Clone_at w0 n _ _ _ x17 _ hy18) (by first | rfl | (simp +decide only [go_sem, Nat.reduceAdd, Ty.cs_eqs a0.2.2.2.1, Ty.cs_eqs y3, hb14, hx17d, hap22]; done) | (simp +decide only [go_sem, Nat.reduceAdd, Vl.cs, Ty.cs, Ty.cs_eqs a0.2.2.2.1, Ty.cs_eqs y3, hb14, hx17d, hap22]; done)) ?_ | exact cl
  rw [evK_succ]; simp +decide only [go_sem, Nat.reduceAdd, Ty.cs_eqs a0.2.2.2.1, Ty.cs_eqs y3, hb14, hx17d, hap22]
  (repeat' apply And.intro) <;> first | refine hK15 _ _ ?_ | exact cl
  clear hK15
  obtain ⟨hg23, h⟩ := guard_some h
  apply awp_region 1 [1, 2, 3, 15, 16, 17]
  rw [evK_succ]; simp +decide only [go_sem, Nat.reduceAdd, Ty.cs_eqs a0.2.2.2.1, Ty.cs_eqs y3, hb14, hx17d, hap22]
  (repeat' apply And.intro) <;> first | refine Vl11 ml11 _ _ (Nat.lt_succ_self ml11) ⟨(x3_l11 ++ ([y18])), (x17_l11 + 1), o20, ([x17.cs]), rows21, by first | rfl | (simp +decide only [go_sem, Nat.reduceAdd, Ty.cs_eqs a0.2.2.2.1, Ty.cs_eqs y3, hb14, hx17d, hap22]; done), by first | rfl | (simp +decide only [go_sem, Nat.reduceAdd, Ty.cs_eqs a0.2.2.2.1, Ty.cs_eqs y3, hb14, hx17d, hap22]; done), Owns.of_eq (hO) (by first | rfl | simp only [List.length_append, List.length_cons, List.length_nil, List.length_map, Nat.zero_add, Nat.add_zero]), h⟩ | exact cl
 ·
  clear h; rintro e st ⟨x3_k8, ox3_k8, Xk8, Rk8, rfl, rfl, hO, h⟩
  rw [s_cloneField_k8] at h
  have hU := hO.unders
  simp only [List.mem_cons, List.not_mem_nil, or_false, forall_eq_or_imp, forall_eq] at hU
  refine td hN hNR hNL hcalm hO ?_
  apply awp_seq; intro K24 hK24
  apply awp_region 1 [1, 2]
  rw [evK_succ]; simp +decide only [go_sem, Nat.reduceAdd, Ty.cs_eqs a0.2.2.2.1, Ty.cs_eqs y3]
  (repeat' apply And.intro) <;> first | refine hK24 _ _ ?_ | exact cl
  clear hK24
  apply awp_seq; intro K25 hK25
  apply awp_region 1 [2]
  rw [evK_succ]; simp +decide only [go_sem, Nat.reduceAdd, Ty.cs_eqs a0.2.2.2.1, Ty.cs_eqs y3]
  (repeat' apply And.intro) <;> first | refine hK25 _ _ ?_ | exact cl
  clear hK25
  apply awp_ret; simp +decide only [go_sem, Nat.reduceAdd, Ty.cs_eqs a0.2.2.2.1, Ty.cs_eqs y3]
  have hgt := Option.some.inj h; subst hgt
  first | refine fin_q0 hcalm rfl hO.pre ev ⟨?_, rfl⟩ | refine fin_q hcalm rfl hO.pre ev ⟨?_, rfl⟩
  first | rfl | (simp +decide only [go_sem, Nat.reduceAdd, Ty.cs_eqs a0.2.2.2.1, Ty.cs_eqs y3]; done) | (simp +decide only [go_sem, Nat.reduceAdd, Vl.cs, Ty.cs, Ty.cs_eqs a0.2.2.2.1, Ty.cs_eqs y3]; done)
def s_Clone_k26 (rec : Ty → Option Ty) (n : Nat) (a0 : Ty) (x3_k26 : List Ty) (x6_k26 : List (Int × ByteArray × Int × Ty × List Vl)) : Option Ty :=
 if a0.words.length * 16 ≤ 140737488355328 then
  some (Ty.mk a0.kind a0.min a0.max a0.scale a0.words x3_k26 x6_k26)
 else none
def s_Clone_l29 (rec : Ty → Option Ty) (n : Nat) (a0 : Ty) : Nat → (List Ty) → (List (Int × ByteArray × Int × Ty × List Vl)) → Int → Option Ty
 | 0, _, _, _ => none
 | m + 1, x3_l29, x6_l29, x33_l29 =>
  if decide (x33_l29 < ((a0.fields.length : Int))) then
   (idx a0.fields x33_l29).bind fun x35 =>
   (s_cloneField_F rec n x35).bind fun y36 =>
   if (x6_l29.length + 1) * 160 ≤ 140737488355328 ∧ x6_l29.length + 1 ≤ 4611686018427387904 then
    if I64 (x33_l29 + 1) then
     (s_Clone_l29 rec n a0 m) x3_l29 (x6_l29 ++ ([y36])) (x33_l29 + 1)
    else none
   else none
  else
   s_Clone_k26 rec n a0 x3_l29 x6_l29
def s_Clone_k6 (rec : Ty → Option Ty) (n : Nat) (a0 : Ty) (x3_k6 : List Ty) : Option Ty :=
 if 0 ≤ (a0.fields.length : Int) ∧ ((a0.fields.length : Int)) * 160 ≤ 140737488355328 ∧ (a0.fields.length : Int) ≤ 4611686018427387904 then
  s_Clone_l29 rec n a0 n x3_k6 ([]) 0
 else none
def s_Clone_l9 (rec : Ty → Option Ty) (n : Nat) (a0 : Ty) : Nat → (List Ty) → Int → Option Ty
 | 0, _, _ => none
 | m + 1, x3_l9, x16_l9 =>
  if decide (x16_l9 < ((a0.elem.length : Int))) then
   (idx a0.elem x16_l9).bind fun x15 =>
   (rec x15).bind fun y16 =>
   if (x3_l9.length + 1) * 104 ≤ 140737488355328 ∧ x3_l9.length + 1 ≤ 4611686018427387904 then
    if I64 (x16_l9 + 1) then
     (s_Clone_l9 rec n a0 m) (x3_l9 ++ ([y16])) (x16_l9 + 1)
    else none
   else none
  else
   s_Clone_k6 rec n a0 x3_l9
def s_Clone_B (rec : Ty → Option Ty) (n : Nat) (a0 : Ty) : Option Ty :=
 if 0 ≤ (a0.elem.length : Int) ∧ ((a0.elem.length : Int)) * 104 ≤ 140737488355328 ∧ (a0.elem.length : Int) ≤ 4611686018427387904 then
  s_Clone_l9 rec n a0 n ([]) 0
 else none
def s_Clone_F : Nat → Ty → Option Ty
 | 0, _ => none
 | n + 1, a0 => s_Clone_B (s_Clone_F n) n a0
def s_Clone_C (w0 : World) (F : Ty → Option Ty) : Prop := ∀ (B : List (List AV)) (Rw : List RowA) (L : List LoopA) (a0 : Ty) (r : Ty), F a0 = some r → ACalls Tryz.prog w0 45 [.agg (a0.cs)] ⟨B, Rw, L⟩ fun x st => x = .agg (r.cs) ∧ st = ⟨B, Rw, L⟩
theorem s_Clone_step (w0 : World) (rec : Ty → Option Ty) (ih : s_Clone_C w0 rec) (n : Nat) : s_Clone_C w0 (s_Clone_B rec n) := by
 intro B Rw L a0 r h
 rw [s_Clone_B] at h
 refine hd [.cell 2 26] Tryz.func45 Tryz.ntmps45 fun M0 W0 hN hNR hNL hcalm hu hO hs => ?_
 simp only [argsE]
 refine rg [1, 2] hs ?_
 obtain ⟨hg3, h⟩ := guard_some h
 have hO := hO.make 7 0
 refine rg [1, 2, 3] hs ?_
 refine awp_mid (fun e st => ∃ (x3_k6 : List Ty) (ox3_k6 : Ev.Own), Ck e st B Rw L [(1, true, .box B.length 0), (2, true, .box (B.length + 1) 0), (3, true, .list (x3_k6.map avT) ox3_k6)] [a0.cs, [.val (.int .i64 0), .val (.int .i64 0), .val (.int .i64 0), .val (.int .i64 0), .list ([]) .full, .list ([]) .full, .list ([]) .full]] [(7, x3_k6.length, ox3_k6)] (s_Clone_k6 rec n a0 x3_k6 = some r)) ?_ ?_
 ·
  intro K7 hK7
  refine rg [1, 2, 3, 14, 15, 16] hs ?_
  apply awp_block
  refine awp_loop (fun m e st => ∃ (x3_l9 : List Ty) (x16_l9 : Int) (ox3_l9 : Ev.Own), Ck e st B Rw L [(1, true, .box B.length 0), (2, true, .box (B.length + 1) 0), (3, true, .list (x3_l9.map avT) ox3_l9), (14, true, .list (a0.elem.map avT) .none), (15, true, .val (.int .i64 ((a0.elem.length : Int)))), (16, true, .val (.int .i64 x16_l9))] [a0.cs, [.val (.int .i64 0), .val (.int .i64 0), .val (.int .i64 0), .val (.int .i64 0), .list ([]) .full, .list ([]) .full, .list ([]) .full]] [(7, x3_l9.length, ox3_l9)] (s_Clone_l9 rec n a0 m x3_l9 x16_l9 = some r)) n ⟨([]), 0, ((.row Rw.length)), ([]), ((Rw ++ [.grow 0 7])), ef hs, ef hs, Owns.of_eq (hO) (by first | rfl | simp only [List.length_append, List.length_cons, List.length_nil, List.length_map, Nat.zero_add, Nat.add_zero]), h⟩ ?_
  rintro ml9 e st ⟨x3_l9, x16_l9, ox3_l9, Xl9, Rl9, rfl, rfl, hO, h⟩ Ul9 Vl9
  cases ml9 with
  | zero => cases h
  | succ ml9 =>
  rw [s_Clone_l9] at h
  have hU := hO.unders
  simp only [List.mem_cons, List.not_mem_nil, or_false, forall_eq_or_imp, forall_eq] at hU
  refine td hN hNR hNL hcalm hO ?_
  refine rg [1, 2, 3, 14, 15, 16, 17] hs ?_
  apply awp_seq; intro K11 hK11
  refine cnd h hs (fun hs h => ?_) (fun hs h => ?_)
  rotate_left
  ·
   refine sx [1, 2, 3] hs hK7 ?_
   exact ⟨x3_l9, ox3_l9, ([]), Rl9, ef hs, ef hs, Owns.of_eq (hO) (by first | rfl | simp only [List.length_append, List.length_cons, List.length_nil, List.length_map, Nat.zero_add, Nat.add_zero]), h⟩
  refine sk [1, 2, 3, 14, 15, 16] hs hK11 ?_
  clear hK11
  apply awp_seq; intro K13 hK13
  apply awp_block
  obtain ⟨x15, hx15, h⟩ := bind_some h
  obtain ⟨hx15a, hx15b, hx15c⟩ := idx_some hx15
  have hx15d := getD_map (f := avT) hx15c
  have hs := And.intro hx15d hs
  refine rg [1, 2, 3, 5, 14, 15, 16] hs ?_
  obtain ⟨y16, hy16, h⟩ := bind_some h
  obtain ⟨hg17, h⟩ := guard_some h
  obtain ⟨o18, rows19, hO, hap20⟩ := hO.append (P := Tryz.prog) elT_23 (by rw [zeroT_26]; rfl) (by decide) 1 hg17.1 hg17.2
  replace hap20 := fun (ys : List AV) B L o2 => hap20 (x3_l9.map avT) ys B L o2 (by first | rfl | simp only [List.length_map, List.length_nil, List.length_append, List.length_cons, Nat.zero_add])
  replace hap20 := fun (y : AV) B L o2 => hap20 [y] B L o2 (by first | rfl | simp only [List.length_map, List.length_nil, List.length_cons]) ev
  try simp only [List.mem_singleton, List.mem_cons, List.not_mem_nil, or_false, forall_eq_or_imp, forall_eq, List.map_append, List.map_cons, List.map_nil, avI_eq, avB_eq, avS_eq, avV_eq, avT_eq, avF_eq, avTF_eq, avPt_eq, avL_eq, avSch_eq, avItm_eq, avLm_eq] at hap20
  have hs := And.intro hap20 hs
  refine rk 2 [1, 2, 3, 14, 15, 16] hs ?_
  refine callK_p _ (ih _ _ _ x15 _ hy16) (hv hs) ?_
  refine ne hs hK13 ?_
  clear hK13
  obtain ⟨hg21, h⟩ := guard_some h
  refine rl [1, 2, 3, 14, 15, 16] hs (fun e s => Vl9 ml9 e s (Nat.lt_succ_self _)) ?_
  exact ⟨(x3_l9 ++ ([y16])), (x16_l9 + 1), o18, ([x15.cs]), rows19, ef hs, ef hs, Owns.of_eq (hO) (by first | rfl | simp only [List.length_append, List.length_cons, List.length_nil, List.length_map, Nat.zero_add, Nat.add_zero]), h⟩
 ·
  clear h; rintro e st ⟨x3_k6, ox3_k6, Xk6, Rk6, rfl, rfl, hO, h⟩
  rw [s_Clone_k6] at h
  have hU := hO.unders
  simp only [List.mem_cons, List.not_mem_nil, or_false, forall_eq_or_imp, forall_eq] at hU
  refine td hN hNR hNL hcalm hO ?_
  obtain ⟨hg23, h⟩ := guard_some h
  have hO := hO.make 11 0
  refine rg [1, 2, 3, 6] hs ?_
  refine awp_mid (fun e st => ∃ (x3_k26 : List Ty) (x6_k26 : List (Int × ByteArray × Int × Ty × List Vl)) (ox3_k26 : Ev.Own) (ox6_k26 : Ev.Own), Ck e st B Rw L [(1, true, .box B.length 0), (2, true, .box (B.length + 1) 0), (3, true, .list (x3_k26.map avT) ox3_k26), (6, true, .list (x6_k26.map avTF) ox6_k26)] [a0.cs, [.val (.int .i64 0), .val (.int .i64 0), .val (.int .i64 0), .val (.int .i64 0), .list ([]) .full, .list ([]) .full, .list ([]) .full]] [(7, x3_k26.length, ox3_k26), (11, x6_k26.length, ox6_k26)] (s_Clone_k26 rec n a0 x3_k26 x6_k26 = some r)) ?_ ?_
  ·
   intro K27 hK27
   refine rg [1, 2, 3, 6, 31, 32, 33] hs ?_
   apply awp_block
   refine awp_loop (fun m e st => ∃ (x3_l29 : List Ty) (x6_l29 : List (Int × ByteArray × Int × Ty × List Vl)) (x33_l29 : Int) (ox3_l29 : Ev.Own) (ox6_l29 : Ev.Own), Ck e st B Rw L [(1, true, .box B.length 0), (2, true, .box (B.length + 1) 0), (3, true, .list (x3_l29.map avT) ox3_l29), (6, true, .list (x6_l29.map avTF) ox6_l29), (31, true, .list (a0.fields.map avTF) .none), (32, true, .val (.int .i64 ((a0.fields.length : Int)))), (33, true, .val (.int .i64 x33_l29))] [a0.cs, [.val (.int .i64 0), .val (.int .i64 0), .val (.int .i64 0), .val (.int .i64 0), .list ([]) .full, .list ([]) .full, .list ([]) .full]] [(7, x3_l29.length, ox3_l29), (11, x6_l29.length, ox6_l29)] (s_Clone_l29 rec n a0 m x3_l29 x6_l29 x33_l29 = some r)) n ⟨x3_k6, ([]), 0, ox3_k6, ((.row Rk6.length)), ([]), ((Rk6 ++ [.grow 0 11])), ef hs, ef hs, Owns.of_eq ((hO).swap (List.Perm.swap _ _ _)) (by first | rfl | simp only [List.length_append, List.length_cons, List.length_nil, List.length_map, Nat.zero_add, Nat.add_zero]), h⟩ ?_
   rintro ml29 e st ⟨x3_l29, x6_l29, x33_l29, ox3_l29, ox6_l29, Xl29, Rl29, rfl, rfl, hO, h⟩ Ul29 Vl29
   cases ml29 with
   | zero => cases h
   | succ ml29 =>
   rw [s_Clone_l29] at h
   have hU := hO.unders
   simp only [List.mem_cons, List.not_mem_nil, or_false, forall_eq_or_imp, forall_eq] at hU
   obtain ⟨hU0, hU1⟩ := hU
   refine td hN hNR hNL hcalm hO ?_
   refine rg [1, 2, 3, 6, 31, 32, 33, 34] hs ?_
   apply awp_seq; intro K31 hK31
   refine cnd h hs (fun hs h => ?_) (fun hs h => ?_)
   rotate_left
   ·
    refine sx [1, 2, 3, 6] hs hK27 ?_
    exact ⟨x3_l29, x6_l29, ox3_l29, ox6_l29, ([]), Rl29, ef hs, ef hs, Owns.of_eq (((hO).swap (List.Perm.swap _ _ _)).swap (List.Perm.swap _ _ _)) (by first | rfl | simp only [List.length_append, List.length_cons, List.length_nil, List.length_map, Nat.zero_add, Nat.add_zero]), h⟩
   refine sk [1, 2, 3, 6, 31, 32, 33] hs hK31 ?_
   clear hK31
   apply awp_seq; intro K33 hK33
   apply awp_block
   obtain ⟨x35, hx35, h⟩ := bind_some h
   obtain ⟨hx35a, hx35b, hx35c⟩ := idx_some hx35
   have hx35d := getD_map (f := avTF) hx35c
   have hs := And.intro hx35d hs
   refine rg [1, 2, 3, 6, 8, 31, 32, 33] hs ?_
   obtain ⟨y36, hy36, h⟩ := bind_some h
   obtain ⟨hg37, h⟩ := guard_some h
   have hO := hO.swap (List.Perm.swap _ _ _)
   obtain ⟨o38, rows39, hO, hap40⟩ := hO.append (P := Tryz.prog) elT_24 (by rw [zeroT_53]; rfl) (by decide) 1 hg37.1 hg37.2
   replace hap40 := fun (ys : List AV) B L o2 => hap40 (x6_l29.map avTF) ys B L o2 (by first | rfl | simp only [List.length_map, List.length_nil, List.length_append, List.length_cons, Nat.zero_add])
   replace hap40 := fun (y : AV) B L o2 => hap40 [y] B L o2 (by first | rfl | simp only [List.length_map, List.length_nil, List.length_cons]) ev
   try simp only [List.mem_singleton, List.mem_cons, List.not_mem_nil, or_false, forall_eq_or_imp, forall_eq, List.map_append, List.map_cons, List.map_nil, avI_eq, avB_eq, avS_eq, avV_eq, avT_eq, avF_eq, avTF_eq, avPt_eq, avL_eq, avSch_eq, avItm_eq, avLm_eq] at hap40
   have hs := And.intro hap40 hs
   refine rk 2 [1, 2, 3, 6, 31, 32, 33] hs ?_
   refine callK_p _ (s_cloneField_at w0 rec ih n _ _ _ x35 _ hy36) (hv hs) ?_
   refine ne hs hK33 ?_
   clear hK33
   obtain ⟨hg41, h⟩ := guard_some h
   refine rl [1, 2, 3, 6, 31, 32, 33] hs (fun e s => Vl29 ml29 e s (Nat.lt_succ_self _)) ?_
   exact ⟨x3_l29, (x6_l29 ++ ([y36])), (x33_l29 + 1), ox3_l29, o38, ([.val (.int .i64 x35.1) :: (.val (.string x35.2.1) :: (.val (.int .i64 x35.2.2.1) :: ((x35.2.2.2.1.cs) ++ ([.list (x35.2.2.2.2.map avV) .none]))))]), rows39, ef hs, ef hs, Owns.of_eq ((hO).swap (List.Perm.swap _ _ _)) (by first | rfl | simp only [List.length_append, List.length_cons, List.length_nil, List.length_map, Nat.zero_add, Nat.add_zero]), h⟩
  ·
   clear h; rintro e st ⟨x3_k26, x6_k26, ox3_k26, ox6_k26, Xk26, Rk26, rfl, rfl, hO, h⟩
   rw [s_Clone_k26] at h
   have hU := hO.unders
   simp only [List.mem_cons, List.not_mem_nil, or_false, forall_eq_or_imp, forall_eq] at hU
   obtain ⟨hU0, hU1⟩ := hU
   refine td hN hNR hNL hcalm hO ?_
   apply awp_seq; intro K42 hK42
   obtain ⟨hg43, h⟩ := guard_some h
   apply awp_region 2 [1, 2]
   rw [evK_succ]; simp +decide only [go_sem, Nat.reduceAdd, Ty.cs_eqs a0]
   (repeat' apply And.intro) <;> first | refine callK_p _ (sl_Clone_string_at w0 _ _ _ a0.words hg43) (by first | rfl | (simp +decide only [go_sem, Nat.reduceAdd, Ty.cs_eqs a0]; done) | (simp +decide only [go_sem, Nat.reduceAdd, Vl.cs, Ty.cs, Ty.cs_eqs a0]; done)) ?_ | exact cl
   rw [evK_succ]; simp +decide only [go_sem, Nat.reduceAdd, Ty.cs_eqs a0]
   (repeat' apply And.intro) <;> first | refine hK42 _ _ ?_ | exact cl
   clear hK42
   apply awp_seq; intro K44 hK44
   apply awp_region 1 [2]
   rw [evK_succ]; simp +decide only [go_sem, Nat.reduceAdd, Ty.cs_eqs a0]
   (repeat' apply And.intro) <;> first | refine hK44 _ _ ?_ | exact cl
   clear hK44
   apply awp_ret; simp +decide only [go_sem, Nat.reduceAdd, Ty.cs_eqs a0]
   have hgt := Option.some.inj h; subst hgt
   first | refine fin_q0 hcalm rfl hO.pre ev ⟨?_, rfl⟩ | refine fin_q hcalm rfl hO.pre ev ⟨?_, rfl⟩
   first | rfl | (simp +decide only [go_sem, Nat.reduceAdd, Ty.cs_eqs a0]; done) | (simp +decide only [go_sem, Nat.reduceAdd, Vl.cs, Ty.cs, Ty.cs_eqs a0]; done)
theorem s_Clone_at (w0 : World) : ∀ n : Nat, s_Clone_C w0 (s_Clone_F n)
 | 0 => fun _ _ _ _ _ h => (nomatch h)
 | n + 1 => s_Clone_step w0 (s_Clone_F n) (s_Clone_at w0 n) n
def sl_IndexFunc_TypeField_k3 (n : Nat)  : Option Int :=
 some ((-1))
def sl_IndexFunc_TypeField_l6 (n : Nat) (a0 : List (Int × ByteArray × Int × Ty × List Vl)) (a1 : (Int × ByteArray × Int × Ty × List Vl) → Option Bool) : Nat → Int → Option Int
 | 0, _ => none
 | m + 1, x8_l6 =>
  if decide (x8_l6 < ((a0.length : Int))) then
   (idx a0 x8_l6).bind fun x13 =>
   (a1 x13).bind fun y14 =>
   if y14 then
    some (x8_l6)
   else
    if I64 (x8_l6 + 1) then
     (sl_IndexFunc_TypeField_l6 n a0 a1 m) (x8_l6 + 1)
    else none
  else
   sl_IndexFunc_TypeField_k3 n 
def sl_IndexFunc_TypeField_F (n : Nat) (a0 : List (Int × ByteArray × Int × Ty × List Vl)) (a1 : (Int × ByteArray × Int × Ty × List Vl) → Option Bool) : Option Int :=
 sl_IndexFunc_TypeField_l6 n a0 a1 n 0
theorem sl_IndexFunc_TypeField_at (w0 : World) (n : Nat) (B : List (List AV)) (Rw : List RowA) (L : List LoopA) (a0 : List (Int × ByteArray × Int × Ty × List Vl)) (fa1 : FuncId) (ca1 : List AV) (a1 : (Int × ByteArray × Int × Ty × List Vl) → Option Bool) (ha1 : ∀ (x0 : Int × ByteArray × Int × Ty × List Vl) r, a1 x0 = some r → ∀ B' rows, B <+: B' → Rw <+: rows → ACalls Tryz.prog w0 fa1 ([.agg (.val (.int .i64 x0.1) :: (.val (.string x0.2.1) :: (.val (.int .i64 x0.2.2.1) :: ((x0.2.2.2.1.cs) ++ ([.list (x0.2.2.2.2.map avV) .none])))))] ++ ca1) ⟨B', rows, L⟩ fun v s => v = .val (.bool r) ∧ s = ⟨B', rows, L⟩) (r : Int) (h : sl_IndexFunc_TypeField_F n a0 a1 = some r) :
  ACalls Tryz.prog w0 118 [.list (a0.map avTF) .none, .clo fa1 ca1] ⟨B, Rw, L⟩ fun x st => x = .val (.int .i64 r) ∧ st = ⟨B, Rw, L⟩ := by
 rw [sl_IndexFunc_TypeField_F] at h
 refine hd [.tmp 4] Tryz.func118 Tryz.ntmps118 fun M0 W0 hN hNR hNL hcalm hu hO hs => ?_
 simp only [argsE]
 have hU_a1 := under_caps (hu (.clo fa1 ca1) (by simp))
 refine rg [0, 1] hs ?_
 refine awp_mid (fun e st => Ck e st B Rw L [] [] [] (sl_IndexFunc_TypeField_k3 n  = some r)) ?_ ?_
 ·
  intro K4 hK4
  refine rg [0, 1, 7, 8] hs ?_
  apply awp_block
  refine awp_loop (fun m e st => ∃ (x8_l6 : Int), Ck e st B Rw L [(0, true, .list (a0.map avTF) .none), (1, true, .clo fa1 ca1), (7, true, .val (.int .i64 ((a0.length : Int)))), (8, true, .val (.int .i64 x8_l6))] [] [] (sl_IndexFunc_TypeField_l6 n a0 a1 m x8_l6 = some r)) n ⟨0, ([]), Rw, ef hs, ef hs, hO, h⟩ ?_
  rintro ml6 e st ⟨x8_l6, Xl6, Rl6, rfl, rfl, hO, h⟩ Ul6 Vl6
  cases ml6 with
  | zero => cases h
  | succ ml6 =>
  rw [sl_IndexFunc_TypeField_l6] at h
  refine awp_tidy hN hNR hNL rfl hcalm hO (by (simp +decide only [go_sem, Nat.reduceAdd]) <;> (try (repeat' apply And.intro)) <;> first | omega | assumption | exact hU_a1 _ _ _ (by omega) (by have := hO.len; omega) (by omega)) (by (simp +decide only [go_sem, Nat.reduceAdd, calmE]) <;> (try (repeat' apply And.intro)) <;> first | omega | assumption | exact hU_a1 _ _ _ (by omega) (by have := hO.len; omega) (by omega)) ?_
  refine rg [0, 1, 7, 8, 9] hs ?_
  apply awp_seq; intro K8 hK8
  refine cnd h hs (fun hs h => ?_) (fun hs h => ?_)
  rotate_left
  ·
   refine sx [] hs hK4 ?_
   exact ⟨([]), Rl6, ef hs, ef hs, hO, h⟩
  refine sk [0, 1, 7, 8] hs hK8 ?_
  clear hK8
  apply awp_seq; intro K10 hK10
  apply awp_block
  refine rg [0, 1, 5, 7, 8] hs ?_
  obtain ⟨x13, hx13, h⟩ := bind_some h
  obtain ⟨hx13a, hx13b, hx13c⟩ := idx_some hx13
  have hx13d := getD_map (f := avTF) hx13c
  obtain ⟨y14, hy14, h⟩ := bind_some h
  have hs := And.intro hx13d hs
  refine rc 2 [0, 1, 5, 7, 8, 16] hs ?_; intro K12 hK12
  refine callK_q _ (ha1 x13 _ hy14 _ _ (by first | exact List.prefix_append _ _ | exact List.prefix_refl _) hO.pre) (hv hs) ?_
  refine ne hs hK12 ?_
  clear hK12
  refine cnd h hs (fun hs h => ?_) (fun hs h => ?_)
  ·
   refine rg [4] hs ?_
   exact rt h hs hcalm hO
  refine sk [0, 1, 7, 8] hs hK10 ?_
  clear hK10
  obtain ⟨hg17, h⟩ := guard_some h
  refine rl [0, 1, 7, 8] hs (fun e s => Vl6 ml6 e s (Nat.lt_succ_self _)) ?_
  exact ⟨(x8_l6 + 1), ([]), Rl6, ef hs, ef hs, hO, h⟩
 ·
  clear h; rintro e st ⟨Xk3, Rk3, rfl, rfl, hO, h⟩
  rw [sl_IndexFunc_TypeField_k3] at h
  refine awp_tidy hN hNR hNL rfl hcalm hO (by (simp +decide only [go_sem, Nat.reduceAdd]) <;> (try (repeat' apply And.intro)) <;> first | omega | assumption | exact hU_a1 _ _ _ (by omega) (by have := hO.len; omega) (by omega)) (by (simp +decide only [go_sem, Nat.reduceAdd, calmE]) <;> (try (repeat' apply And.intro)) <;> first | omega | assumption | exact hU_a1 _ _ _ (by omega) (by have := hO.len; omega) (by omega)) ?_
  refine rg [4] hs ?_
  exact rt h hs hcalm hO
def s_find_F (n : Nat) (a0 : Ty) (a1 : (Int × ByteArray × Int × Ty × List Vl) → Option Bool) : Option ((Int × ByteArray × Int × Ty × List Vl) × Bool) :=
 if (!(decide (a0.kind = 9))) && (!(decide (a0.kind = 10))) then
  some (((0, (⟨#[]⟩ : ByteArray), 0, Ty.mk 0 0 0 0 ([]) ([]) ([]), []), false))
 else
  (sl_IndexFunc_TypeField_F n a0.fields a1).bind fun y7 =>
  if decide (y7 < 0) then
   some (((0, (⟨#[]⟩ : ByteArray), 0, Ty.mk 0 0 0 0 ([]) ([]) ([]), []), false))
  else
   (idx a0.fields y7).bind fun x13 =>
   (s_cloneField_F (s_Clone_F n) n x13).bind fun y14 =>
   some ((y14, true))
theorem s_find_at (w0 : World) (n : Nat) (B : List (List AV)) (Rw : List RowA) (L : List LoopA) (a0 : Ty) (fa1 : FuncId) (ca1 : List AV) (a1 : (Int × ByteArray × Int × Ty × List Vl) → Option Bool) (ha1 : ∀ (x0 : Int × ByteArray × Int × Ty × List Vl) r, a1 x0 = some r → ∀ B' rows, B <+: B' → Rw <+: rows → ACalls Tryz.prog w0 fa1 ([.agg (.val (.int .i64 x0.1) :: (.val (.string x0.2.1) :: (.val (.int .i64 x0.2.2.1) :: ((x0.2.2.2.1.cs) ++ ([.list (x0.2.2.2.2.map avV) .none])))))] ++ ca1) ⟨B', rows, L⟩ fun v s => v = .val (.bool r) ∧ s = ⟨B', rows, L⟩) (r : (Int × ByteArray × Int × Ty × List Vl) × Bool) (h : s_find_F n a0 a1 = some r) :
  ACalls Tryz.prog w0 68 [.agg (a0.cs), .clo fa1 ca1] ⟨B, Rw, L⟩ fun x st => x = .tup [.agg (.val (.int .i64 r.1.1) :: (.val (.string r.1.2.1) :: (.val (.int .i64 r.1.2.2.1) :: ((r.1.2.2.2.1.cs) ++ ([.list (r.1.2.2.2.2.map avV) .none]))))), .val (.bool r.2)] ∧ st = ⟨B, Rw, L⟩ := by
 rw [s_find_F] at h
 refine hd [.cell 4 53, .tmp 5] Tryz.func68 Tryz.ntmps68 fun M0 W0 hN hNR hNL hcalm hu hO hs => ?_
 simp only [argsE]
 have hU_a1 := under_caps (hu (.clo fa1 ca1) (by simp))
 refine rg [1, 2, 4] hs ?_
 apply awp_seq; intro K2 hK2
 refine rg [1, 2, 4, 14] hs ?_
 refine cnd h hs (fun hs h => ?_) (fun hs h => ?_)
 ·
  have hb4 := hs.1
  apply awp_seq; intro K5 hK5
  apply awp_region 1 [4, 5]
  rw [evK_succ]; simp +decide only [go_sem, Nat.reduceAdd, hb4, fillA, fillOk, placeT]
  (repeat' apply And.intro) <;> first | refine hK5 _ _ ?_ | exact cl
  clear hK5
  exact rt h hs hcalm hO
 have hb4 := hs.1
 refine sk [1, 2, 4] hs hK2 ?_
 clear hK2
 obtain ⟨y7, hy7, h⟩ := bind_some h
 refine rc 2 [2, 4, 6] hs ?_; intro K6 hK6
 refine callK_p _ (sl_IndexFunc_TypeField_at w0 n _ _ _ a0.fields fa1 ca1 a1 (fun x0 r hx B'' rows'' q1 q2 => ha1 x0 r hx B'' rows'' (List.IsPrefix.trans (by first | exact List.prefix_append _ _ | exact List.prefix_refl _) q1) (hO.pre.trans q2)) _ hy7) (hv hs) ?_
 refine ne hs hK6 ?_
 clear hK6
 apply awp_seq; intro K8 hK8
 refine rg [2, 4, 6, 21] hs ?_
 refine cnd h hs (fun hs h => ?_) (fun hs h => ?_)
 ·
  have hb10 := hs.1
  apply awp_seq; intro K11 hK11
  apply awp_region 1 [4, 5]
  rw [evK_succ]; simp +decide only [go_sem, Nat.reduceAdd, hb4, hb10, fillA, fillOk, placeT]
  (repeat' apply And.intro) <;> first | refine hK11 _ _ ?_ | exact cl
  clear hK11
  exact rt h hs hcalm hO
 have hb10 := hs.1
 refine sk [2, 4, 6] hs hK8 ?_
 clear hK8
 obtain ⟨x13, hx13, h⟩ := bind_some h
 obtain ⟨hx13a, hx13b, hx13c⟩ := idx_some hx13
 have hx13d := getD_map (f := avTF) hx13c
 obtain ⟨y14, hy14, h⟩ := bind_some h
 have hs := And.intro hx13d hs
 refine rc 2 [4, 5] hs ?_; intro K12 hK12
 refine callK_p _ (s_cloneField_at w0 (s_Clone_F n) (s_Clone_at w0 n) n _ _ _ x13 _ hy14) (hv hs) ?_
 refine ne hs hK12 ?_
 clear hK12
 exact rt h hs hcalm hO
def s_Field_1_F (a0 : Int × ByteArray × Int × Ty × List Vl) (a1 : ByteArray) : Bool :=
 sEq a0.2.1 a1
theorem s_Field_1_at (w0 : World) (B : List (List AV)) (Rw : List RowA) (L : List LoopA) (a0 : Int × ByteArray × Int × Ty × List Vl) (la1 : Nat) (a1 : ByteArray) (hla1 : B[la1]? = some ([.val (.string a1)])) (r : Bool) (h : s_Field_1_F a0 a1 = r) :
  ACalls Tryz.prog w0 69 [.agg (.val (.int .i64 a0.1) :: (.val (.string a0.2.1) :: (.val (.int .i64 a0.2.2.1) :: ((a0.2.2.2.1.cs) ++ ([.list (a0.2.2.2.2.map avV) .none]))))), .box la1 0] ⟨B, Rw, L⟩ fun x st => x = .val (.bool r) ∧ st = ⟨B, Rw, L⟩ := by
 rw [s_Field_1_F] at h
 refine hd [.tmp 3] Tryz.func69 Tryz.ntmps69 fun M0 W0 hN hNR hNL hcalm hu hO hs => ?_
 simp only [argsE]
 have hltla1 := (List.getElem?_eq_some_iff.1 hla1).1
 have hs := And.intro (ptr_of hla1) hs
 refine rg [1, 2] hs ?_
 refine rg [3] hs ?_
 apply awp_ret; simp +decide only [go_sem, Nat.reduceAdd, ptr_of hla1]
 subst h
 first | refine fin_q0 hcalm rfl hO.pre ev ⟨?_, rfl⟩ | refine fin_q hcalm rfl hO.pre ev ⟨?_, rfl⟩
 first | rfl | (simp +decide only [go_sem, Nat.reduceAdd, ptr_of hla1]; done) | (simp +decide only [go_sem, Nat.reduceAdd, Vl.cs, Ty.cs, ptr_of hla1]; done)
theorem s_Field_1_at' (w0 : World) (B : List (List AV)) (Rw : List RowA) (L : List LoopA) (a0 : Int × ByteArray × Int × Ty × List Vl) (la1 : Nat) (a1 : ByteArray) (hla1 : B[la1]? = some ([.val (.string a1)])) :
  ACalls Tryz.prog w0 69 [.agg (.val (.int .i64 a0.1) :: (.val (.string a0.2.1) :: (.val (.int .i64 a0.2.2.1) :: ((a0.2.2.2.1.cs) ++ ([.list (a0.2.2.2.2.map avV) .none]))))), .box la1 0] ⟨B, Rw, L⟩ fun x st => x = .val (.bool (s_Field_1_F a0 a1)) ∧ st = ⟨B, Rw, L⟩ := s_Field_1_at w0 B Rw L a0 la1 a1 hla1 _ rfl
def s_Field_F (n : Nat) (a0 : Ty) (a1 : ByteArray) : Option ((Int × ByteArray × Int × Ty × List Vl) × Bool) :=
 (s_find_F n a0 (fun (x0 : Int × ByteArray × Int × Ty × List Vl) => some (s_Field_1_F x0 a1))).bind fun y3 =>
 some ((y3.1, y3.2))
theorem s_Field_at (w0 : World) (n : Nat) (B : List (List AV)) (Rw : List RowA) (L : List LoopA) (a0 : Ty) (a1 : ByteArray) (r : (Int × ByteArray × Int × Ty × List Vl) × Bool) (h : s_Field_F n a0 a1 = some r) :
  ACalls Tryz.prog w0 31 [.agg (a0.cs), .val (.string a1)] ⟨B, Rw, L⟩ fun x st => x = .tup [.agg (.val (.int .i64 r.1.1) :: (.val (.string r.1.2.1) :: (.val (.int .i64 r.1.2.2.1) :: ((r.1.2.2.2.1.cs) ++ ([.list (r.1.2.2.2.2.map avV) .none]))))), .val (.bool r.2)] ∧ st = ⟨B, Rw, L⟩ := by
 rw [s_Field_F] at h
 refine hd [.cell 4 53, .tmp 5] Tryz.func31 Tryz.ntmps31 fun M0 W0 hN hNR hNL hcalm hu hO hs => ?_
 simp only [argsE]
 refine rg [2, 3, 4] hs ?_
 obtain ⟨y3, hy3, h⟩ := bind_some h
 refine rc 2 [4, 5] hs ?_; intro K2 hK2
 refine callK_p _ (s_find_at w0 n _ _ _ a0 69 [.box (B.length + 1) 0] (fun (x0 : Int × ByteArray × Int × Ty × List Vl) => some (s_Field_1_F x0 a1)) (fun x0 r hx B' rows' hB' hR' => by cases hx; exact s_Field_1_at' w0 _ _ _ x0 _ a1 (prefix_get hB' ev)) _ hy3) (hv hs) ?_
 refine ne hs hK2 ?_
 clear hK2
 exact rt h hs hcalm hO
end Go.Proofs.YtggimoedcamonaaGreatDoor
namespace Go.Ev
open Go Go.RowKit
def Mem.start : Mem := ⟨0, 0, fun _ => 0, fun _ => 0, fun _ => 0, fun _ => 0, fun _ => 0, fun _ => 0, 0, fun _ => 0⟩
theorem start_rel (W : World) : RelSt W Mem.start ⟨[], [], []⟩ W where
 below := .refl _ _
 N := rfl
 NR := rfl
 top := fun _ _ => rfl
 inj := fun _ _ h => absurd h (Nat.not_lt_zero _)
 box := fun _ _ h => by simp at h
 row := fun _ _ h => by simp at h
 rowinj := fun _ _ h => absurd h (Nat.not_lt_zero _)
 loop := ⟨rfl, fun _ _ h => absurd h (Nat.not_lt_zero _), fun _ _ h => by simp at h⟩
theorem calls_of_acalls {P : Program} {f : FuncId} {W : World} {vals : Array Value} {args : List AV} {r : Value} (h : ACalls P W f args ⟨[], [], []⟩ fun v st => v = .val r ∧ st = ⟨[], [], []⟩) (hr : RowR W Mem.start W vals args) :
  Calls P f vals W fun e w' => e = .returned r ∧ Below W.heap.size W w' :=
 (h.2 Mem.start W vals (start_rel W) hr).mono fun en w' ⟨v, M', a, st, h1, ⟨h2, _⟩, _, h4, h5⟩ => by
  subst h2
  have := h5.val_inv.1
  subst this
  exact ⟨h1, h4.below⟩
theorem rowR_two {W : World} {v u : Value} {x y : AV} (h : R W Mem.start W v x) (k : R W Mem.start W u y) : RowR W Mem.start W #[v, u] [x, y] := ⟨rfl, fun i h1 h2 => by
 have : i = 0 ∨ i = 1 := by simp at h2; omega
 rcases this with rfl | rfl
 ·
  exact h
 ·
  exact k⟩
end Go.Ev
namespace Go.Proofs.YtggimoedcamonaaGreatDoor
open Go Go.Shelf Go.ChangeShapes Go.WideShapes Go.ChangeAt Go.RowKit Go.Lib Go.Ev
open Go.ChangeMaps (open_string shut_string)
set_option maxRecDepth 100000
theorem law_own : ownKnob Tryz.prog.godebug = none := by kernel_rfl
def flat1 : DataW Unit → List Value
 | .lit (.int k z) => [.int k z]
 | .agg l => l.flatMap fun | .lit (.int k z) => [.int k z] | _ => []
 | _ => []
def flat2 : DataW Unit → List Value
 | .agg l => l.flatMap flat1
 | _ => []
noncomputable def lawWorld (os : Os) : World :=
 let w0 := World.holding Tryz.prog os ⟨#[], #[], []⟩
 let put (h : Array Obj) (g : Nat) (d : DataW Unit) : Array Obj := h.modify g fun
  | .cells _ t frozen => .cells (flat2 d).toArray t frozen
  | o => o
 { w0 with heap := put (put (put (put (put w0.heap 0 Rows.laid_unicode_utf8_first) 1 Rows.laid_unicode_utf8_acceptRanges) 3 Rows.laid_internal_strconv_uint64pow10) 4 Rows.laid_math_bits_deBruijn32tab) 5 Rows.laid_math_bits_deBruijn64tab }
theorem law_laid_met (os : Os) (args : Array Value) : laidMet Tryz.prog Rows.schemaKindsRow.laid ((lawWorld os).forCall (fun _ _ => 0) ⟨#[], args, []⟩).memory :=
 (LaidIn.of_run (l := Rows.schemaKindsRow.laid) [4, 5, 3, 1, 0] 8 (by kernel_rfl) (by kernel_rfl) (by kernel_rfl) (by kernel_rfl)).met
theorem pow10_of_reads {W : World} (h : Lib.VarReads Tryz.prog W pow10Name Rows.laid_internal_strconv_uint64pow10) : Pow10 W := by
 obtain ⟨g, t, cs, fuel, p, h1, h2, h3, h4⟩ := h
 obtain rfl := Option.some.inj ((show Tryz.prog.globalNamed pow10Name = some 3 by kernel_rfl).symm.trans h1)
 obtain rfl := Option.some.inj ((show (Tryz.prog.globals[3]?).map (·.type) = some 227 by kernel_rfl).symm.trans h2)
 have e : (Rows.laid_internal_strconv_uint64pow10 : DataW Unit) = Lib.tabData .u64 Lib.pow10Tab := by kernel_rfl
 rw [e] at h4
 unfold Pow10 Lib.TabIs
 rw [h3, ← Lib.cells_of_tab (n := 20) (k := .u64) (zs := Lib.pow10Tab) Tryz.underlying227 Tryz.underlying192 (by kernel_rfl) (by kernel_rfl) h4]
theorem law_tabs {W : World} (hL : laidMet Tryz.prog Rows.schemaKindsRow.laid W) : Lib.Utf8Tabs 0 1 W ∧ Pow10 W :=
 ⟨utf8Tabs_of_readsT (U8Types.of196 Tryz.laysValid) ⟨by kernel_rfl, by kernel_rfl, by kernel_rfl, by kernel_rfl, by kernel_rfl, by kernel_rfl, by kernel_rfl⟩ (Lib.laidMet.reads hL (.tail _ (.tail _ (.tail _ (.tail _ (.head _)))))) (Lib.laidMet.reads hL (.tail _ (.tail _ (.tail _ (.head _))))),
  pow10_of_reads (Lib.laidMet.reads hL (.tail _ (.tail _ (.head _))))⟩
set_option maxRecDepth 100000
mutual
def Vl.wf : Vl → Prop
 | .mk k i s t l f => I64 k ∧ I64 i ∧ I64 s ∧ t.size ≤ maxLen ∧ l.length ≤ maxLen ∧ f.length ≤ maxLen ∧ wfVs l ∧ wfFs f
def wfVs : List Vl → Prop
 | [] => True
 | v :: r => v.wf ∧ wfVs r
def wfFs : List (ByteArray × Vl) → Prop
 | [] => True
 | (n, v) :: r => n.size ≤ maxLen ∧ v.wf ∧ wfFs r
end
theorem wfVs_iff : ∀ l, wfVs l ↔ ∀ v ∈ l, v.wf
 | [] => by simp [wfVs]
 | v :: r => by simp [wfVs, wfVs_iff r]
theorem wfFs_iff : ∀ l, wfFs l ↔ ∀ p ∈ l, p.1.size ≤ maxLen ∧ p.2.wf
 | [] => by simp [wfFs]
 | (n, v) :: r => by simp [wfFs, wfFs_iff r, and_assoc]
mutual
def Ty.wf : Ty → Prop
 | .mk k lo hi s w e f => I64 k ∧ I64 lo ∧ I64 hi ∧ I64 s ∧ (∀ x ∈ w, x.size ≤ maxLen) ∧ w.length ≤ maxLen ∧ e.length ≤ maxLen ∧ f.length ≤ maxLen ∧ wfTs e ∧ wfTFs f
def wfTs : List Ty → Prop
 | [] => True
 | v :: r => v.wf ∧ wfTs r
def wfTFs : List (Int × ByteArray × Int × Ty × List Vl) → Prop
 | [] => True
 | (n, s, d, t, l) :: r => (I64 n ∧ s.size ≤ maxLen ∧ I64 d ∧ t.wf ∧ l.length ≤ maxLen ∧ ∀ v ∈ l, v.wf) ∧ wfTFs r
end
theorem wfTs_iff : ∀ l, wfTs l ↔ ∀ v ∈ l, v.wf
 | [] => by simp [wfTs]
 | v :: r => by simp [wfTs, wfTs_iff r]
theorem wfTFs_iff : ∀ l, wfTFs l ↔ ∀ p ∈ l, I64 p.1 ∧ p.2.1.size ≤ maxLen ∧ I64 p.2.2.1 ∧ p.2.2.2.1.wf ∧ p.2.2.2.2.length ≤ maxLen ∧ ∀ v ∈ p.2.2.2.2, v.wf
 | [] => by simp [wfTFs]
 | (n, s, d, t, l) :: r => by simp [wfTFs, wfTFs_iff r]
def Part.wf (p : Part) : Prop := I64 p.kind ∧ I64 p.index ∧ p.name.size ≤ maxLen
def Sch.wf (s : Sch) : Prop := s.name.size ≤ maxLen ∧ I64 s.version ∧ s.type.wf
section
variable {H : Type} {enc : TypeId × Value → H} {W : World}
def RC (W : World) (cs : List Value) (xs : List AV) : Prop := cs.length = xs.length ∧ ∀ i (h1 : i < cs.length) (h2 : i < xs.length), R W Mem.start W cs[i] xs[i]
theorem RC.nil : RC W [] [] := ⟨rfl, fun i h1 => absurd h1 (by simp)⟩
theorem RC.cons {v : Value} {x : AV} {cs : List Value} {xs : List AV} (h : R W Mem.start W v x) (k : RC W cs xs) : RC W (v :: cs) (x :: xs) := ⟨by simp [k.1], fun i h1 h2 => by
 cases i with
 | zero => exact h
 | succ i => simpa using k.2 i (by simpa using h1) (by simpa using h2)⟩
theorem RC.app {cs ds : List Value} {xs ys : List AV} (h : RC W cs xs) (k : RC W ds ys) : RC W (cs ++ ds) (xs ++ ys) := by
 refine ⟨by simp [h.1, k.1], fun i h1 h2 => ?_⟩
 by_cases c : i < cs.length
 ·
  rw [List.getElem_append_left c, List.getElem_append_left (h.1 ▸ c)]; exact h.2 i c _
 ·
  rw [List.getElem_append_right (Nat.le_of_not_lt c), List.getElem_append_right (h.1 ▸ Nat.le_of_not_lt c)]
  simp only [h.1]
  exact k.2 _ (by have := h.1; rw [List.length_append] at h1; omega) (by have := h.1; rw [List.length_append] at h2; omega)
theorem RC.agg {cs : List Value} {xs : List AV} (h : RC W cs xs) (h1 : ∀ x ∈ xs, x.one = true) : R W Mem.start W (.agg cs.toArray) (.agg xs) := .agg (by simpa using h.1) h1 (fun i a b => by simpa using h.2 i (by simpa using a) b)
noncomputable abbrev Td (enc : TypeId × Value → H) (W : World) (n : Nat) (t : TypeId) (cs : List Value) : Option (DataW H × List MemPlace) := DataW.trod enc Tryz.prog W 0 (fun _ => true) true n t cs
theorem td_int {n : Nat} {cs : List Value} {x : DataW H × List MemPlace} (h : Td enc W n 3 cs = some x) : ∃ z, I64 z ∧ cs = [.int .i64 z] := by
 obtain ⟨z, rfl, _, hw⟩ := DataW.trod_int Tryz.underlying3 h
 refine ⟨z, ?_, rfl⟩
 simp [Lit.wf, IntKind.min, IntKind.max, IntKind.signed, IntKind.bits] at hw
 unfold I64
 omega
theorem td_str {n : Nat} {cs : List Value} {x : DataW H × List MemPlace} (h : Td enc W n 9 cs = some x) : ∃ s : ByteArray, s.size ≤ maxLen ∧ cs = [.string s] := by
 obtain ⟨s, rfl, _, hw⟩ := DataW.trod_string Tryz.underlying9 h
 exact ⟨s, hw, rfl⟩
theorem td_slice {α : Type} (f : α → AV) (p : α → Prop) {t e : TypeId} {sz : Nat} (ht : Tryz.prog.underlying t = some (.slice e)) (hc : Tryz.prog.cellsOf e = sz) (hsz : 0 < sz) {n : Nat}
  (H0 : ∀ cs x, Td enc W n e cs = some x → ∃ y u, p y ∧ u.cells.toList = cs ∧ R W Mem.start W u (f y)) {cs : List Value} {x : DataW H × List MemPlace} (h : Td enc W (n + 1) t cs = some x) :
  ∃ (l : List α) (v : Value), (∀ y ∈ l, p y) ∧ l.length ≤ maxLen ∧ cs = [v] ∧ R W Mem.start W v (.list (l.map f) .none) := by
 rcases DataW.trod_slice ht h with ⟨rfl, _⟩ | ⟨a, len, cap, elems, rest, n', hn, rfl, _, hb, hl, hm, hlen, hel, hsp, _⟩
 ·
  exact ⟨[], _, by simp, by simp, rfl, .nil (fun id => by simp)⟩
 ·
  cases hn
  by_cases hcap : cap = 0
  ·
   subst hcap
   obtain rfl : len = 0 := by omega
   exact ⟨[], _, by simp, by simp, rfl, .emp (fun id => by simp)⟩
  have hspot : a.spot = none := by
   have get : ∀ (c : DataW H × List MemPlace) (r : List Value → Option (DataW H × List MemPlace)), (W.cells? 0 (a.add (0 * Tryz.prog.cellsOf e)) (Tryz.prog.cellsOf e)).bind r = some c → a.spot = none := fun c r hr => by
    obtain ⟨cs', h1, _⟩ := Option.bind_eq_some_iff.1 hr
    obtain ⟨_, h2, h3⟩ := World.cells?_some h1
    have h4 := h3 0 (by omega)
    rw [List.getElem?_eq_getElem (by omega)] at h4
    have e0 : (a.add (0 * Tryz.prog.cellsOf e)).add 0 = a := by simp [Addr.add]
    rw [e0] at h4
    unfold World.cell? at h4
    split at h4
    ·
     split at h4
     ·
      cases h4
     ·
      rename_i q; simpa using q
    ·
     cases h4
   by_cases h0 : 0 < len
   ·
    have := hel 0 h0
    rw [List.getElem?_eq_getElem (by omega)] at this
    exact get _ _ this
   ·
    obtain ⟨h1, h2⟩ := hsp rfl
    have := h2 0 (by omega)
    rw [List.getElem?_eq_getElem (by omega)] at this
    obtain rfl : len = 0 := by omega
    exact get _ _ this
  obtain ⟨b, off, sp⟩ := a
  simp only at hspot
  subst hspot
  have key : ∀ i, i < len → ∃ y u, p y ∧ R W Mem.start W u (f y) ∧ u.cells.size = sz ∧ ∀ j, j < sz → W.cell? ⟨b, off + i * sz + j, none⟩ = u.cells[j]? := fun i hi => by
   have h1 := hel i hi
   rw [List.getElem?_eq_getElem (by omega)] at h1
   obtain ⟨cs', h2, h3⟩ := Option.bind_eq_some_iff.1 h1
   obtain ⟨y, u, h4, h5, h6⟩ := H0 _ _ h3
   obtain ⟨_, h7, h8⟩ := World.cells?_some h2
   rw [hc] at h7 h8
   refine ⟨y, u, h4, h6, by rw [← h7, ← h5, Array.length_toList], fun j hj => ?_⟩
   have := h8 j hj
   rw [← h5, Array.getElem?_toList] at this
   rw [← this]
   congr 1
   have ea : ∀ (o m : Nat), (⟨b, o, none⟩ : Addr).add m = ⟨b, o + m, none⟩ := fun o m => by unfold Addr.add; split <;> simp_all
   rw [ea, ea]
  classical
  let y : Nat → Option (α × Value) := fun i => if hi : i < len then some (Classical.choose (key i hi), Classical.choose (Classical.choose_spec (key i hi))) else none
  have hne : len = 0 ∨ Nonempty (α × Value) := by
   by_cases h0 : 0 < len
   ·
    obtain ⟨z, u, _⟩ := key 0 h0; exact .inr ⟨(z, u)⟩
   ·
    exact .inl (by omega)
  rcases hne with h0 | ⟨⟨d⟩⟩
  ·
   subst h0
   exact ⟨[], _, by simp, by simp, rfl, .list (xs := []) 0 (fun _ => undef) (Nat.zero_le _) hm (fun i hi => absurd hi (by simp)) (fun i hi => absurd hi (by simp)) trivial⟩
  ·
   let g : Nat → α × Value := fun i => if hi : i < len then (Classical.choose (key i hi), Classical.choose (Classical.choose_spec (key i hi))) else d
   have hg : ∀ i, i < len → p (g i).1 ∧ R W Mem.start W (g i).2 (f (g i).1) ∧ (g i).2.cells.size = sz ∧ ∀ j, j < sz → W.cell? ⟨b, off + i * sz + j, none⟩ = (g i).2.cells[j]? := fun i hi => by
    have := Classical.choose_spec (Classical.choose_spec (key i hi))
    simp only [g, dif_pos hi]
    exact this
   have hlen2 : (((List.range len).map fun i => (g i).1).map f).length = len := by simp
   refine ⟨(List.range len).map fun i => (g i).1, .slice (some ⟨b, off, none⟩) len cap, fun z hz => ?_, by simp; omega, rfl, ?_⟩
   ·
    obtain ⟨i, hi, rfl⟩ := List.mem_map.1 hz
    exact (hg i (by simpa using hi)).1
   ·
    have := Ev.R.list (w0 := W) (M := Ev.Mem.start) (w := W) (b := b) (off := off) (cap := cap) (xs := ((List.range len).map fun i => (g i).1).map f) (o := .none) sz (fun i => (g i).2) (by rw [hlen2]; exact hl) hm
     (fun i hi => by
      rw [hlen2] at hi
      obtain ⟨_, _, h3, h4⟩ := hg i hi
      refine ⟨h3, fun j hj => ⟨.inl ?_, h4 j hj⟩⟩
      have := h4 j hj
      rw [Array.getElem?_eq_getElem (by rw [h3]; exact hj)] at this
      exact World.block_lt_of_cell? W _ this) (fun i hi => by
      rw [hlen2] at hi
      simp only [List.getElem_map, List.getElem_range]
      exact (hg i hi).2.1) trivial
    rw [hlen2] at this
    exact this
theorem Vl.ones (v : Vl) : ∀ x ∈ v.cs, x.one = true := by
 cases v; intro x hx
 simp only [Vl.cs, List.mem_cons, List.not_mem_nil, or_false] at hx
 rcases hx with rfl | rfl | rfl | rfl | rfl | rfl <;> rfl
theorem Ty.ones (v : Ty) : ∀ x ∈ v.cs, x.one = true := by
 cases v; intro x hx
 simp only [Ty.cs, List.mem_cons, List.not_mem_nil, or_false] at hx
 rcases hx with rfl | rfl | rfl | rfl | rfl | rfl | rfl <;> rfl
theorem td_val : ∀ (n : Nat) (cs : List Value) (x : DataW H × List MemPlace), Td enc W n 34 cs = some x → ∃ v : Vl, v.wf ∧ RC W cs v.cs
 | 0, cs, x, h => by simp [Td, DataW.trod] at h
 | n + 1, cs, x, h => by
  obtain ⟨xs, n', hn, _, hl, hx, hf⟩ := DataW.trod_struct Tryz.underlying34 h
  cases hn
  have hl6 : cs.length = 6 := hl.trans (by kernel_rfl)
  have hx6 : xs.length = 6 := hx
  match cs, hl6 with
  | [c0, c1, c2, c3, c4, c5], _ =>
  have g : ∀ i (hi : i < 6), xs[i]? = some (xs[i]'(by omega)) := fun i hi => List.getElem?_eq_getElem _
  have f0 := hf 0 _ rfl; have f1 := hf 1 _ rfl; have f2 := hf 2 _ rfl; have f3 := hf 3 _ rfl; have f4 := hf 4 _ rfl; have f5 := hf 5 _ rfl
  rw [g 0 (by omega)] at f0; rw [g 1 (by omega)] at f1; rw [g 2 (by omega)] at f2; rw [g 3 (by omega)] at f3; rw [g 4 (by omega)] at f4; rw [g 5 (by omega)] at f5
  obtain ⟨k, hk, ek⟩ := td_int f0
  obtain ⟨i, hi, ei⟩ := td_int f1
  obtain ⟨s, hs, es⟩ := td_int f2
  obtain ⟨t, ht, et⟩ := td_str f3
  cases n with
  | zero => simp [DataW.trod] at f4
  | succ n =>
  obtain ⟨l, vl, hl1, hl2, el, hRl⟩ := td_slice avV Vl.wf Tryz.underlying31 (sz := 6) (by kernel_rfl) (by omega) (fun cs x h => by
   obtain ⟨v, hv, hR⟩ := td_val n cs x h
   exact ⟨v, .agg cs.toArray, hv, by simp [Value.cells], hR.agg v.ones⟩) f4
  obtain ⟨fl, vf, hf1, hf2, ef, hRf⟩ := td_slice avF (fun p => p.1.size ≤ maxLen ∧ p.2.wf) Tryz.underlying32 (sz := 7) (by kernel_rfl) (by omega) (fun cs x h => by
   cases n with
   | zero => simp [DataW.trod] at h
   | succ n =>
   obtain ⟨ys, n', hn, _, hl, hx, hf⟩ := DataW.trod_struct Tryz.underlying83 h
   cases hn
   have hl7 : cs.length = 7 := hl.trans (by kernel_rfl)
   have hx2 : ys.length = 2 := hx
   have q0 := hf 0 _ rfl; have q1 := hf 1 _ rfl
   rw [List.getElem?_eq_getElem (by omega)] at q0 q1
   obtain ⟨nm, hnm, en⟩ := td_str q0
   obtain ⟨v, hv, hR⟩ := td_val n _ _ q1
   have e2 : Tryz.prog.cellsOf 34 = 6 := by kernel_rfl
   have e3 : Tryz.prog.cellsOf 9 = 1 := by kernel_rfl
   simp only [List.getElem_toArray, List.getElem_cons_zero, List.getElem_cons_succ, e2, e3] at en hR
   match cs, hl7 with
   | [c0, c1, c2, c3, c4, c5, c6], _ =>
   simp only [List.drop_zero, List.take_succ_cons, List.take_zero, List.cons.injEq, and_true, List.drop_succ_cons] at en hR
   subst en
   refine ⟨(nm, v), .agg #[.string nm, c1, c2, c3, c4, c5, c6], ⟨hnm, hv⟩, rfl, ?_⟩
   exact RC.agg (cs := [.string nm, c1, c2, c3, c4, c5, c6]) (.cons (.flat (decide_eq_true hnm)) hR) (fun x hx => by
    rcases List.mem_cons.1 hx with rfl | hx
    ·
     rfl
    ·
     exact v.ones x hx)) f5
  have c1' : Tryz.prog.cellsOf 3 = 1 := by kernel_rfl
  have c2' : Tryz.prog.cellsOf 9 = 1 := by kernel_rfl
  have c3' : Tryz.prog.cellsOf 31 = 1 := by kernel_rfl
  have c4' : Tryz.prog.cellsOf 32 = 1 := by kernel_rfl
  simp only [List.getElem_toArray, List.getElem_cons_zero, List.getElem_cons_succ, c1', c2', c3', c4', List.drop_zero, List.take_succ_cons, List.take_zero, List.cons.injEq, and_true, List.drop_succ_cons] at ek ei es et el ef
  subst ek ei es et el ef
  refine ⟨.mk k i s t l fl, ?_, ?_⟩
  ·
   unfold Vl.wf
   exact ⟨hk, hi, hs, ht, hl2, hf2, (wfVs_iff l).2 hl1, (wfFs_iff fl).2 hf1⟩
  ·
   rw [Vl.cs, encVs_av, encFs_av]
   exact .cons (.flat rfl) (.cons (.flat rfl) (.cons (.flat rfl) (.cons (.flat (decide_eq_true ht)) (.cons hRl (.cons hRf .nil)))))
theorem td_typ : ∀ (n : Nat) (cs : List Value) (x : DataW H × List MemPlace), Td enc W n 26 cs = some x → ∃ v : Ty, v.wf ∧ RC W cs v.cs
 | 0, cs, x, h => by simp [Td, DataW.trod] at h
 | n + 1, cs, x, h => by
  obtain ⟨xs, n', hn, _, hl, hx, hf⟩ := DataW.trod_struct Tryz.underlying26 h
  cases hn
  have hl7 : cs.length = 7 := hl.trans (by kernel_rfl)
  have hx7 : xs.length = 7 := hx
  match cs, hl7 with
  | [c0, c1, c2, c3, c4, c5, c6], _ =>
  have g : ∀ i (hi : i < 7), xs[i]? = some (xs[i]'(by omega)) := fun i hi => List.getElem?_eq_getElem _
  have f0 := hf 0 _ rfl; have f1 := hf 1 _ rfl; have f2 := hf 2 _ rfl; have f3 := hf 3 _ rfl; have f4 := hf 4 _ rfl; have f5 := hf 5 _ rfl; have f6 := hf 6 _ rfl
  rw [g 0 (by omega)] at f0; rw [g 1 (by omega)] at f1; rw [g 2 (by omega)] at f2; rw [g 3 (by omega)] at f3; rw [g 4 (by omega)] at f4; rw [g 5 (by omega)] at f5; rw [g 6 (by omega)] at f6
  obtain ⟨k, hk, ek⟩ := td_int f0
  obtain ⟨lo, hlo, elo⟩ := td_int f1
  obtain ⟨hi, hhi, ehi⟩ := td_int f2
  obtain ⟨s, hs, es⟩ := td_int f3
  cases n with
  | zero => simp [DataW.trod] at f4
  | succ n =>
  obtain ⟨w, vw, hw1, hw2, ew, hRw⟩ := td_slice avS (fun s => s.size ≤ maxLen) Tryz.underlying22 (sz := 1) (by kernel_rfl) (by omega) (fun cs x h => by
   obtain ⟨s, hs, rfl⟩ := td_str h
   exact ⟨s, .string s, hs, rfl, .flat (decide_eq_true hs)⟩) f4
  obtain ⟨el, ve, he1, he2, ee, hRe⟩ := td_slice avT Ty.wf Tryz.underlying23 (sz := 7) (by kernel_rfl) (by omega) (fun cs x h => by
   obtain ⟨v, hv, hR⟩ := td_typ n cs x h
   exact ⟨v, .agg cs.toArray, hv, by simp [Value.cells], hR.agg v.ones⟩) f5
  obtain ⟨fl, vf, hf1, hf2, ef, hRf⟩ := td_slice avTF (fun p => I64 p.1 ∧ p.2.1.size ≤ maxLen ∧ I64 p.2.2.1 ∧ p.2.2.2.1.wf ∧ p.2.2.2.2.length ≤ maxLen ∧ ∀ v ∈ p.2.2.2.2, v.wf) Tryz.underlying24 (sz := 11) (by kernel_rfl) (by omega) (fun cs x h => by
   cases n with
   | zero => simp [DataW.trod] at h
   | succ n =>
   obtain ⟨ys, n', hn, _, hl, hx, hf⟩ := DataW.trod_struct Tryz.underlying53 h
   cases hn
   have hl11 : cs.length = 11 := hl.trans (by kernel_rfl)
   have hx5 : ys.length = 5 := hx
   have q0 := hf 0 _ rfl; have q1 := hf 1 _ rfl; have q2 := hf 2 _ rfl; have q3 := hf 3 _ rfl; have q4 := hf 4 _ rfl
   rw [List.getElem?_eq_getElem (by omega)] at q0 q1 q2 q3 q4
   obtain ⟨nu, hnu, enu⟩ := td_int q0
   obtain ⟨nm, hnm, en⟩ := td_str q1
   obtain ⟨nd, hnd, end'⟩ := td_int q2
   obtain ⟨v, hv, hR⟩ := td_typ n _ _ q3
   cases n with
   | zero => simp [DataW.trod] at q4
   | succ n =>
   obtain ⟨dl, vd, hd1, hd2, ed, hRd⟩ := td_slice avV Vl.wf Tryz.underlying31 (sz := 6) (by kernel_rfl) (by omega) (fun cs x h => by
    obtain ⟨v, hv, hR⟩ := td_val n cs x h
    exact ⟨v, .agg cs.toArray, hv, by simp [Value.cells], hR.agg v.ones⟩) q4
   have e1 : Tryz.prog.cellsOf 3 = 1 := by kernel_rfl
   have e2 : Tryz.prog.cellsOf 26 = 7 := by kernel_rfl
   have e3 : Tryz.prog.cellsOf 9 = 1 := by kernel_rfl
   have e4 : Tryz.prog.cellsOf 31 = 1 := by kernel_rfl
   simp only [List.getElem_toArray, List.getElem_cons_zero, List.getElem_cons_succ, e1, e2, e3, e4] at enu en end' hR ed
   match cs, hl11 with
   | [c0, c1, c2, c3, c4, c5, c6, c7, c8, c9, c10], _ =>
   simp only [List.drop_zero, List.take_succ_cons, List.take_zero, List.cons.injEq, and_true, List.drop_succ_cons] at enu en end' hR ed
   subst enu en end' ed
   refine ⟨(nu, nm, nd, v, dl), .agg #[.int .i64 nu, .string nm, .int .i64 nd, c3, c4, c5, c6, c7, c8, c9, c10], ⟨hnu, hnm, hnd, hv, hd2, hd1⟩, rfl, ?_⟩
   exact RC.agg (cs := [.int .i64 nu, .string nm, .int .i64 nd] ++ ([c3, c4, c5, c6, c7, c8, c9] ++ [c10])) (.cons (.flat rfl) (.cons (.flat (show flatV (.string nm) = true from decide_eq_true hnm)) (.cons (.flat rfl) (hR.app (.cons hRd .nil))))) (fun x hx => by
    simp only [List.mem_cons, List.mem_append, List.not_mem_nil, or_false] at hx
    rcases hx with rfl | rfl | rfl | hx | rfl
    ·
     rfl
    ·
     rfl
    ·
     rfl
    ·
     exact v.ones x hx
    ·
     rfl)) f6
  have c1' : Tryz.prog.cellsOf 3 = 1 := by kernel_rfl
  have c2' : Tryz.prog.cellsOf 22 = 1 := by kernel_rfl
  have c3' : Tryz.prog.cellsOf 23 = 1 := by kernel_rfl
  have c4' : Tryz.prog.cellsOf 24 = 1 := by kernel_rfl
  simp only [List.getElem_toArray, List.getElem_cons_zero, List.getElem_cons_succ, c1', c2', c3', c4', List.drop_zero, List.take_succ_cons, List.take_zero, List.cons.injEq, and_true, List.drop_succ_cons] at ek elo ehi es ew ee ef
  subst ek elo ehi es ew ee ef
  refine ⟨.mk k lo hi s w el fl, ?_, ?_⟩
  ·
   unfold Ty.wf
   exact ⟨hk, hlo, hhi, hs, hw1, hw2, he2, hf2, (wfTs_iff el).2 he1, (wfTFs_iff fl).2 hf1⟩
  ·
   rw [Ty.cs, encTs_av, encTFs_av, words_av]
   exact .cons (.flat rfl) (.cons (.flat rfl) (.cons (.flat rfl) (.cons (.flat rfl) (.cons hRw (.cons hRe (.cons hRf .nil))))))
end
section
variable {H : Type} {enc : TypeId × Value → H} {W : World} {base : Nat} {v : Value} {d : DataW H} {p : List MemPlace}
theorem agg_of {t : TypeId} {fs : Array Field} (ht : Tryz.prog.underlying t = some (.struct fs)) (hv : Value.okWide Tryz.prog W .any base t v) : ∃ cs, v = .agg cs := by
 unfold Value.okWide at hv
 rw [ht] at hv
 obtain ⟨cs, h, _⟩ := hv
 exact ⟨cs, h⟩
theorem open_t (hv : Value.okWide Tryz.prog W .any base 26 v) (h : DataW.Trod enc Tryz.prog W 0 (fun _ => true) true 26 v d p) : ∃ t : Ty, t.wf ∧ R W Mem.start W v (.agg t.cs) := by
 obtain ⟨cs, rfl⟩ := agg_of Tryz.underlying26 hv
 obtain ⟨n, hn⟩ := h
 obtain ⟨t, h1, h2⟩ := td_typ n _ _ hn
 exact ⟨t, h1, by simpa [Value.cells] using h2.agg t.ones⟩
end
end Go.Proofs.YtggimoedcamonaaGreatDoor
namespace Go.Proofs.YtggimoedcamonaaGreatDoor
open Go Go.RowKit Go.Ev
theorem idx_nat {α : Type} {l : List α} {k : Nat} (h : k < l.length) : idx l (k : Int) = some l[k] := idx_of h
theorem lt_int {a b : Nat} : decide ((a : Int) < (b : Int)) = decide (a < b) := by simp
theorem I64_succ {k : Nat} (h : k < 1000000000000) : I64 ((k : Int) + 1) := by unfold I64; omega
theorem Ty.size_pos (t : Ty) : 0 < t.size := by cases t; simp [Ty.size]; omega
theorem Ty.size_eq (t : Ty) : t.size = 1 + sizeTs t.elem + sizeTFs t.fields := by cases t; simp [Ty.size, Ty.elem, Ty.fields]
theorem sizeTs_mem : ∀ (l : List Ty) (v : Ty), v ∈ l → v.size ≤ sizeTs l
 | [], _, h => by simp at h
 | a :: r, v, h => by
  rcases List.mem_cons.1 h with rfl | h
  ·
   simp [sizeTs]
  ·
   have := sizeTs_mem r v h
   simp [sizeTs]; omega
theorem sizeTFs_mem : ∀ (l : List (Int × ByteArray × Int × Ty × List Vl)) (p : Int × ByteArray × Int × Ty × List Vl), p ∈ l → p.2.2.2.1.size ≤ sizeTFs l
 | [], _, h => by simp at h
 | (a, b, c, t, d) :: r, p, h => by
  rcases List.mem_cons.1 h with rfl | h
  ·
   simp [sizeTFs]
  ·
   have := sizeTFs_mem r p h
   simp [sizeTFs]; omega
theorem sizeTs_len : ∀ l : List Ty, l.length ≤ sizeTs l
 | [] => Nat.le_refl _
 | v :: r => by have := sizeTs_len r; have := v.size_pos; simp [sizeTs]; omega
theorem sizeTFs_len : ∀ l : List (Int × ByteArray × Int × Ty × List Vl), l.length ≤ sizeTFs l
 | [] => Nat.le_refl _
 | (_, _, _, t, _) :: r => by have := sizeTFs_len r; have := t.size_pos; simp [sizeTFs]; omega
theorem Ty.elem_size (t x : Ty) (h : x ∈ t.elem) : x.size < t.size := by have := sizeTs_mem _ _ h; have := t.size_eq; omega
theorem Ty.field_size (t : Ty) (p) (h : p ∈ t.fields) : p.2.2.2.1.size < t.size := by have := sizeTFs_mem _ _ h; have := t.size_eq; omega
theorem Ty.lens (t : Ty) : t.elem.length < t.size ∧ t.fields.length < t.size := by have := sizeTs_len t.elem; have := sizeTFs_len t.fields; have := t.size_eq; omega
theorem Vl.list_size (v x : Vl) (h : x ∈ v.list) : x.size < v.size := by have := sizeVs_mem _ _ h; have := v.size_eq; omega
theorem Vl.field_size (v : Vl) (p) (h : p ∈ v.fields) : p.2.size < v.size := by have := sizeFs_mem _ _ h; have := v.size_eq; omega
mutual
def Ty.depth : Ty → Nat
 | .mk _ _ _ _ _ e f => 1 + max (depthTs e) (depthTFs f)
def depthTs : List Ty → Nat
 | [] => 0
 | t :: r => max t.depth (depthTs r)
def depthTFs : List (Int × ByteArray × Int × Ty × List Vl) → Nat
 | [] => 0
 | (_, _, _, t, _) :: r => max t.depth (depthTFs r)
end
mutual
def Vl.depth : Vl → Nat
 | .mk _ _ _ _ l f => 1 + max (depthVs l) (depthFs f)
def depthVs : List Vl → Nat
 | [] => 0
 | t :: r => max t.depth (depthVs r)
def depthFs : List (ByteArray × Vl) → Nat
 | [] => 0
 | (_, t) :: r => max t.depth (depthFs r)
end
mutual
def Vl.ok : Vl → Prop
 | .mk _ _ _ t l f => t.size ≤ 2000 ∧ okVs l ∧ okFs f
def okVs : List Vl → Prop
 | [] => True
 | v :: r => v.ok ∧ okVs r
def okFs : List (ByteArray × Vl) → Prop
 | [] => True
 | (n, v) :: r => n.size ≤ 100 ∧ v.ok ∧ okFs r
end
theorem okVs_iff : ∀ l, okVs l ↔ ∀ v ∈ l, v.ok
 | [] => by simp [okVs]
 | v :: r => by simp [okVs, okVs_iff r]
theorem okFs_iff : ∀ l, okFs l ↔ ∀ p ∈ l, p.1.size ≤ 100 ∧ p.2.ok
 | [] => by simp [okFs]
 | (n, v) :: r => by simp [okFs, okFs_iff r, and_assoc]
def Vl.small (v : Vl) : Prop := v.size ≤ 300 ∧ v.depth ≤ 12 ∧ v.ok
mutual
def Ty.ok : Ty → Prop
 | .mk _ _ _ _ w e f => w.length ≤ 70 ∧ (∀ x ∈ w, x.size ≤ 2000) ∧ okTs e ∧ okTFs f
def okTs : List Ty → Prop
 | [] => True
 | v :: r => v.ok ∧ okTs r
def okTFs : List (Int × ByteArray × Int × Ty × List Vl) → Prop
 | [] => True
 | (_, n, _, t, d) :: r => (n.size ≤ 100 ∧ t.ok ∧ d.length ≤ 3 ∧ ∀ v ∈ d, v.small) ∧ okTFs r
end
theorem okTs_iff : ∀ l, okTs l ↔ ∀ v ∈ l, v.ok
 | [] => by simp [okTs]
 | v :: r => by simp [okTs, okTs_iff r]
theorem okTFs_iff : ∀ l, okTFs l ↔ ∀ p ∈ l, p.2.1.size ≤ 100 ∧ p.2.2.2.1.ok ∧ p.2.2.2.2.length ≤ 3 ∧ ∀ v ∈ p.2.2.2.2, v.small
 | [] => by simp [okTFs]
 | (_, n, _, t, d) :: r => by simp [okTFs, okTFs_iff r]
theorem Ty.ok_eq (t : Ty) : t.ok ↔ t.words.length ≤ 70 ∧ (∀ x ∈ t.words, x.size ≤ 2000) ∧ (∀ v ∈ t.elem, v.ok) ∧ ∀ p ∈ t.fields, p.2.1.size ≤ 100 ∧ p.2.2.2.1.ok ∧ p.2.2.2.2.length ≤ 3 ∧ ∀ v ∈ p.2.2.2.2, v.small := by
 cases t; simp only [Ty.ok, Ty.words, Ty.elem, Ty.fields, okTs_iff, okTFs_iff]
theorem Vl.ok_eq (v : Vl) : v.ok ↔ v.text.size ≤ 2000 ∧ (∀ x ∈ v.list, x.ok) ∧ ∀ p ∈ v.fields, p.1.size ≤ 100 ∧ p.2.ok := by
 cases v; simp only [Vl.ok, Vl.text, Vl.list, Vl.fields, okVs_iff, okFs_iff]
theorem depthTs_le : ∀ (l : List Ty) (d : Nat), depthTs l ≤ d ↔ ∀ v ∈ l, v.depth ≤ d
 | [], d => by simp [depthTs]
 | v :: r, d => by simp [depthTs, Nat.max_le, depthTs_le r d]
theorem depthTFs_le : ∀ (l : List (Int × ByteArray × Int × Ty × List Vl)) (d : Nat), depthTFs l ≤ d ↔ ∀ v ∈ l, v.2.2.2.1.depth ≤ d
 | [], d => by simp [depthTFs]
 | (_, _, _, t, _) :: r, d => by simp [depthTFs, Nat.max_le, depthTFs_le r d]
theorem depthVs_le : ∀ (l : List Vl) (d : Nat), depthVs l ≤ d ↔ ∀ v ∈ l, v.depth ≤ d
 | [], d => by simp [depthVs]
 | v :: r, d => by simp [depthVs, Nat.max_le, depthVs_le r d]
theorem depthFs_le : ∀ (l : List (ByteArray × Vl)) (d : Nat), depthFs l ≤ d ↔ ∀ v ∈ l, v.2.depth ≤ d
 | [], d => by simp [depthFs]
 | (_, t) :: r, d => by simp [depthFs, Nat.max_le, depthFs_le r d]
theorem Ty.depth_eq (t : Ty) : t.depth = 1 + Max.max (depthTs t.elem) (depthTFs t.fields) := by cases t; simp [Ty.depth, Ty.elem, Ty.fields]
theorem Vl.depth_eq (v : Vl) : v.depth = 1 + Max.max (depthVs v.list) (depthFs v.fields) := by cases v; simp [Vl.depth, Vl.list, Vl.fields]
theorem Vl.eta (v : Vl) : Vl.mk v.kind v.int v.scale v.text v.list v.fields = v := by cases v; rfl
theorem Ty.eta (v : Ty) : Ty.mk v.kind v.min v.max v.scale v.words v.elem v.fields = v := by cases v; rfl
theorem vclone_l25 (rec : Vl → Option Vl) (n : Nat) (v : Vl) (hs : v.fields.length ≤ 1000000000) (hr : ∀ p ∈ v.fields, rec p.2 = some p.2) (b : List Vl) : ∀ (k m i : Nat), i + k = v.fields.length → k < m → v_Clone_l25 rec n v m i b (v.fields.take i) = some (Vl.mk v.kind v.int v.scale v.text b v.fields)
 | k, 0, i, _, h => absurd h (Nat.not_lt_zero _)
 | 0, m + 1, i, hi, _ => by
  rw [v_Clone_l25, lt_int, decide_eq_false (by omega)]
  simp only [Bool.false_eq_true, if_false, v_Clone_k22]
  rw [List.take_of_length_le (by omega)]
 | k + 1, m + 1, i, hi, hm => by
  have hlt : i < v.fields.length := by omega
  rw [v_Clone_l25, lt_int, decide_eq_true hlt]
  simp only [if_true, idx_nat hlt, Option.bind_some, hr _ (List.getElem_mem hlt)]
  rw [if_pos (by rw [List.length_take]; omega), if_pos (I64_succ (by omega))]
  have e : v.fields.take i ++ [(v.fields[i].1, v.fields[i].2)] = v.fields.take (i + 1) := by rw [List.take_succ_eq_append_getElem hlt]
  rw [e]
  exact vclone_l25 rec n v hs hr b k m (i + 1) (by omega) (by omega)
theorem vclone_l8 (rec : Vl → Option Vl) (n : Nat) (v : Vl) (hs : v.fields.length ≤ 1000000000 ∧ v.list.length ≤ 1000000000) (hn : v.fields.length < n) (hr : (∀ x ∈ v.list, rec x = some x) ∧ ∀ p ∈ v.fields, rec p.2 = some p.2) : ∀ (k m i : Nat), i + k = v.list.length → k < m → v_Clone_l8 rec n v m i (v.list.take i) = some v
 | k, 0, i, _, h => absurd h (Nat.not_lt_zero _)
 | 0, m + 1, i, hi, _ => by
  rw [v_Clone_l8, lt_int, decide_eq_false (by omega)]
  simp only [Bool.false_eq_true, if_false, v_Clone_k5]
  rw [List.take_of_length_le (by omega)]
  have := vclone_l25 rec n v hs.1 hr.2 v.list v.fields.length n 0 (by omega) hn
  rw [List.take_zero] at this
  exact this.trans (by rw [Vl.eta])
 | k + 1, m + 1, i, hi, hm => by
  have hlt : i < v.list.length := by omega
  rw [v_Clone_l8, lt_int, decide_eq_true hlt]
  simp only [if_true, idx_nat hlt, Option.bind_some, hr.1 _ (List.getElem_mem hlt)]
  rw [if_pos (by rw [List.length_take]; omega), if_pos (I64_succ (by omega))]
  have e : v.list.take i ++ [v.list[i]] = v.list.take (i + 1) := by rw [List.take_succ_eq_append_getElem hlt]
  rw [e]
  exact vclone_l8 rec n v hs hn hr k m (i + 1) (by omega) (by omega)
theorem vClone_eq : ∀ (n : Nat) (v : Vl), v.size < n → v.size ≤ 1000000000 → v_Clone_F n v = some v
 | 0, v, h, _ => absurd h (Nat.not_lt_zero _)
 | n + 1, v, h, hs => by
  have hl := parts_len v
  rw [v_Clone_F, v_Clone_B]
  have := vclone_l8 (v_Clone_F n) n v ⟨by omega, by omega⟩ (by omega) ⟨fun x hx => vClone_eq n x (by have := v.list_size x hx; omega) (by have := v.list_size x hx; omega), fun p hp => vClone_eq n p.2 (by have := v.field_size p hp; omega) (by have := v.field_size p hp; omega)⟩ v.list.length n 0 (by omega) (by omega)
  rw [List.take_zero] at this
  exact this
abbrev TF := Int × ByteArray × Int × Ty × List Vl
theorem scf_l11 (rec : Ty → Option Ty) (n : Nat) (p : TF) (y : Ty) (hs : p.2.2.2.2.length ≤ 1000000000) (hr : ∀ v ∈ p.2.2.2.2, v_Clone_F n v = some v) : ∀ (k m i : Nat), i + k = p.2.2.2.2.length → k < m → s_cloneField_l11 rec n p y m (p.2.2.2.2.take i) i = some (p.1, p.2.1, p.2.2.1, y, p.2.2.2.2)
 | k, 0, i, _, h => absurd h (Nat.not_lt_zero _)
 | 0, m + 1, i, hi, _ => by
  rw [s_cloneField_l11, lt_int, decide_eq_false (by omega)]
  simp only [Bool.false_eq_true, if_false, s_cloneField_k8]
  rw [List.take_of_length_le (by omega)]
 | k + 1, m + 1, i, hi, hm => by
  have hlt : i < p.2.2.2.2.length := by omega
  rw [s_cloneField_l11, lt_int, decide_eq_true hlt]
  simp only [if_true, idx_nat hlt, Option.bind_some, hr _ (List.getElem_mem hlt)]
  rw [if_pos (by rw [List.length_take]; omega), if_pos (I64_succ (by omega))]
  have e : p.2.2.2.2.take i ++ [p.2.2.2.2[i]] = p.2.2.2.2.take (i + 1) := by rw [List.take_succ_eq_append_getElem hlt]
  rw [e]
  exact scf_l11 rec n p y hs hr k m (i + 1) (by omega) (by omega)
theorem scf_eq (rec : Ty → Option Ty) (n : Nat) (p : TF) (hs : p.2.2.2.2.length ≤ 1000000000) (hn : p.2.2.2.2.length < n) (hr : ∀ v ∈ p.2.2.2.2, v_Clone_F n v = some v) (ht : rec p.2.2.2.1 = some p.2.2.2.1) : s_cloneField_F rec n p = some p := by
 rw [s_cloneField_F, ht]
 simp only [Option.bind_some]
 rw [if_pos (by omega)]
 have := scf_l11 rec n p p.2.2.2.1 hs hr p.2.2.2.2.length n 0 (by omega) hn
 rw [List.take_zero] at this
 exact this
theorem sclone_l29 (rec : Ty → Option Ty) (n : Nat) (t : Ty) (hw : t.words.length ≤ 1000000000) (hs : t.fields.length ≤ 1000000000) (hr : ∀ p ∈ t.fields, s_cloneField_F rec n p = some p) (e : List Ty) : ∀ (k m i : Nat), i + k = t.fields.length → k < m → s_Clone_l29 rec n t m e (t.fields.take i) i = some (Ty.mk t.kind t.min t.max t.scale t.words e t.fields)
 | k, 0, i, _, h => absurd h (Nat.not_lt_zero _)
 | 0, m + 1, i, hi, _ => by
  rw [s_Clone_l29, lt_int, decide_eq_false (by omega)]
  simp only [Bool.false_eq_true, if_false, s_Clone_k26]
  rw [List.take_of_length_le (by omega), if_pos (by omega)]
 | k + 1, m + 1, i, hi, hm => by
  have hlt : i < t.fields.length := by omega
  rw [s_Clone_l29, lt_int, decide_eq_true hlt]
  simp only [if_true, idx_nat hlt, Option.bind_some, hr _ (List.getElem_mem hlt)]
  rw [if_pos (by rw [List.length_take]; omega), if_pos (I64_succ (by omega))]
  have e' : t.fields.take i ++ [t.fields[i]] = t.fields.take (i + 1) := by rw [List.take_succ_eq_append_getElem hlt]
  rw [e']
  exact sclone_l29 rec n t hw hs hr e k m (i + 1) (by omega) (by omega)
theorem sclone_l9 (rec : Ty → Option Ty) (n : Nat) (t : Ty) (hw : t.words.length ≤ 1000000000) (hs : t.fields.length ≤ 1000000000 ∧ t.elem.length ≤ 1000000000) (hn : t.fields.length < n) (hr : (∀ x ∈ t.elem, rec x = some x) ∧ ∀ p ∈ t.fields, s_cloneField_F rec n p = some p) : ∀ (k m i : Nat), i + k = t.elem.length → k < m → s_Clone_l9 rec n t m (t.elem.take i) i = some t
 | k, 0, i, _, h => absurd h (Nat.not_lt_zero _)
 | 0, m + 1, i, hi, _ => by
  rw [s_Clone_l9, lt_int, decide_eq_false (by omega)]
  simp only [Bool.false_eq_true, if_false, s_Clone_k6]
  rw [List.take_of_length_le (by omega), if_pos (by omega)]
  have := sclone_l29 rec n t hw hs.1 hr.2 t.elem t.fields.length n 0 (by omega) hn
  rw [List.take_zero] at this
  exact this.trans (by rw [Ty.eta])
 | k + 1, m + 1, i, hi, hm => by
  have hlt : i < t.elem.length := by omega
  rw [s_Clone_l9, lt_int, decide_eq_true hlt]
  simp only [if_true, idx_nat hlt, Option.bind_some, hr.1 _ (List.getElem_mem hlt)]
  rw [if_pos (by rw [List.length_take]; omega), if_pos (I64_succ (by omega))]
  have e : t.elem.take i ++ [t.elem[i]] = t.elem.take (i + 1) := by rw [List.take_succ_eq_append_getElem hlt]
  rw [e]
  exact sclone_l9 rec n t hw hs hn hr k m (i + 1) (by omega) (by omega)
theorem sClone_eq : ∀ (n : Nat) (t : Ty), t.size + 400 < n → t.size ≤ 1000000000 → t.ok → s_Clone_F n t = some t
 | 0, t, h, _, _ => absurd h (Nat.not_lt_zero _)
 | n + 1, t, h, hs, hok => by
  have hl := t.lens
  obtain ⟨o1, o2, o3, o4⟩ := t.ok_eq.1 hok
  rw [s_Clone_F, s_Clone_B, if_pos (by omega)]
  have := sclone_l9 (s_Clone_F n) n t (by omega) ⟨by omega, by omega⟩ (by omega) ⟨fun x hx => sClone_eq n x (by have := t.elem_size x hx; omega) (by have := t.elem_size x hx; omega) (o3 x hx), fun p hp => by
   obtain ⟨_, q2, q3, q4⟩ := o4 p hp
   have := t.field_size p hp
   exact scf_eq _ n p (by omega) (by omega) (fun v hv => vClone_eq n v (by have := (q4 v hv).1; omega) (by have := (q4 v hv).1; omega)) (sClone_eq n _ (by omega) (by omega) q2)⟩ t.elem.length n 0 (by omega) (by omega)
  rw [List.take_zero] at this
  exact this
def r4_sign_F (a0 : Int) (a1 : Int) : Int :=
 if decide (a0 < a1) then
  (-1)
 else
  if decide (a1 < a0) then
   1
  else
   0
theorem r4_sign_at (w0 : World) (B : List (List AV)) (Rw : List RowA) (L : List LoopA) (a0 : Int) (a1 : Int) (r : Int) (h : r4_sign_F a0 a1 = r) :
  ACalls Tryz.prog w0 111 [.val (.int .i64 a0), .val (.int .i64 a1)] ⟨B, Rw, L⟩ fun x st => x = .val (.int .i64 r) ∧ st = ⟨B, Rw, L⟩ := by
 rw [r4_sign_F] at h
 refine hd [.tmp 4] Tryz.func111 Tryz.ntmps111 fun M0 W0 hN hNR hNL hcalm hu hO hs => ?_
 simp only [argsE]
 refine rg [0, 1] hs ?_
 apply awp_seq; intro K2 hK2
 apply awp_block
 refine rg [0, 1, 5] hs ?_
 refine cnd h hs (fun hs h => ?_) (fun hs h => ?_)
 ·
  have hb4 := hs.1
  refine rg [4] hs ?_
  apply awp_ret; simp +decide only [go_sem, Nat.reduceAdd, hb4]
  subst h
  first | refine fin_q0 hcalm rfl hO.pre ev ⟨?_, rfl⟩ | refine fin_q hcalm rfl hO.pre ev ⟨?_, rfl⟩
  first | rfl | (simp +decide only [go_sem, Nat.reduceAdd, hb4]; done) | (simp +decide only [go_sem, Nat.reduceAdd, Vl.cs, Ty.cs, hb4]; done)
 have hb4 := hs.1
 refine rg [9] hs ?_
 refine cnd h hs (fun hs h => ?_) (fun hs h => ?_)
 ·
  have hb7 := hs.1
  refine rg [4] hs ?_
  apply awp_ret; simp +decide only [go_sem, Nat.reduceAdd, hb4, hb7]
  subst h
  first | refine fin_q0 hcalm rfl hO.pre ev ⟨?_, rfl⟩ | refine fin_q hcalm rfl hO.pre ev ⟨?_, rfl⟩
  first | rfl | (simp +decide only [go_sem, Nat.reduceAdd, hb4, hb7]; done) | (simp +decide only [go_sem, Nat.reduceAdd, Vl.cs, Ty.cs, hb4, hb7]; done)
 have hb7 := hs.1
 refine sk [] hs hK2 ?_
 clear hK2
 refine rg [4] hs ?_
 apply awp_ret; simp +decide only [go_sem, Nat.reduceAdd, hb4, hb7]
 subst h
 first | refine fin_q0 hcalm rfl hO.pre ev ⟨?_, rfl⟩ | refine fin_q hcalm rfl hO.pre ev ⟨?_, rfl⟩
 first | rfl | (simp +decide only [go_sem, Nat.reduceAdd, hb4, hb7]; done) | (simp +decide only [go_sem, Nat.reduceAdd, Vl.cs, Ty.cs, hb4, hb7]; done)
theorem r4_sign_at' (w0 : World) (B : List (List AV)) (Rw : List RowA) (L : List LoopA) (a0 : Int) (a1 : Int) :
  ACalls Tryz.prog w0 111 [.val (.int .i64 a0), .val (.int .i64 a1)] ⟨B, Rw, L⟩ fun x st => x = .val (.int .i64 (r4_sign_F a0 a1)) ∧ st = ⟨B, Rw, L⟩ := r4_sign_at w0 B Rw L a0 a1 _ rfl
def r4_Compare_k43 (rec : Vl → Vl → Option Int) (n : Nat) (a0 : Vl) (a1 : Vl) : Option Int :=
 some (r4_sign_F ((a0.fields.length : Int)) ((a1.fields.length : Int)))
def r4_Compare_l46 (rec : Vl → Vl → Option Int) (n : Nat) (a0 : Vl) (a1 : Vl) : Nat → Int → Option Int
 | 0, _ => none
 | m + 1, x8_l46 =>
  if (decide (x8_l46 < ((a0.fields.length : Int)))) && (decide (x8_l46 < ((a1.fields.length : Int)))) then
   (idx a0.fields x8_l46).bind fun x53 =>
   (idx a1.fields x8_l46).bind fun x54 =>
   if x53.1.size ≤ maxLen then
    if x54.1.size ≤ maxLen then
     if !(decide ((cmpS x53.1 x54.1) = 0)) then
      some (cmpS x53.1 x54.1)
     else
      (rec x53.2 x54.2).bind fun y61 =>
      if !(decide (y61 = 0)) then
       some (y61)
      else
       if I64 (x8_l46 + 1) then
        (r4_Compare_l46 rec n a0 a1 m) (x8_l46 + 1)
       else none
    else none
   else none
  else
   r4_Compare_k43 rec n a0 a1 
def r4_Compare_k22 (rec : Vl → Vl → Option Int) (n : Nat) (a0 : Vl) (a1 : Vl) : Option Int :=
 if !(decide (((a0.list.length : Int)) = ((a1.list.length : Int)))) then
  some (r4_sign_F ((a0.list.length : Int)) ((a1.list.length : Int)))
 else
  r4_Compare_l46 rec n a0 a1 n 0
def r4_Compare_l25 (rec : Vl → Vl → Option Int) (n : Nat) (a0 : Vl) (a1 : Vl) : Nat → Int → Option Int
 | 0, _ => none
 | m + 1, x6_l25 =>
  if (decide (x6_l25 < ((a0.list.length : Int)))) && (decide (x6_l25 < ((a1.list.length : Int)))) then
   (idx a0.list x6_l25).bind fun x31 =>
   (idx a1.list x6_l25).bind fun x32 =>
   (rec x31 x32).bind fun y33 =>
   if !(decide (y33 = 0)) then
    some (y33)
   else
    if I64 (x6_l25 + 1) then
     (r4_Compare_l25 rec n a0 a1 m) (x6_l25 + 1)
    else none
  else
   r4_Compare_k22 rec n a0 a1 
def r4_Compare_B (rec : Vl → Vl → Option Int) (n : Nat) (a0 : Vl) (a1 : Vl) : Option Int :=
 if !(decide (a0.kind = a1.kind)) then
  some (r4_sign_F a0.kind a1.kind)
 else
  if !(decide (a0.int = a1.int)) then
   some (r4_sign_F a0.int a1.int)
  else
   if !(decide (a0.scale = a1.scale)) then
    some (r4_sign_F a0.scale a1.scale)
   else
    if a0.text.size ≤ maxLen then
     if a1.text.size ≤ maxLen then
      if !(decide ((cmpS a0.text a1.text) = 0)) then
       some (cmpS a0.text a1.text)
      else
       r4_Compare_l25 rec n a0 a1 n 0
     else none
    else none
def r4_Compare_F : Nat → Vl → Vl → Option Int
 | 0, _, _ => none
 | n + 1, a0, a1 => r4_Compare_B (r4_Compare_F n) n a0 a1
def r4_Compare_C (w0 : World) (F : Vl → Vl → Option Int) : Prop := ∀ (B : List (List AV)) (Rw : List RowA) (L : List LoopA) (a0 : Vl) (a1 : Vl) (r : Int), F a0 a1 = some r → ACalls Tryz.prog w0 62 [.agg (a0.cs), .agg (a1.cs)] ⟨B, Rw, L⟩ fun x st => x = .val (.int .i64 r) ∧ st = ⟨B, Rw, L⟩
theorem r4_Compare_step (w0 : World) (rec : Vl → Vl → Option Int) (ih : r4_Compare_C w0 rec) (n : Nat) : r4_Compare_C w0 (r4_Compare_B rec n) := by
 intro B Rw L a0 a1 r h
 rw [r4_Compare_B] at h
 refine hd [.tmp 4] Tryz.func62 Tryz.ntmps62 fun M0 W0 hN hNR hNL hcalm hu hO hs => ?_
 simp only [argsE]
 refine rg [2, 3] hs ?_
 apply awp_seq; intro K2 hK2
 refine rg [2, 3, 15] hs ?_
 refine cnd h hs (fun hs h => ?_) (fun hs h => ?_)
 ·
  have hb4 := hs.1
  refine rc 2 [4] hs ?_; intro K5 hK5
  refine callK_p _ (r4_sign_at' w0 _ _ _ a0.kind a1.kind) (hv hs) ?_
  refine ne hs hK5 ?_
  clear hK5
  exact rt h hs hcalm hO
 have hb4 := hs.1
 refine sk [2, 3] hs hK2 ?_
 clear hK2
 apply awp_seq; intro K6 hK6
 refine rg [2, 3, 25] hs ?_
 refine cnd h hs (fun hs h => ?_) (fun hs h => ?_)
 ·
  have hb8 := hs.1
  refine rc 2 [4] hs ?_; intro K9 hK9
  refine callK_p _ (r4_sign_at' w0 _ _ _ a0.int a1.int) (hv hs) ?_
  refine ne hs hK9 ?_
  clear hK9
  exact rt h hs hcalm hO
 have hb8 := hs.1
 refine sk [2, 3] hs hK6 ?_
 clear hK6
 apply awp_seq; intro K10 hK10
 refine rg [2, 3, 35] hs ?_
 refine cnd h hs (fun hs h => ?_) (fun hs h => ?_)
 ·
  have hb12 := hs.1
  refine rc 2 [4] hs ?_; intro K13 hK13
  refine callK_p _ (r4_sign_at' w0 _ _ _ a0.scale a1.scale) (hv hs) ?_
  refine ne hs hK13 ?_
  clear hK13
  exact rt h hs hcalm hO
 have hb12 := hs.1
 refine sk [2, 3] hs hK10 ?_
 clear hK10
 apply awp_seq; intro K14 hK14
 obtain ⟨hg16, h⟩ := guard_some h
 obtain ⟨hg17, h⟩ := guard_some h
 refine rc 2 [2, 3, 5] hs ?_; intro K15 hK15
 refine callK_p _ (text_at w0 _ _ _ a0.text a1.text hg16 hg17) (hv hs) ?_
 refine ne hs hK15 ?_
 clear hK15
 refine rg [2, 3, 5, 47] hs ?_
 refine cnd h hs (fun hs h => ?_) (fun hs h => ?_)
 ·
  have hb19 := hs.1
  refine rg [4] hs ?_
  exact rt h hs hcalm hO
 have hb19 := hs.1
 refine sk [2, 3] hs hK14 ?_
 clear hK14
 refine awp_mid (fun e st => Ck e st B Rw L [(2, true, .box B.length 0), (3, true, .box (B.length + 1) 0)] [a0.cs, a1.cs] [] (r4_Compare_k22 rec n a0 a1  = some r)) ?_ ?_
 ·
  intro K23 hK23
  refine rg [2, 3, 6] hs ?_
  apply awp_block
  refine awp_loop (fun m e st => ∃ (x6_l25 : Int), Ck e st B Rw L [(2, true, .box B.length 0), (3, true, .box (B.length + 1) 0), (6, true, .val (.int .i64 x6_l25))] [a0.cs, a1.cs] [] (r4_Compare_l25 rec n a0 a1 m x6_l25 = some r)) n ⟨0, ([]), Rw, ef hs, ef hs, hO, h⟩ ?_
  rintro ml25 e st ⟨x6_l25, Xl25, Rl25, rfl, rfl, hO, h⟩ Ul25 Vl25
  cases ml25 with
  | zero => cases h
  | succ ml25 =>
  rw [r4_Compare_l25] at h
  refine td hN hNR hNL hcalm hO ?_
  apply awp_seq; intro K26 hK26
  refine rg [2, 3, 6, 60] hs ?_
  refine cnd h hs (fun hs h => ?_) (fun hs h => ?_)
  rotate_left
  ·
   have hb28 := hs.1
   refine sx [2, 3] hs hK23 ?_
   exact ⟨([]), Rl25, ef hs, ef hs, hO, h⟩
  have hb28 := hs.1
  refine sk [2, 3, 6] hs hK26 ?_
  clear hK26
  apply awp_seq; intro K29 hK29
  apply awp_block
  apply awp_seq; intro K30 hK30
  obtain ⟨x31, hx31a, hx31b, hx31d, h⟩ := ix avV h
  obtain ⟨x32, hx32a, hx32b, hx32d, h⟩ := ix avV h
  obtain ⟨y33, hy33, h⟩ := bind_some h
  apply awp_draw mix 12 2 1 [2, 3, 6, 7] (by kernel_rfl)
  rw [evK_succ]; simp +decide only [go_sem, Nat.reduceAdd, hb4, hb8, hb12, hb19, hb28, hx31d, hx32d]
  have hs := And.intro hx31d hs
  have hs := And.intro hx32d hs
  (repeat' apply And.intro) <;> first | refine callK_p _ (ih _ _ _ x31 x32 _ hy33) (hv hs) ?_ | exact cl
  rw [evK_succ]; simp +decide only [go_sem, Nat.reduceAdd, hb4, hb8, hb12, hb19, hb28, hx31d, hx32d]
  (repeat' with_reducible apply And.intro) <;> first | (rw [evK_succ]; simp +decide only [go_sem, Nat.reduceAdd, hb4, hb8, hb12, hb19, hb28, hx31d, hx32d]) | exact cl
  (repeat' apply And.intro) <;> first | refine hK30 _ _ ?_ | exact cl
  clear hK30
  refine rg [2, 3, 6, 7, 75] hs ?_
  refine cnd h hs (fun hs h => ?_) (fun hs h => ?_)
  ·
   refine rg [4] hs ?_
   exact rt h hs hcalm hO
  refine sk [2, 3, 6] hs hK29 ?_
  clear hK29
  obtain ⟨hg37, h⟩ := guard_some h
  refine rl [2, 3, 6] hs (fun e s => Vl25 ml25 e s (Nat.lt_succ_self _)) ?_
  exact ⟨(x6_l25 + 1), ([]), Rl25, ef hs, ef hs, hO, h⟩
 ·
  clear h; rintro e st ⟨Xk22, Rk22, rfl, rfl, hO, h⟩
  rw [r4_Compare_k22] at h
  refine td hN hNR hNL hcalm hO ?_
  apply awp_seq; intro K38 hK38
  refine rg [2, 3, 83] hs ?_
  refine cnd h hs (fun hs h => ?_) (fun hs h => ?_)
  ·
   have hb40 := hs.1
   refine rc 2 [4] hs ?_; intro K41 hK41
   refine callK_p _ (r4_sign_at' w0 _ _ _ ((a0.list.length : Int)) ((a1.list.length : Int))) (hv hs) ?_
   refine ne hs hK41 ?_
   clear hK41
   exact rt h hs hcalm hO
  have hb40 := hs.1
  refine sk [2, 3] hs hK38 ?_
  clear hK38
  refine awp_mid (fun e st => Ck e st B Rw L [(2, true, .box B.length 0), (3, true, .box (B.length + 1) 0)] [a0.cs, a1.cs] [] (r4_Compare_k43 rec n a0 a1  = some r)) ?_ ?_
  ·
   intro K44 hK44
   refine rg [2, 3, 8] hs ?_
   apply awp_block
   refine awp_loop (fun m e st => ∃ (x8_l46 : Int), Ck e st B Rw L [(2, true, .box B.length 0), (3, true, .box (B.length + 1) 0), (8, true, .val (.int .i64 x8_l46))] [a0.cs, a1.cs] [] (r4_Compare_l46 rec n a0 a1 m x8_l46 = some r)) n ⟨0, ([]), Rk22, ef hs, ef hs, hO, h⟩ ?_
   rintro ml46 e st ⟨x8_l46, Xl46, Rl46, rfl, rfl, hO, h⟩ Ul46 Vl46
   cases ml46 with
   | zero => cases h
   | succ ml46 =>
   rw [r4_Compare_l46] at h
   refine td hN hNR hNL hcalm hO ?_
   apply awp_seq; intro K47 hK47
   refine rg [2, 3, 8, 102] hs ?_
   refine cnd h hs (fun hs h => ?_) (fun hs h => ?_)
   rotate_left
   ·
    have hb49 := hs.1
    refine sx [2, 3] hs hK44 ?_
    exact ⟨([]), Rl46, ef hs, ef hs, hO, h⟩
   have hb49 := hs.1
   refine sk [2, 3, 8] hs hK47 ?_
   clear hK47
   apply awp_seq; intro K50 hK50
   apply awp_block
   apply awp_seq; intro K51 hK51
   apply awp_seq; intro K52 hK52
   obtain ⟨x53, hx53a, hx53b, hx53d, h⟩ := ix avF h
   obtain ⟨x54, hx54a, hx54b, hx54d, h⟩ := ix avF h
   obtain ⟨hg55, h⟩ := guard_some h
   obtain ⟨hg56, h⟩ := guard_some h
   apply awp_draw mix 14 2 1 [2, 3, 8, 9] (by kernel_rfl)
   rw [evK_succ]; simp +decide only [go_sem, Nat.reduceAdd, hb4, hb8, hb12, hb19, hb40, hb49, hx53d, hx54d]
   have hs := And.intro hx53d hs
   have hs := And.intro hx54d hs
   (repeat' apply And.intro) <;> first | refine callK_p _ (text_at w0 _ _ _ x53.1 x54.1 hg55 hg56) (hv hs) ?_ | exact cl
   rw [evK_succ]; simp +decide only [go_sem, Nat.reduceAdd, hb4, hb8, hb12, hb19, hb40, hb49, hx53d, hx54d]
   (repeat' with_reducible apply And.intro) <;> first | (rw [evK_succ]; simp +decide only [go_sem, Nat.reduceAdd, hb4, hb8, hb12, hb19, hb40, hb49, hx53d, hx54d]) | exact cl
   (repeat' apply And.intro) <;> first | refine hK52 _ _ ?_ | exact cl
   clear hK52
   refine rg [2, 3, 8, 9, 119] hs ?_
   refine cnd h hs (fun hs h => ?_) (fun hs h => ?_)
   ·
    have hb58 := hs.1
    refine rg [4] hs ?_
    exact rt h hs hcalm hO
   have hb58 := hs.1
   refine sk [2, 3, 8] hs hK51 ?_
   clear hK51
   apply awp_seq; intro K60 hK60
   obtain ⟨y61, hy61, h⟩ := bind_some h
   apply awp_draw mix 14 2 1 [2, 3, 8, 10] (by kernel_rfl)
   rw [evK_succ]; simp +decide only [go_sem, Nat.reduceAdd, hb4, hb8, hb12, hb19, hb40, hb49, hx53d, hx54d, hb58]
   (repeat' apply And.intro) <;> first | refine callK_p _ (ih _ _ _ x53.2 x54.2 _ hy61) (hv hs) ?_ | exact cl
   rw [evK_succ]; simp +decide only [go_sem, Nat.reduceAdd, hb4, hb8, hb12, hb19, hb40, hb49, hx53d, hx54d, hb58]
   (repeat' with_reducible apply And.intro) <;> first | (rw [evK_succ]; simp +decide only [go_sem, Nat.reduceAdd, hb4, hb8, hb12, hb19, hb40, hb49, hx53d, hx54d, hb58]) | exact cl
   (repeat' apply And.intro) <;> first | refine hK60 _ _ ?_ | exact cl
   clear hK60
   refine rg [2, 3, 8, 10, 135] hs ?_
   refine cnd h hs (fun hs h => ?_) (fun hs h => ?_)
   ·
    refine rg [4] hs ?_
    exact rt h hs hcalm hO
   refine sk [2, 3, 8] hs hK50 ?_
   clear hK50
   obtain ⟨hg65, h⟩ := guard_some h
   refine rl [2, 3, 8] hs (fun e s => Vl46 ml46 e s (Nat.lt_succ_self _)) ?_
   exact ⟨(x8_l46 + 1), ([]), Rl46, ef hs, ef hs, hO, h⟩
  ·
   clear h; rintro e st ⟨Xk43, Rk43, rfl, rfl, hO, h⟩
   rw [r4_Compare_k43] at h
   refine td hN hNR hNL hcalm hO ?_
   refine rc 2 [4] hs ?_; intro K66 hK66
   refine callK_p _ (r4_sign_at' w0 _ _ _ ((a0.fields.length : Int)) ((a1.fields.length : Int))) (hv hs) ?_
   refine ne hs hK66 ?_
   clear hK66
   exact rt h hs hcalm hO
theorem r4_Compare_at (w0 : World) : ∀ n : Nat, r4_Compare_C w0 (r4_Compare_F n)
 | 0 => fun _ _ _ _ _ _ h => (nomatch h)
 | n + 1 => r4_Compare_step w0 (r4_Compare_F n) (r4_Compare_at w0 n) n
def r4_Equal_F (n : Nat) (a0 : Vl) (a1 : Vl) : Option Bool :=
 (r4_Compare_F n a0 a1).bind fun y3 =>
 some (decide (y3 = 0))
theorem r4_Equal_at (w0 : World) (n : Nat) (B : List (List AV)) (Rw : List RowA) (L : List LoopA) (a0 : Vl) (a1 : Vl) (r : Bool) (h : r4_Equal_F n a0 a1 = some r) :
  ACalls Tryz.prog w0 24 [.agg (a0.cs), .agg (a1.cs)] ⟨B, Rw, L⟩ fun x st => x = .val (.bool r) ∧ st = ⟨B, Rw, L⟩ := by
 rw [r4_Equal_F] at h
 refine hd [.tmp 4] Tryz.func24 Tryz.ntmps24 fun M0 W0 hN hNR hNL hcalm hu hO hs => ?_
 simp only [argsE]
 refine rg [2, 3] hs ?_
 obtain ⟨y3, hy3, h⟩ := bind_some h
 refine rc 2 [4] hs ?_; intro K2 hK2
 refine callK_p _ (r4_Compare_at w0 n _ _ _ a0 a1 _ hy3) (hv hs) ?_
 refine ne hs hK2 ?_
 clear hK2
 exact rt h hs hcalm hO
def r6_Equal_k46 (rec : Ty → Ty → Option Bool) (n : Nat) (again_l41 : Int → Option Bool) (x7_l41 : Int) : Option Bool :=
 if I64 (x7_l41 + 1) then
  again_l41 (x7_l41 + 1)
 else none
def r6_Equal_k38 (rec : Ty → Ty → Option Bool) (n : Nat)  : Option Bool :=
 some (true)
def r6_Equal_l60 (rec : Ty → Ty → Option Bool) (n : Nat) (again_l41 : Int → Option Bool) (x7_l41 : Int) (x49 : Int × ByteArray × Int × Ty × List Vl) (x50 : Int × ByteArray × Int × Ty × List Vl) : Nat → Int → Option Bool
 | 0, _ => none
 | m + 1, x10_l60 =>
  if decide (x10_l60 < ((x49.2.2.2.2.length : Int))) then
   (idx x49.2.2.2.2 x10_l60).bind fun x66 =>
   (idx x50.2.2.2.2 x10_l60).bind fun x67 =>
   (r4_Equal_F n x66 x67).bind fun y68 =>
   if !y68 then
    some (false)
   else
    if I64 (x10_l60 + 1) then
     (r6_Equal_l60 rec n again_l41 x7_l41 x49 x50 m) (x10_l60 + 1)
    else none
  else
   r6_Equal_k46 rec n again_l41 x7_l41 
def r6_Equal_l41 (rec : Ty → Ty → Option Bool) (n : Nat) (a0 : Ty) (a1 : Ty) : Nat → Int → Option Bool
 | 0, _ => none
 | m + 1, x7_l41 =>
  if decide (x7_l41 < ((a0.fields.length : Int))) then
   (idx a0.fields x7_l41).bind fun x49 =>
   (idx a1.fields x7_l41).bind fun x50 =>
   if (((!(decide (x49.1 = x50.1))) || (!(sEq x49.2.1 x50.2.1))) || (!(decide (x49.2.2.1 = x50.2.2.1)))) || (!(decide (((x49.2.2.2.2.length : Int)) = ((x50.2.2.2.2.length : Int))))) then
    some (false)
   else
    (rec x49.2.2.2.1 x50.2.2.2.1).bind fun y56 =>
    if !y56 then
     some (false)
    else
     r6_Equal_l60 rec n (r6_Equal_l41 rec n a0 a1 m) x7_l41 x49 x50 n 0
  else
   r6_Equal_k38 rec n 
def r6_Equal_k22 (rec : Ty → Ty → Option Bool) (n : Nat) (a0 : Ty) (a1 : Ty) : Option Bool :=
 r6_Equal_l41 rec n a0 a1 n 0
def r6_Equal_l25 (rec : Ty → Ty → Option Bool) (n : Nat) (a0 : Ty) (a1 : Ty) : Nat → Int → Option Bool
 | 0, _ => none
 | m + 1, x6_l25 =>
  if decide (x6_l25 < ((a0.elem.length : Int))) then
   (idx a0.elem x6_l25).bind fun x31 =>
   (idx a1.elem x6_l25).bind fun x32 =>
   (rec x31 x32).bind fun y33 =>
   if !y33 then
    some (false)
   else
    if I64 (x6_l25 + 1) then
     (r6_Equal_l25 rec n a0 a1 m) (x6_l25 + 1)
    else none
  else
   r6_Equal_k22 rec n a0 a1 
def r6_Equal_k7 (rec : Ty → Ty → Option Bool) (n : Nat) (a0 : Ty) (a1 : Ty) : Option Bool :=
 r6_Equal_l25 rec n a0 a1 n 0
def r6_Equal_l10 (rec : Ty → Ty → Option Bool) (n : Nat) (a0 : Ty) (a1 : Ty) : Nat → Int → Option Bool
 | 0, _ => none
 | m + 1, x5_l10 =>
  if decide (x5_l10 < ((a0.words.length : Int))) then
   (idx a0.words x5_l10).bind fun x16 =>
   (idx a1.words x5_l10).bind fun x17 =>
   if !(sEq x16 x17) then
    some (false)
   else
    if I64 (x5_l10 + 1) then
     (r6_Equal_l10 rec n a0 a1 m) (x5_l10 + 1)
    else none
  else
   r6_Equal_k7 rec n a0 a1 
def r6_Equal_B (rec : Ty → Ty → Option Bool) (n : Nat) (a0 : Ty) (a1 : Ty) : Option Bool :=
 if ((((((!(decide (a0.kind = a1.kind))) || (!(decide (a0.min = a1.min)))) || (!(decide (a0.max = a1.max)))) || (!(decide (a0.scale = a1.scale)))) || (!(decide (((a0.words.length : Int)) = ((a1.words.length : Int)))))) || (!(decide (((a0.elem.length : Int)) = ((a1.elem.length : Int)))))) || (!(decide (((a0.fields.length : Int)) = ((a1.fields.length : Int))))) then
  some (false)
 else
  r6_Equal_l10 rec n a0 a1 n 0
def r6_Equal_F : Nat → Ty → Ty → Option Bool
 | 0, _, _ => none
 | n + 1, a0, a1 => r6_Equal_B (r6_Equal_F n) n a0 a1
def r6_Equal_C (w0 : World) (F : Ty → Ty → Option Bool) : Prop := ∀ (B : List (List AV)) (Rw : List RowA) (L : List LoopA) (a0 : Ty) (a1 : Ty) (r : Bool), F a0 a1 = some r → ACalls Tryz.prog w0 30 [.agg (a0.cs), .agg (a1.cs)] ⟨B, Rw, L⟩ fun x st => x = .val (.bool r) ∧ st = ⟨B, Rw, L⟩
theorem r6_Equal_step (w0 : World) (rec : Ty → Ty → Option Bool) (ih : r6_Equal_C w0 rec) (n : Nat) : r6_Equal_C w0 (r6_Equal_B rec n) := by
 intro B Rw L a0 a1 r h
 rw [r6_Equal_B] at h
 refine hd [.tmp 4] Tryz.func30 Tryz.ntmps30 fun M0 W0 hN hNR hNL hcalm hu hO hs => ?_
 simp only [argsE]
 refine rg [2, 3] hs ?_
 apply awp_seq; intro K2 hK2
 refine rg [2, 3, 63] hs ?_
 refine cnd h hs (fun hs h => ?_) (fun hs h => ?_)
 ·
  have hb4 := hs.1
  refine rg [4] hs ?_
  exact rt h hs hcalm hO
 have hb4 := hs.1
 refine sk [2, 3] hs hK2 ?_
 clear hK2
 refine awp_mid (fun e st => Ck e st B Rw L [(2, true, .box B.length 0), (3, true, .box (B.length + 1) 0)] [a0.cs, a1.cs] [] (r6_Equal_k7 rec n a0 a1  = some r)) ?_ ?_
 ·
  intro K8 hK8
  refine rg [2, 3, 5] hs ?_
  apply awp_block
  refine awp_loop (fun m e st => ∃ (x5_l10 : Int), Ck e st B Rw L [(2, true, .box B.length 0), (3, true, .box (B.length + 1) 0), (5, true, .val (.int .i64 x5_l10))] [a0.cs, a1.cs] [] (r6_Equal_l10 rec n a0 a1 m x5_l10 = some r)) n ⟨0, ([]), Rw, ef hs, ef hs, hO, h⟩ ?_
  rintro ml10 e st ⟨x5_l10, Xl10, Rl10, rfl, rfl, hO, h⟩ Ul10 Vl10
  cases ml10 with
  | zero => cases h
  | succ ml10 =>
  rw [r6_Equal_l10] at h
  refine td hN hNR hNL hcalm hO ?_
  apply awp_seq; intro K11 hK11
  refine rg [2, 3, 5, 68] hs ?_
  refine cnd h hs (fun hs h => ?_) (fun hs h => ?_)
  rotate_left
  ·
   refine sx [2, 3] hs hK8 ?_
   exact ⟨([]), Rl10, ef hs, ef hs, hO, h⟩
  refine sk [2, 3, 5] hs hK11 ?_
  clear hK11
  apply awp_seq; intro K14 hK14
  apply awp_block
  obtain ⟨x16, hx16, h⟩ := bind_some h
  obtain ⟨hx16a, hx16b, hx16c⟩ := idx_some hx16
  have hx16d := getD_map (f := avS) hx16c
  obtain ⟨x17, hx17, h⟩ := bind_some h
  obtain ⟨hx17a, hx17b, hx17c⟩ := idx_some hx17
  have hx17d := getD_map (f := avS) hx17c
  have hs := And.intro hx16d hs
  have hs := And.intro hx17d hs
  refine dg 11 1 1 [2, 3, 5, 81] hs mix ?_
  refine cnd h hs (fun hs h => ?_) (fun hs h => ?_)
  ·
   refine rg [4] hs ?_
   exact rt h hs hcalm hO
  refine sk [2, 3, 5] hs hK14 ?_
  clear hK14
  obtain ⟨hg20, h⟩ := guard_some h
  refine rl [2, 3, 5] hs (fun e s => Vl10 ml10 e s (Nat.lt_succ_self _)) ?_
  exact ⟨(x5_l10 + 1), ([]), Rl10, ef hs, ef hs, hO, h⟩
 ·
  clear h; rintro e st ⟨Xk7, Rk7, rfl, rfl, hO, h⟩
  rw [r6_Equal_k7] at h
  refine td hN hNR hNL hcalm hO ?_
  refine awp_mid (fun e st => Ck e st B Rw L [(2, true, .box B.length 0), (3, true, .box (B.length + 1) 0)] [a0.cs, a1.cs] [] (r6_Equal_k22 rec n a0 a1  = some r)) ?_ ?_
  ·
   intro K23 hK23
   refine rg [2, 3, 6] hs ?_
   apply awp_block
   refine awp_loop (fun m e st => ∃ (x6_l25 : Int), Ck e st B Rw L [(2, true, .box B.length 0), (3, true, .box (B.length + 1) 0), (6, true, .val (.int .i64 x6_l25))] [a0.cs, a1.cs] [] (r6_Equal_l25 rec n a0 a1 m x6_l25 = some r)) n ⟨0, ([]), Rk7, ef hs, ef hs, hO, h⟩ ?_
   rintro ml25 e st ⟨x6_l25, Xl25, Rl25, rfl, rfl, hO, h⟩ Ul25 Vl25
   cases ml25 with
   | zero => cases h
   | succ ml25 =>
   rw [r6_Equal_l25] at h
   refine td hN hNR hNL hcalm hO ?_
   apply awp_seq; intro K26 hK26
   refine rg [2, 3, 6, 86] hs ?_
   refine cnd h hs (fun hs h => ?_) (fun hs h => ?_)
   rotate_left
   ·
    have hb28 := hs.1
    refine sx [2, 3] hs hK23 ?_
    exact ⟨([]), Rl25, ef hs, ef hs, hO, h⟩
   have hb28 := hs.1
   refine sk [2, 3, 6] hs hK26 ?_
   clear hK26
   apply awp_seq; intro K29 hK29
   apply awp_block
   apply awp_seq; intro K30 hK30
   obtain ⟨x31, hx31a, hx31b, hx31d, h⟩ := ix avT h
   obtain ⟨x32, hx32a, hx32b, hx32d, h⟩ := ix avT h
   obtain ⟨y33, hy33, h⟩ := bind_some h
   apply awp_draw mix 12 2 1 [2, 3, 6, 100] (by kernel_rfl)
   rw [evK_succ]; simp +decide only [go_sem, Nat.reduceAdd, hb4, hb28, hx31d, hx32d]
   have hs := And.intro hx31d hs
   have hs := And.intro hx32d hs
   (repeat' apply And.intro) <;> first | refine callK_p _ (ih _ _ _ x31 x32 _ hy33) (hv hs) ?_ | exact cl
   rw [evK_succ]; simp +decide only [go_sem, Nat.reduceAdd, hb4, hb28, hx31d, hx32d]
   (repeat' with_reducible apply And.intro) <;> first | (rw [evK_succ]; simp +decide only [go_sem, Nat.reduceAdd, hb4, hb28, hx31d, hx32d]) | exact cl
   (repeat' apply And.intro) <;> first | refine hK30 _ _ ?_ | exact cl
   clear hK30
   refine cnd h hs (fun hs h => ?_) (fun hs h => ?_)
   ·
    refine rg [4] hs ?_
    exact rt h hs hcalm hO
   refine sk [2, 3, 6] hs hK29 ?_
   clear hK29
   obtain ⟨hg36, h⟩ := guard_some h
   refine rl [2, 3, 6] hs (fun e s => Vl25 ml25 e s (Nat.lt_succ_self _)) ?_
   exact ⟨(x6_l25 + 1), ([]), Rl25, ef hs, ef hs, hO, h⟩
  ·
   clear h; rintro e st ⟨Xk22, Rk22, rfl, rfl, hO, h⟩
   rw [r6_Equal_k22] at h
   refine td hN hNR hNL hcalm hO ?_
   refine awp_mid (fun e st => Ck e st B Rw L [] [a0.cs, a1.cs] [] (r6_Equal_k38 rec n  = some r)) ?_ ?_
   ·
    intro K39 hK39
    refine rg [2, 3, 7] hs ?_
    apply awp_block
    refine awp_loop (fun m e st => ∃ (x7_l41 : Int), Ck e st B Rw L [(2, true, .box B.length 0), (3, true, .box (B.length + 1) 0), (7, true, .val (.int .i64 x7_l41))] [a0.cs, a1.cs] [] (r6_Equal_l41 rec n a0 a1 m x7_l41 = some r)) n ⟨0, ([]), Rk22, ef hs, ef hs, hO, h⟩ ?_
    rintro ml41 e st ⟨x7_l41, Xl41, Rl41, rfl, rfl, hO, h⟩ Ul41 Vl41
    cases ml41 with
    | zero => cases h
    | succ ml41 =>
    rw [r6_Equal_l41] at h
    refine td hN hNR hNL hcalm hO ?_
    apply awp_seq; intro K42 hK42
    refine rg [2, 3, 7, 105] hs ?_
    refine cnd h hs (fun hs h => ?_) (fun hs h => ?_)
    rotate_left
    ·
     have hb44 := hs.1
     refine sx [] hs hK39 ?_
     exact ⟨([]), Rl41, ef hs, ef hs, hO, h⟩
    have hb44 := hs.1
    refine sk [2, 3, 7] hs hK42 ?_
    clear hK42
    refine awp_mid (fun e st => Ck e st B Rw L [(2, true, .box B.length 0), (3, true, .box (B.length + 1) 0), (7, true, .val (.int .i64 x7_l41))] [a0.cs, a1.cs] [] (r6_Equal_k46 rec n (r6_Equal_l41 rec n a0 a1 ml41) x7_l41  = some r)) ?_ ?_
    ·
     intro K47 hK47
     apply awp_block
     apply awp_seq; intro K48 hK48
     obtain ⟨x49, hx49a, hx49b, hx49d, h⟩ := ix avTF h
     obtain ⟨x50, hx50a, hx50b, hx50d, h⟩ := ix avTF h
     apply awp_any mix [10, 11, 12, 13] [2, 3, 7, 8, 9] (by kernel_rfl) (fun s => ∃ (X : List (List AV)) (rows : List RowA), s = ⟨B ++ ([a0.cs, a1.cs] ++ X), rows, L⟩) 5 (B.length + 2)
     ·
      simp +decide only [go_sem, Nat.reduceAdd]
     ·
      rintro s ⟨X, rows, rfl⟩
      refine ⟨1, ?_⟩
      rw [evK_succ]; simp +decide only [go_sem, Nat.reduceAdd, skipE, hb4, hb44, hx49d, hx50d]
      (repeat' apply And.intro) <;> first | rfl | exact cl
     ·
      refine Good.mk [10, 11] (by kernel_rfl) ⟨[], _, by first | rfl | simp only [List.append_nil, List.nil_append]⟩ ?_ ?_
      ·
       intro h; exact absurd h (by decide)
      ·
       intro i hi; simp only [List.mem_cons, List.not_mem_nil, or_false] at hi
       rcases hi with rfl | rfl
       ·
        apply good_step rfl rfl ev
        ·
         simp +decide only [go_sem, Nat.reduceAdd, StepOk, hb4, hb44, hx49d, hx50d]
         (repeat' apply And.intro) <;> first | rfl | exact cl
        ·
         simp +decide only [go_sem, Nat.reduceAdd, hb4, hb44, hx49d, hx50d]
         refine Good.mk [11] (by kernel_rfl) ⟨_, _, by first | rfl | simp only [List.append_nil, List.nil_append]⟩ ?_ ?_
         ·
          intro h; exact absurd h (by decide)
         ·
          intro i hi; simp only [List.mem_cons, List.not_mem_nil, or_false] at hi
          subst hi
          ·
           apply good_step rfl rfl ev
           ·
            simp +decide only [go_sem, Nat.reduceAdd, StepOk, hb4, hb44, hx49d, hx50d]
            (repeat' apply And.intro) <;> first | rfl | exact cl
           ·
            simp +decide only [go_sem, Nat.reduceAdd, hb4, hb44, hx49d, hx50d]
            refine Good.mk [12] (by kernel_rfl) ⟨_, _, by first | rfl | simp only [List.append_nil, List.nil_append]⟩ ?_ ?_
            ·
             intro h; exact absurd h (by decide)
            ·
             intro i hi; simp only [List.mem_cons, List.not_mem_nil, or_false] at hi
             subst hi
             ·
              apply good_step rfl rfl ev
              ·
               simp +decide only [go_sem, Nat.reduceAdd, StepOk, hb4, hb44, hx49d, hx50d]
               (repeat' apply And.intro) <;> first | rfl | exact cl
              ·
               simp +decide only [go_sem, Nat.reduceAdd, hb4, hb44, hx49d, hx50d]
               refine Good.mk [13] (by kernel_rfl) ⟨_, _, by first | rfl | simp only [List.append_nil, List.nil_append]⟩ ?_ ?_
               ·
                intro h; exact absurd h (by decide)
               ·
                intro i hi; simp only [List.mem_cons, List.not_mem_nil, or_false] at hi
                subst hi
                ·
                 apply good_step rfl rfl ev
                 ·
                  simp +decide only [go_sem, Nat.reduceAdd, StepOk, hb4, hb44, hx49d, hx50d]
                  (repeat' apply And.intro) <;> first | rfl | exact cl
                 ·
                  simp +decide only [go_sem, Nat.reduceAdd, hb4, hb44, hx49d, hx50d]
                  refine Good.mk [] (by kernel_rfl) ⟨_, _, by first | rfl | simp only [List.append_nil, List.nil_append]⟩ ?_ ?_
                  ·
                   intro _; apply conv_keep [2, 3, 7, 8, 9]; first | (simp +decide only [go_sem, Nat.reduceAdd, hb4, hb44, hx49d, hx50d]; done) | (simp +decide only [go_sem, Nat.reduceAdd, hb4, hb44, hx49d, hx50d]; rfl)
                  ·
                   intro i hi; cases hi
       ·
        apply good_step rfl rfl ev
        ·
         simp +decide only [go_sem, Nat.reduceAdd, StepOk, hb4, hb44, hx49d, hx50d]
         (repeat' apply And.intro) <;> first | rfl | exact cl
        ·
         simp +decide only [go_sem, Nat.reduceAdd, hb4, hb44, hx49d, hx50d]
         refine Good.mk [10] (by kernel_rfl) ⟨_, _, by first | rfl | simp only [List.append_nil, List.nil_append]⟩ ?_ ?_
         ·
          intro h; exact absurd h (by decide)
         ·
          intro i hi; simp only [List.mem_cons, List.not_mem_nil, or_false] at hi
          subst hi
          ·
           apply good_step rfl rfl ev
           ·
            simp +decide only [go_sem, Nat.reduceAdd, StepOk, hb4, hb44, hx49d, hx50d]
            (repeat' apply And.intro) <;> first | rfl | exact cl
           ·
            simp +decide only [go_sem, Nat.reduceAdd, hb4, hb44, hx49d, hx50d]
            refine Good.mk [12] (by kernel_rfl) ⟨_, _, by first | rfl | simp only [List.append_nil, List.nil_append]⟩ ?_ ?_
            ·
             intro h; exact absurd h (by decide)
            ·
             intro i hi; simp only [List.mem_cons, List.not_mem_nil, or_false] at hi
             subst hi
             ·
              apply good_step rfl rfl ev
              ·
               simp +decide only [go_sem, Nat.reduceAdd, StepOk, hb4, hb44, hx49d, hx50d]
               (repeat' apply And.intro) <;> first | rfl | exact cl
              ·
               simp +decide only [go_sem, Nat.reduceAdd, hb4, hb44, hx49d, hx50d]
               refine Good.mk [13] (by kernel_rfl) ⟨_, _, by first | rfl | simp only [List.append_nil, List.nil_append]⟩ ?_ ?_
               ·
                intro h; exact absurd h (by decide)
               ·
                intro i hi; simp only [List.mem_cons, List.not_mem_nil, or_false] at hi
                subst hi
                ·
                 apply good_step rfl rfl ev
                 ·
                  simp +decide only [go_sem, Nat.reduceAdd, StepOk, hb4, hb44, hx49d, hx50d]
                  (repeat' apply And.intro) <;> first | rfl | exact cl
                 ·
                  simp +decide only [go_sem, Nat.reduceAdd, hb4, hb44, hx49d, hx50d]
                  refine Good.mk [] (by kernel_rfl) ⟨_, _, by first | rfl | simp only [List.append_nil, List.nil_append]⟩ ?_ ?_
                  ·
                   intro _; refine conv_swap' (own := [a0.cs, a1.cs]) rfl (calm_own rfl hcalm hO (by (simp +decide only [go_sem, Nat.reduceAdd]) <;> (try (repeat' apply And.intro)) <;> first | omega | assumption)) (by (simp +decide only [go_sem, Nat.reduceAdd]) <;> (try (repeat' apply And.intro)) <;> first | omega | assumption) (by (simp +decide only [go_sem, Nat.reduceAdd]) <;> (try (repeat' apply And.intro)) <;> first | omega | assumption) ?_
                   refine swapOk_cons (by first | exact .inl ⟨rfl, rfl, rfl⟩ | exact .inr (.inl ⟨rfl, rfl, rfl⟩) | (refine .inr (.inr ⟨rfl, ?_⟩); (simp +decide only [go_sem, Nat.reduceAdd]) <;> (try (repeat' apply And.intro)) <;> first | omega | assumption)) ?_
                   refine swapOk_cons (by first | exact .inl ⟨rfl, rfl, rfl⟩ | exact .inr (.inl ⟨rfl, rfl, rfl⟩) | (refine .inr (.inr ⟨rfl, ?_⟩); (simp +decide only [go_sem, Nat.reduceAdd]) <;> (try (repeat' apply And.intro)) <;> first | omega | assumption)) ?_
                   refine swapOk_cons (by first | exact .inl ⟨rfl, rfl, rfl⟩ | exact .inr (.inl ⟨rfl, rfl, rfl⟩) | (refine .inr (.inr ⟨rfl, ?_⟩); (simp +decide only [go_sem, Nat.reduceAdd]) <;> (try (repeat' apply And.intro)) <;> first | omega | assumption)) ?_
                   refine swapOk_cons (by first | exact .inl ⟨rfl, rfl, rfl⟩ | exact .inr (.inl ⟨rfl, rfl, rfl⟩) | (refine .inr (.inr ⟨rfl, ?_⟩); (simp +decide only [go_sem, Nat.reduceAdd]) <;> (try (repeat' apply And.intro)) <;> first | omega | assumption)) ?_
                   refine swapOk_cons (by first | exact .inl ⟨rfl, rfl, rfl⟩ | exact .inr (.inl ⟨rfl, rfl, rfl⟩) | (refine .inr (.inr ⟨rfl, ?_⟩); (simp +decide only [go_sem, Nat.reduceAdd]) <;> (try (repeat' apply And.intro)) <;> first | omega | assumption)) ?_
                   exact trivial
                  ·
                   intro i hi; cases hi
     simp +decide only [go_sem, Nat.reduceAdd, hb4, hb44, hx49d, hx50d]
     (repeat' apply And.intro) <;> first | refine hK48 _ _ ?_ | exact cl
     clear hK48
     apply awp_seq; intro K51 hK51
     apply awp_seq; intro K52 hK52
     rcases Bool.eq_false_or_eq_true ((((!(decide (x49.1 = x50.1))) || (!(sEq x49.2.1 x50.2.1))) || (!(decide (x49.2.2.1 = x50.2.2.1)))) || (!(decide (((x49.2.2.2.2.length : Int)) = ((x50.2.2.2.2.length : Int)))))) with hf53 | hf53
     ·
      replace h := ite_tt h hf53
      apply awp_region 2 [2, 3, 7, 8, 9, 153]
      rw [evK_succ]; simp +decide only [go_sem, Nat.reduceAdd, hb4, hb44, hx49d, hx50d, hf53]
      (repeat' apply And.intro) <;> first | refine callK_skip ?_ | exact cl
      rw [evK_succ]; simp +decide only [go_sem, Nat.reduceAdd, hb4, hb44, hx49d, hx50d, hf53]
      (repeat' apply And.intro) <;> first | refine hK52 _ _ ?_ | exact cl
      clear hK52
      have hs := And.intro hx49d hs
      have hs := And.intro hx50d hs
      have hs := And.intro hf53 hs
      refine awp_cond true ev (ef hs) (fun hb54 => ?_) (fun hb54 => by cases hb54)
      refine rg [4] hs ?_
      exact rt h hs hcalm hO
     ·
      replace h := ite_ff h hf53
      obtain ⟨y56, hy56, h⟩ := bind_some h
      have hs := And.intro hx49d hs
      have hs := And.intro hx50d hs
      have hs := And.intro hf53 hs
      refine rk 2 [2, 3, 7, 8, 9, 153] hs ?_
      refine callK_p _ (ih _ _ _ x49.2.2.2.1 x50.2.2.2.1 _ hy56) (hv hs) ?_
      refine ne hs hK52 ?_
      clear hK52
      refine cnd h hs (fun hs h => ?_) (fun hs h => ?_)
      ·
       have hb57 := hs.1
       refine rg [4] hs ?_
       exact rt h hs hcalm hO
      have hb57 := hs.1
      refine sk [2, 3, 7, 8, 9] hs hK51 ?_
      clear hK51
      refine rg [2, 3, 7, 8, 9, 10] hs ?_
      apply awp_block
      refine awp_loop (fun m e st => ∃ (x10_l60 : Int), Ck e st B Rw L [(2, true, .box B.length 0), (3, true, .box (B.length + 1) 0), (7, true, .val (.int .i64 x7_l41)), (8, true, .box (B.length + 2) 0), (9, true, .box (B.length + 3) 0), (10, true, .val (.int .i64 x10_l60))] [a0.cs, a1.cs, .val (.int .i64 x49.1) :: (.val (.string x49.2.1) :: (.val (.int .i64 x49.2.2.1) :: ((x49.2.2.2.1.cs) ++ ([.list (x49.2.2.2.2.map avV) .none])))), .val (.int .i64 x50.1) :: (.val (.string x50.2.1) :: (.val (.int .i64 x50.2.2.1) :: ((x50.2.2.2.1.cs) ++ ([.list (x50.2.2.2.2.map avV) .none]))))] [] (r6_Equal_l60 rec n (r6_Equal_l41 rec n a0 a1 ml41) x7_l41 x49 x50 m x10_l60 = some r)) n ⟨0, ([]), Rl41, ef hs, ef hs, hO, h⟩ ?_
      rintro ml60 e st ⟨x10_l60, Xl60, Rl60, rfl, rfl, hO, h⟩ Ul60 Vl60
      cases ml60 with
      | zero => cases h
      | succ ml60 =>
      rw [r6_Equal_l60] at h
      refine td hN hNR hNL hcalm hO ?_
      apply awp_seq; intro K61 hK61
      refine rg [2, 3, 7, 8, 9, 10, 158] hs ?_
      refine cnd h hs (fun hs h => ?_) (fun hs h => ?_)
      rotate_left
      ·
       have hb63 := hs.1
       refine sx [2, 3, 7] hs hK47 ?_
       exact ⟨([.val (.int .i64 x49.1) :: (.val (.string x49.2.1) :: (.val (.int .i64 x49.2.2.1) :: ((x49.2.2.2.1.cs) ++ ([.list (x49.2.2.2.2.map avV) .none])))), .val (.int .i64 x50.1) :: (.val (.string x50.2.1) :: (.val (.int .i64 x50.2.2.1) :: ((x50.2.2.2.1.cs) ++ ([.list (x50.2.2.2.2.map avV) .none]))))]), Rl60, ef hs, ef hs, hO, h⟩
      have hb63 := hs.1
      refine sk [2, 3, 7, 8, 9, 10] hs hK61 ?_
      clear hK61
      apply awp_seq; intro K64 hK64
      apply awp_block
      apply awp_seq; intro K65 hK65
      obtain ⟨x66, hx66a, hx66b, hx66d, h⟩ := ix avV h
      obtain ⟨x67, hx67a, hx67b, hx67d, h⟩ := ix avV h
      obtain ⟨y68, hy68, h⟩ := bind_some h
      apply awp_draw mix 12 2 1 [2, 3, 7, 8, 9, 10, 172] (by kernel_rfl)
      rw [evK_succ]; simp +decide only [go_sem, Nat.reduceAdd, hb4, hb44, hx49d, hx50d, hf53, hb57, hb63, hx66d, hx67d]
      have hs := And.intro hx66d hs
      have hs := And.intro hx67d hs
      (repeat' apply And.intro) <;> first | refine callK_p _ (r4_Equal_at w0 n _ _ _ x66 x67 _ hy68) (hv hs) ?_ | exact cl
      rw [evK_succ]; simp +decide only [go_sem, Nat.reduceAdd, hb4, hb44, hx49d, hx50d, hf53, hb57, hb63, hx66d, hx67d]
      (repeat' with_reducible apply And.intro) <;> first | (rw [evK_succ]; simp +decide only [go_sem, Nat.reduceAdd, hb4, hb44, hx49d, hx50d, hf53, hb57, hb63, hx66d, hx67d]) | exact cl
      (repeat' apply And.intro) <;> first | refine hK65 _ _ ?_ | exact cl
      clear hK65
      refine cnd h hs (fun hs h => ?_) (fun hs h => ?_)
      ·
       refine rg [4] hs ?_
       exact rt h hs hcalm hO
      refine sk [2, 3, 7, 8, 9, 10] hs hK64 ?_
      clear hK64
      obtain ⟨hg71, h⟩ := guard_some h
      refine rl [2, 3, 7, 8, 9, 10] hs (fun e s => Vl60 ml60 e s (Nat.lt_succ_self _)) ?_
      exact ⟨(x10_l60 + 1), ([]), Rl60, ef hs, ef hs, hO, h⟩
    ·
     clear h; rintro e st ⟨Xk46, Rk46, rfl, rfl, hO, h⟩
     rw [r6_Equal_k46] at h
     refine td hN hNR hNL hcalm hO ?_
     obtain ⟨hg72, h⟩ := guard_some h
     refine rl [2, 3, 7] hs (fun e s => Vl41 ml41 e s (Nat.lt_succ_self _)) ?_
     exact ⟨(x7_l41 + 1), ([]), Rk46, ef hs, ef hs, hO, h⟩
   ·
    clear h; rintro e st ⟨Xk38, Rk38, rfl, rfl, hO, h⟩
    rw [r6_Equal_k38] at h
    refine td hN hNR hNL hcalm hO ?_
    refine rg [4] hs ?_
    exact rt h hs hcalm hO
theorem r6_Equal_at (w0 : World) : ∀ n : Nat, r6_Equal_C w0 (r6_Equal_F n)
 | 0 => fun _ _ _ _ _ _ h => (nomatch h)
 | n + 1 => r6_Equal_step w0 (r6_Equal_F n) (r6_Equal_at w0 n) n
theorem ba_ext {a b : ByteArray} (h : a.data.toList = b.data.toList) : a = b := by
 cases a; cases b; simp at h; rw [h]
theorem cb_zero : ∀ a b : List UInt8, Lib.compareBytes a b = 0 → a = b
 | [], [], _ => rfl
 | [], _ :: _, h => absurd (show (-1 : Int) = 0 from h) (by decide)
 | _ :: _, [], h => absurd (show (1 : Int) = 0 from h) (by decide)
 | x :: a, y :: b, h => by
  simp only [Lib.compareBytes] at h
  by_cases h1 : x < y
  ·
   simp [h1] at h
  ·
   by_cases h2 : y < x
   ·
    simp [h1, h2] at h
   ·
    simp only [h1, h2, if_false] at h
    rw [cb_zero a b h]
    have : x = y := by
     rw [UInt8.lt_iff_toNat_lt] at h1 h2
     exact UInt8.toNat_inj.1 (by omega)
    rw [this]
theorem cmpS_zero (a b : ByteArray) : cmpS a b = 0 ↔ a = b := by
 unfold cmpS
 constructor
 ·
  intro h; exact ba_ext (cb_zero _ _ h)
 ·
  rintro rfl; exact cb_self _
theorem sEq_iff (x y : ByteArray) : sEq x y = true ↔ x = y := by
 unfold sEq
 rw [beq_iff_eq]
 exact ⟨ba_ext, fun h => by rw [h]⟩
theorem sEq_self (x : ByteArray) : sEq x x = true := (sEq_iff x x).2 rfl
theorem sign_ne {a b : Int} (h : a ≠ b) : r4_sign_F a b ≠ 0 := by
 unfold r4_sign_F
 by_cases h1 : a < b
 ·
  simp [h1]
 ·
  by_cases h2 : b < a
  ·
   simp [h1, h2]
  ·
   omega
theorem sign_self (a : Int) : r4_sign_F a a = 0 := by simp [r4_sign_F]
theorem drop_eq_iff {α : Type} (l m : List α) (i : Nat) (h1 : i < l.length) (h2 : i < m.length) : l.drop i = m.drop i ↔ l[i] = m[i] ∧ l.drop (i + 1) = m.drop (i + 1) := by
 rw [List.drop_eq_getElem_cons h1, List.drop_eq_getElem_cons h2, List.cons.injEq]
theorem sz_max {n : Nat} (h : n ≤ 2000) : n ≤ maxLen := by unfold maxLen; omega
theorem r4c_l46 (rec : Vl → Vl → Option Int) (n : Nat) (a b : Vl) (hl : a.fields.length ≤ 1000000000) (ha : a.ok) (hb : b.ok)
  (hr : ∀ p ∈ a.fields, ∀ q ∈ b.fields, ∃ c, rec p.2 q.2 = some c ∧ (c = 0 ↔ p.2 = q.2)) : ∀ (k m i : Nat), i + k = a.fields.length → k < m → ∃ c, r4_Compare_l46 rec n a b m i = some c ∧ (c = 0 → a.fields.drop i = b.fields.drop i) ∧ (a.fields.drop i = b.fields.drop i → a.fields.length = b.fields.length → c = 0)
 | k, 0, i, _, h => absurd h (Nat.not_lt_zero _)
 | k, m + 1, i, hi, hm => by
  rw [r4_Compare_l46, lt_int, lt_int]
  by_cases h1 : i < a.fields.length ∧ i < b.fields.length
  ·
   obtain ⟨h1, h2⟩ := h1
   rw [decide_eq_true h1, decide_eq_true h2]
   simp only [Bool.and_self, if_true, idx_nat h1, idx_nat h2, Option.bind_some]
   have n1 := ((a.ok_eq.1 ha).2.2 _ (List.getElem_mem h1)).1
   have n2 := ((b.ok_eq.1 hb).2.2 _ (List.getElem_mem h2)).1
   rw [if_pos (sz_max (by omega)), if_pos (sz_max (by omega)), drop_eq_iff _ _ i h1 h2]
   by_cases hc : cmpS a.fields[i].1 b.fields[i].1 = 0
   ·
    rw [decide_eq_true hc]
    simp only [Bool.not_true, Bool.false_eq_true, if_false]
    obtain ⟨c, e, hce⟩ := hr _ (List.getElem_mem h1) _ (List.getElem_mem h2)
    rw [e]
    simp only [Option.bind_some]
    by_cases hc0 : c = 0
    ·
     rw [decide_eq_true hc0]
     simp only [Bool.not_true, Bool.false_eq_true, if_false]
     rw [if_pos (I64_succ (by omega))]
     cases k with
     | zero => omega
     | succ k =>
     obtain ⟨c2, e2, q1, q2⟩ := r4c_l46 rec n a b hl ha hb hr k m (i + 1) (by omega) (by omega)
     have e3 : a.fields[i] = b.fields[i] := Prod.ext ((cmpS_zero _ _).1 hc) (hce.1 hc0)
     exact ⟨c2, e2, fun h => ⟨e3, q1 h⟩, fun h1 h2 => q2 h1.2 h2⟩
    ·
     rw [decide_eq_false hc0]
     simp only [Bool.not_false, if_true]
     exact ⟨c, rfl, fun h => absurd h hc0, fun h _ => hce.2 (by rw [h.1])⟩
   ·
    rw [decide_eq_false hc]
    simp only [Bool.not_false, if_true]
    exact ⟨_, rfl, fun h => absurd h hc, fun h _ => (cmpS_zero _ _).2 (by rw [h.1])⟩
  ·
   have e : (decide (i < a.fields.length) && decide (i < b.fields.length)) = false := by
    rw [Bool.and_eq_false_iff, decide_eq_false_iff_not, decide_eq_false_iff_not]; omega
   rw [e]
   simp only [Bool.false_eq_true, if_false, r4_Compare_k43]
   refine ⟨_, rfl, fun h => ?_, fun h h2 => ?_⟩
   ·
    by_cases hlen : a.fields.length = b.fields.length
    ·
     rw [List.drop_eq_nil_of_le (by omega), List.drop_eq_nil_of_le (by omega)]
    ·
     exact absurd h (sign_ne (by omega))
   ·
    rw [h2]; exact sign_self _
theorem r4c_l25 (rec : Vl → Vl → Option Int) (n : Nat) (a b : Vl) (hl : a.fields.length ≤ 1000000000 ∧ a.list.length ≤ 1000000000) (hn : a.fields.length < n) (ha : a.ok) (hb : b.ok)
  (hr : (∀ p ∈ a.list, ∀ q ∈ b.list, ∃ c, rec p q = some c ∧ (c = 0 ↔ p = q)) ∧ ∀ p ∈ a.fields, ∀ q ∈ b.fields, ∃ c, rec p.2 q.2 = some c ∧ (c = 0 ↔ p.2 = q.2)) : ∀ (k m i : Nat), i + k = a.list.length → k < m →
  ∃ c, r4_Compare_l25 rec n a b m i = some c ∧ (c = 0 → a.list.drop i = b.list.drop i ∧ a.fields = b.fields) ∧ (a.list.drop i = b.list.drop i → a.list.length = b.list.length → a.fields = b.fields → c = 0)
 | k, 0, i, _, h => absurd h (Nat.not_lt_zero _)
 | k, m + 1, i, hi, hm => by
  rw [r4_Compare_l25, lt_int, lt_int]
  by_cases h1 : i < a.list.length ∧ i < b.list.length
  ·
   obtain ⟨h1, h2⟩ := h1
   rw [decide_eq_true h1, decide_eq_true h2]
   simp only [Bool.and_self, if_true, idx_nat h1, idx_nat h2, Option.bind_some]
   rw [drop_eq_iff _ _ i h1 h2]
   obtain ⟨c, e, hce⟩ := hr.1 _ (List.getElem_mem h1) _ (List.getElem_mem h2)
   rw [e]
   simp only [Option.bind_some]
   by_cases hc0 : c = 0
   ·
    rw [decide_eq_true hc0]
    simp only [Bool.not_true, Bool.false_eq_true, if_false]
    rw [if_pos (I64_succ (by omega))]
    cases k with
    | zero => omega
    | succ k =>
    obtain ⟨c2, e2, q1, q2⟩ := r4c_l25 rec n a b hl hn ha hb hr k m (i + 1) (by omega) (by omega)
    exact ⟨c2, e2, fun h => ⟨⟨hce.1 hc0, (q1 h).1⟩, (q1 h).2⟩, fun h1 h2 h3 => q2 h1.2 h2 h3⟩
   ·
    rw [decide_eq_false hc0]
    simp only [Bool.not_false, if_true]
    exact ⟨c, rfl, fun h => absurd h hc0, fun h _ _ => hce.2 h.1⟩
  ·
   have e : (decide (i < a.list.length) && decide (i < b.list.length)) = false := by
    rw [Bool.and_eq_false_iff, decide_eq_false_iff_not, decide_eq_false_iff_not]; omega
   rw [e]
   simp only [Bool.false_eq_true, if_false, r4_Compare_k22]
   by_cases hlen : a.list.length = b.list.length
   ·
    rw [decide_eq_true (by omega)]
    simp only [Bool.not_true, Bool.false_eq_true, if_false]
    obtain ⟨c, e2, q1, q2⟩ := r4c_l46 rec n a b hl.1 ha hb hr.2 a.fields.length n 0 (by omega) hn
    rw [List.drop_zero, List.drop_zero] at q1 q2
    refine ⟨c, e2, fun h => ⟨?_, q1 h⟩, fun _ _ h => q2 h (by rw [h])⟩
    rw [List.drop_eq_nil_of_le (by omega), List.drop_eq_nil_of_le (by omega)]
   ·
    rw [decide_eq_false (by omega)]
    simp only [Bool.not_false, if_true]
    exact ⟨_, rfl, fun h => absurd h (sign_ne (by omega)), fun _ h _ => absurd h hlen⟩
theorem Vl.ext' {a b : Vl} (h1 : a.kind = b.kind) (h2 : a.int = b.int) (h3 : a.scale = b.scale) (h4 : a.text = b.text) (h5 : a.list = b.list) (h6 : a.fields = b.fields) : a = b := by
 rw [← a.eta, ← b.eta, h1, h2, h3, h4, h5, h6]
theorem r4Compare_eq : ∀ (n : Nat) (a b : Vl), a.size < n → a.size ≤ 1000000000 → a.ok → b.ok → ∃ c, r4_Compare_F n a b = some c ∧ (c = 0 ↔ a = b)
 | 0, a, b, h, _, _, _ => absurd h (Nat.not_lt_zero _)
 | n + 1, a, b, h, hs, ha, hb => by
  have hl := parts_len a
  have a1 := a.ok_eq.1 ha
  have b1 := b.ok_eq.1 hb
  rw [r4_Compare_F, r4_Compare_B]
  by_cases h1 : a.kind = b.kind
  ·
   rw [decide_eq_true h1]; simp only [Bool.not_true, Bool.false_eq_true, if_false]
   by_cases h2 : a.int = b.int
   ·
    rw [decide_eq_true h2]; simp only [Bool.not_true, Bool.false_eq_true, if_false]
    by_cases h3 : a.scale = b.scale
    ·
     rw [decide_eq_true h3]; simp only [Bool.not_true, Bool.false_eq_true, if_false]
     rw [if_pos (sz_max a1.1), if_pos (sz_max b1.1)]
     by_cases h4 : cmpS a.text b.text = 0
     ·
      rw [decide_eq_true h4]; simp only [Bool.not_true, Bool.false_eq_true, if_false]
      obtain ⟨c, e, q1, q2⟩ := r4c_l25 (r4_Compare_F n) n a b ⟨by omega, by omega⟩ (by omega) ha hb
       ⟨fun p hp q hq => r4Compare_eq n p q (by have := a.list_size p hp; omega) (by have := a.list_size p hp; omega) (a1.2.1 p hp) (b1.2.1 q hq),
        fun p hp q hq => r4Compare_eq n p.2 q.2 (by have := a.field_size p hp; omega) (by have := a.field_size p hp; omega) (a1.2.2 p hp).2 (b1.2.2 q hq).2⟩ a.list.length n 0 (by omega) (by omega)
      rw [List.drop_zero, List.drop_zero] at q1 q2
      refine ⟨c, e, fun h => Vl.ext' h1 h2 h3 ((cmpS_zero _ _).1 h4) (q1 h).1 (q1 h).2, fun h => ?_⟩
      subst h
      exact q2 rfl rfl rfl
     ·
      rw [decide_eq_false h4]; simp only [Bool.not_false, if_true]
      exact ⟨_, rfl, fun h => absurd h h4, fun h => by subst h; exact (cmpS_zero _ _).2 rfl⟩
    ·
     rw [decide_eq_false h3]; simp only [Bool.not_false, if_true]
     exact ⟨_, rfl, fun h => absurd h (sign_ne h3), fun h => by subst h; exact absurd rfl h3⟩
   ·
    rw [decide_eq_false h2]; simp only [Bool.not_false, if_true]
    exact ⟨_, rfl, fun h => absurd h (sign_ne h2), fun h => by subst h; exact absurd rfl h2⟩
  ·
   rw [decide_eq_false h1]; simp only [Bool.not_false, if_true]
   exact ⟨_, rfl, fun h => absurd h (sign_ne h1), fun h => by subst h; exact absurd rfl h1⟩
theorem r4Equal_eq (n : Nat) (a b : Vl) (h : a.size < n) (hs : a.size ≤ 1000000000) (ha : a.ok) (hb : b.ok) : ∃ c, r4_Equal_F n a b = some c ∧ (c = true ↔ a = b) := by
 obtain ⟨c, e, hc⟩ := r4Compare_eq n a b h hs ha hb
 refine ⟨decide (c = 0), ?_, by rw [decide_eq_true_eq]; exact hc⟩
 rw [r4_Equal_F, e]; rfl
theorem r6e_l60 (rec : Ty → Ty → Option Bool) (n : Nat) (ag : Int → Option Bool) (x7 : Int) (p q : TF) (hl : p.2.2.2.2.length ≤ 1000000000) (hpq : p.2.2.2.2.length = q.2.2.2.2.length)
  (hr : ∀ v ∈ p.2.2.2.2, ∀ w ∈ q.2.2.2.2, ∃ c, r4_Equal_F n v w = some c ∧ (c = true ↔ v = w)) : ∀ (k m i : Nat), i + k = p.2.2.2.2.length → k < m →
  (r6_Equal_l60 rec n ag x7 p q m i = some false ∧ p.2.2.2.2.drop i ≠ q.2.2.2.2.drop i) ∨ (r6_Equal_l60 rec n ag x7 p q m i = r6_Equal_k46 rec n ag x7 ∧ p.2.2.2.2.drop i = q.2.2.2.2.drop i)
 | k, 0, i, _, h => absurd h (Nat.not_lt_zero _)
 | 0, m + 1, i, hi, _ => by
  rw [r6_Equal_l60, lt_int, decide_eq_false (by omega)]
  simp only [Bool.false_eq_true, if_false]
  exact .inr ⟨by trivial, by rw [List.drop_eq_nil_of_le (by omega), List.drop_eq_nil_of_le (by omega)]⟩
 | k + 1, m + 1, i, hi, hm => by
  have h1 : i < p.2.2.2.2.length := by omega
  have h2 : i < q.2.2.2.2.length := by omega
  rw [r6_Equal_l60, lt_int, decide_eq_true h1]
  simp only [if_true, idx_nat h1, idx_nat h2, Option.bind_some]
  obtain ⟨c, e, hc⟩ := hr _ (List.getElem_mem h1) _ (List.getElem_mem h2)
  rw [e, ne_eq, drop_eq_iff _ _ i h1 h2]
  simp only [Option.bind_some]
  cases c with
  | false => simp only [Bool.not_false, if_true]; exact .inl ⟨by trivial, fun h => by simpa using hc.2 h.1⟩
  | true =>
   simp only [Bool.not_true, Bool.false_eq_true, if_false]
   rw [if_pos (I64_succ (by omega))]
   rcases r6e_l60 rec n ag x7 p q hl hpq hr k m (i + 1) (by omega) (by omega) with ⟨e1, e2⟩ | ⟨e1, e2⟩
   ·
    exact .inl ⟨e1, fun h => e2 h.2⟩
   ·
    exact .inr ⟨e1, hc.1 rfl, e2⟩
theorem TF.ext' {p q : TF} (h1 : p.1 = q.1) (h2 : p.2.1 = q.2.1) (h3 : p.2.2.1 = q.2.2.1) (h4 : p.2.2.2.1 = q.2.2.2.1) (h5 : p.2.2.2.2 = q.2.2.2.2) : p = q := by
 obtain ⟨a, b, c, d, e⟩ := p
 obtain ⟨a', b', c', d', e'⟩ := q
 simp only at h1 h2 h3 h4 h5
 rw [h1, h2, h3, h4, h5]
theorem r6e_l41 (rec : Ty → Ty → Option Bool) (n : Nat) (hn : 400 ≤ n) (a b : Ty) (hl : a.fields.length ≤ 1000000000) (hab : a.fields.length = b.fields.length) (ha : a.ok) (hb : b.ok)
  (hr : ∀ p ∈ a.fields, ∀ q ∈ b.fields, ∃ c, rec p.2.2.2.1 q.2.2.2.1 = some c ∧ (c = true ↔ p.2.2.2.1 = q.2.2.2.1)) : ∀ (k m i : Nat), i + k = a.fields.length → k < m → ∃ c, r6_Equal_l41 rec n a b m i = some c ∧ (c = true ↔ a.fields.drop i = b.fields.drop i)
 | k, 0, i, _, h => absurd h (Nat.not_lt_zero _)
 | 0, m + 1, i, hi, _ => by
  rw [r6_Equal_l41, lt_int, decide_eq_false (by omega)]
  simp only [Bool.false_eq_true, if_false, r6_Equal_k38]
  exact ⟨true, rfl, by rw [List.drop_eq_nil_of_le (by omega), List.drop_eq_nil_of_le (by omega)]; simp⟩
 | k + 1, m + 1, i, hi, hm => by
  have h1 : i < a.fields.length := by omega
  have h2 : i < b.fields.length := by omega
  rw [r6_Equal_l41, lt_int, decide_eq_true h1]
  simp only [if_true, idx_nat h1, idx_nat h2, Option.bind_some]
  rw [drop_eq_iff _ _ i h1 h2]
  obtain ⟨_, _, o3, o4⟩ := (a.ok_eq.1 ha).2.2.2 _ (List.getElem_mem h1)
  obtain ⟨_, _, _, o5⟩ := (b.ok_eq.1 hb).2.2.2 _ (List.getElem_mem h2)
  by_cases hc : a.fields[i].1 = b.fields[i].1 ∧ a.fields[i].2.1 = b.fields[i].2.1 ∧ a.fields[i].2.2.1 = b.fields[i].2.2.1 ∧ a.fields[i].2.2.2.2.length = b.fields[i].2.2.2.2.length
  ·
   obtain ⟨c1, c2, c3, c4⟩ := hc
   rw [if_neg (by rw [c1, c2, c3, c4, sEq_self]; simp)]
   obtain ⟨c, e, hce⟩ := hr _ (List.getElem_mem h1) _ (List.getElem_mem h2)
   rw [e]
   simp only [Option.bind_some]
   cases c with
   | false => simp only [Bool.not_false, if_true]; exact ⟨false, rfl, by simp only [Bool.false_eq_true, false_iff]; intro h; simpa using hce.2 (by rw [h.1])⟩
   | true =>
    simp only [Bool.not_true, Bool.false_eq_true, if_false]
    rcases r6e_l60 rec n (r6_Equal_l41 rec n a b m) i a.fields[i] b.fields[i] (by omega) c4 (fun v hv w hw => r4Equal_eq n v w (by have := (o4 v hv).1; omega) (by have := (o4 v hv).1; omega) (o4 v hv).2.2 (o5 w hw).2.2) a.fields[i].2.2.2.2.length n 0 (by omega) (by omega) with ⟨e1, e2⟩ | ⟨e1, e2⟩
    ·
     refine ⟨false, e1, ?_⟩
     rw [List.drop_zero, List.drop_zero] at e2
     simp only [Bool.false_eq_true, false_iff]
     exact fun h => e2 (by rw [h.1])
    ·
     rw [List.drop_zero, List.drop_zero] at e2
     obtain ⟨c5, e5, h5⟩ := r6e_l41 rec n hn a b hl hab ha hb hr k m (i + 1) (by omega) (by omega)
     refine ⟨c5, ?_, ?_⟩
     ·
      refine e1.trans ?_
      rw [r6_Equal_k46, if_pos (I64_succ (by omega))]; exact e5
     ·
      rw [h5]
      exact ⟨fun h => ⟨TF.ext' c1 c2 c3 (hce.1 rfl) e2, h⟩, fun h => h.2⟩
  ·
   rw [if_pos]
   ·
    exact ⟨false, rfl, by simp only [Bool.false_eq_true, false_iff]; intro h; exact hc (by rw [h.1]; exact ⟨rfl, rfl, rfl, rfl⟩)⟩
   ·
    have := sEq_iff a.fields[i].2.1 b.fields[i].2.1
    simp only [Bool.or_eq_true, Bool.not_eq_true', decide_eq_false_iff_not]
    by_cases s : sEq a.fields[i].2.1 b.fields[i].2.1 = true
    ·
     have := this.1 s; by_cases x1 : a.fields[i].1 = b.fields[i].1
     ·
      by_cases x2 : a.fields[i].2.2.1 = b.fields[i].2.2.1
      ·
       exact .inr (fun h => hc ⟨x1, this, x2, by omega⟩)
      ·
       exact .inl (.inr x2)
     ·
      exact .inl (.inl (.inl x1))
    ·
     exact .inl (.inl (.inr (by simpa using s)))
theorem r6e_l25 (rec : Ty → Ty → Option Bool) (n : Nat) (a b : Ty) (hl : a.elem.length ≤ 1000000000) (hab : a.elem.length = b.elem.length)
  (hr : ∀ p ∈ a.elem, ∀ q ∈ b.elem, ∃ c, rec p q = some c ∧ (c = true ↔ p = q)) : ∀ (k m i : Nat), i + k = a.elem.length → k < m →
  (r6_Equal_l25 rec n a b m i = some false ∧ a.elem.drop i ≠ b.elem.drop i) ∨ (r6_Equal_l25 rec n a b m i = r6_Equal_k22 rec n a b ∧ a.elem.drop i = b.elem.drop i)
 | k, 0, i, _, h => absurd h (Nat.not_lt_zero _)
 | 0, m + 1, i, hi, _ => by
  rw [r6_Equal_l25, lt_int, decide_eq_false (by omega)]
  simp only [Bool.false_eq_true, if_false]
  exact .inr ⟨by trivial, by rw [List.drop_eq_nil_of_le (by omega), List.drop_eq_nil_of_le (by omega)]⟩
 | k + 1, m + 1, i, hi, hm => by
  have h1 : i < a.elem.length := by omega
  have h2 : i < b.elem.length := by omega
  rw [r6_Equal_l25, lt_int, decide_eq_true h1]
  simp only [if_true, idx_nat h1, idx_nat h2, Option.bind_some]
  obtain ⟨c, e, hc⟩ := hr _ (List.getElem_mem h1) _ (List.getElem_mem h2)
  rw [e, ne_eq, drop_eq_iff _ _ i h1 h2]
  simp only [Option.bind_some]
  cases c with
  | false => simp only [Bool.not_false, if_true]; exact .inl ⟨by trivial, fun h => by simpa using hc.2 h.1⟩
  | true =>
   simp only [Bool.not_true, Bool.false_eq_true, if_false]
   rw [if_pos (I64_succ (by omega))]
   rcases r6e_l25 rec n a b hl hab hr k m (i + 1) (by omega) (by omega) with ⟨e1, e2⟩ | ⟨e1, e2⟩
   ·
    exact .inl ⟨e1, fun h => e2 h.2⟩
   ·
    exact .inr ⟨e1, hc.1 rfl, e2⟩
theorem r6e_l10 (rec : Ty → Ty → Option Bool) (n : Nat) (a b : Ty) (hl : a.words.length ≤ 1000000000) (hab : a.words.length = b.words.length) : ∀ (k m i : Nat), i + k = a.words.length → k < m →
  (r6_Equal_l10 rec n a b m i = some false ∧ a.words.drop i ≠ b.words.drop i) ∨ (r6_Equal_l10 rec n a b m i = r6_Equal_k7 rec n a b ∧ a.words.drop i = b.words.drop i)
 | k, 0, i, _, h => absurd h (Nat.not_lt_zero _)
 | 0, m + 1, i, hi, _ => by
  rw [r6_Equal_l10, lt_int, decide_eq_false (by omega)]
  simp only [Bool.false_eq_true, if_false]
  exact .inr ⟨by trivial, by rw [List.drop_eq_nil_of_le (by omega), List.drop_eq_nil_of_le (by omega)]⟩
 | k + 1, m + 1, i, hi, hm => by
  have h1 : i < a.words.length := by omega
  have h2 : i < b.words.length := by omega
  rw [r6_Equal_l10, lt_int, decide_eq_true h1]
  simp only [if_true, idx_nat h1, idx_nat h2, Option.bind_some]
  rw [ne_eq, drop_eq_iff _ _ i h1 h2]
  by_cases s : a.words[i] = b.words[i]
  ·
   rw [s, sEq_self]
   simp only [Bool.not_true, Bool.false_eq_true, if_false]
   rw [if_pos (I64_succ (by omega))]
   rcases r6e_l10 rec n a b hl hab k m (i + 1) (by omega) (by omega) with ⟨e1, e2⟩ | ⟨e1, e2⟩
   ·
    exact .inl ⟨e1, fun h => e2 h.2⟩
   ·
    exact .inr ⟨e1, by trivial, e2⟩
  ·
   have : sEq a.words[i] b.words[i] = false := by
    cases h : sEq a.words[i] b.words[i]
    ·
     rfl
    ·
     exact absurd ((sEq_iff _ _).1 h) s
   rw [this]
   simp only [Bool.not_false, if_true]
   exact .inl ⟨trivial, fun h => s h.1⟩
theorem Ty.ext' {a b : Ty} (h1 : a.kind = b.kind) (h2 : a.min = b.min) (h3 : a.max = b.max) (h4 : a.scale = b.scale) (h5 : a.words = b.words) (h6 : a.elem = b.elem) (h7 : a.fields = b.fields) : a = b := by
 rw [← a.eta, ← b.eta, h1, h2, h3, h4, h5, h6, h7]
theorem r6Equal_eq : ∀ (n : Nat) (a b : Ty), a.size + 400 < n → a.size ≤ 1000000000 → a.ok → b.ok → ∃ c, r6_Equal_F n a b = some c ∧ (c = true ↔ a = b)
 | 0, a, b, h, _, _, _ => absurd h (Nat.not_lt_zero _)
 | n + 1, a, b, h, hs, ha, hb => by
  have hl := a.lens
  have a1 := a.ok_eq.1 ha
  have b1 := b.ok_eq.1 hb
  rw [r6_Equal_F, r6_Equal_B]
  by_cases hc : a.kind = b.kind ∧ a.min = b.min ∧ a.max = b.max ∧ a.scale = b.scale ∧ a.words.length = b.words.length ∧ a.elem.length = b.elem.length ∧ a.fields.length = b.fields.length
  ·
   obtain ⟨c1, c2, c3, c4, c5, c6, c7⟩ := hc
   rw [if_neg (by rw [c1, c2, c3, c4, c5, c6, c7]; simp)]
   rcases r6e_l10 (r6_Equal_F n) n a b (by omega) c5 a.words.length n 0 (by omega) (by omega) with ⟨e1, e2⟩ | ⟨e1, e2⟩
   ·
    rw [List.drop_zero, List.drop_zero] at e2
    exact ⟨false, e1, by simp only [Bool.false_eq_true, false_iff]; intro h; exact e2 (by rw [h])⟩
   rw [List.drop_zero, List.drop_zero] at e2
   have w := e2
   rcases r6e_l25 (r6_Equal_F n) n a b (by omega) c6 (fun p hp q hq => r6Equal_eq n p q (by have := a.elem_size p hp; omega) (by have := a.elem_size p hp; omega) (a1.2.2.1 p hp) (b1.2.2.1 q hq)) a.elem.length n 0 (by omega) (by omega) with ⟨e3, e4⟩ | ⟨e3, e4⟩
   ·
    rw [List.drop_zero, List.drop_zero] at e4
    refine ⟨false, ?_, by simp only [Bool.false_eq_true, false_iff]; intro h; exact e4 (by rw [h])⟩
    exact e1.trans (by rw [r6_Equal_k7]; exact e3)
   rw [List.drop_zero, List.drop_zero] at e4
   obtain ⟨c, e5, h5⟩ := r6e_l41 (r6_Equal_F n) n (by omega) a b (by omega) c7 ha hb (fun p hp q hq => r6Equal_eq n _ _ (by have := a.field_size p hp; omega) (by have := a.field_size p hp; omega) (a1.2.2.2 p hp).2.1 (b1.2.2.2 q hq).2.1) a.fields.length n 0 (by omega) (by omega)
   rw [List.drop_zero, List.drop_zero] at h5
   refine ⟨c, ?_, h5.trans ⟨fun h => Ty.ext' c1 c2 c3 c4 w e4 h, fun h => by rw [h]⟩⟩
   refine e1.trans ?_
   rw [r6_Equal_k7]
   refine e3.trans ?_
   rw [r6_Equal_k22]; exact e5
  ·
   rw [if_pos]
   ·
    exact ⟨false, rfl, by simp only [Bool.false_eq_true, false_iff]; intro h; subst h; exact hc ⟨rfl, rfl, rfl, rfl, rfl, rfl, rfl⟩⟩
   ·
    simp only [Bool.or_eq_true, Bool.not_eq_true', decide_eq_false_iff_not]
    have : ∀ x y : Nat, ((x : Int) = (y : Int)) = (x = y) := fun x y => propext ⟨fun h => by omega, fun h => by omega⟩
    simp only [this]
    by_cases x1 : a.kind = b.kind
    ·
     by_cases x2 : a.min = b.min
     ·
      by_cases x3 : a.max = b.max
      ·
       by_cases x4 : a.scale = b.scale
       ·
        by_cases x5 : a.words.length = b.words.length
        ·
         by_cases x6 : a.elem.length = b.elem.length
         ·
          exact .inr fun x7 => hc ⟨x1, x2, x3, x4, x5, x6, x7⟩
         ·
          exact .inl (.inr x6)
        ·
         exact .inl (.inl (.inr x5))
       ·
        exact .inl (.inl (.inl (.inr x4)))
      ·
       exact .inl (.inl (.inl (.inl (.inr x3))))
     ·
      exact .inl (.inl (.inl (.inl (.inl (.inr x2)))))
    ·
     exact .inl (.inl (.inl (.inl (.inl (.inl x1)))))
end Go.Proofs.YtggimoedcamonaaGreatDoor
namespace Go.Ev
open Go
structure VStk (Rw rows : List RowA) (sz : Nat) (xs : List AV) (id ver : Nat) : Prop where
 pre : Rw <+: rows
 calm : ∀ r ∈ rows.drop Rw.length, ∀ y ∈ r.cells, ∀ a b c, Under a b c y
 own : Rw.length ≤ id
 len : ∀ y ∈ xs, y.cells.length = sz
 at_ : ∃ rest, rows[id]? = some (.vec ver sz (xs.flatMap AV.cells ++ rest))
theorem VStk.under {Rw rows : List RowA} {sz : Nat} {xs : List AV} {id ver : Nat} (h : VStk Rw rows sz xs id ver) : id < rows.length := by
 obtain ⟨rest, h⟩ := h.at_
 exact (List.getElem?_eq_some_iff.1 h).1
theorem VStk.read {Rw rows : List RowA} {sz : Nat} {xs : List AV} {id ver : Nat} (h : VStk Rw rows sz xs id ver) :
  ∃ cs, vecR rows id ver = some (sz, cs) ∧ ∀ i y, xs[i]? = some y → (cs.drop (i * sz)).take sz = y.cells ∧ i * sz + sz ≤ cs.length := by
 obtain ⟨rest, h1⟩ := h.at_
 refine ⟨xs.flatMap AV.cells ++ rest, by simp only [vecR, h1, if_true], fun i y hy => ?_⟩
 obtain ⟨hi, rfl⟩ := List.getElem?_eq_some_iff.1 hy
 have q := h.len _ (List.getElem_mem hi)
 have hl : (xs.flatMap AV.cells).length = xs.length * sz := fm_len2 h.len
 have hm : i * sz + sz ≤ xs.length * sz := by rw [← Nat.succ_mul]; exact Nat.mul_le_mul_right _ hi
 refine ⟨List.ext_getElem? fun j => ?_, by rw [List.length_append]; omega⟩
 by_cases hj : j < sz
 ·
  rw [List.getElem?_take_of_lt hj, List.getElem?_drop, List.getElem?_append_left (by omega), fm_get2 h.len i hi j hj]
 ·
  rw [List.getElem?_eq_none (by simp; omega), List.getElem?_eq_none (by omega)]
theorem VStk.start (Rw : List RowA) {sz : Nat} {y : AV} {cs : List AV} (hc : cs = y.cells) (hy : y.cells.length = sz) (hu : ∀ c ∈ y.cells, ∀ a b d, Under a b d c) : VStk Rw (Rw ++ [.vec 0 sz cs]) sz [y] Rw.length 0 := by
 subst hc
 refine ⟨List.prefix_append _ _, fun r hr x hx a b c => ?_, Nat.le_refl _, fun x hx => by rw [List.mem_singleton.1 hx]; exact hy, ⟨[], by simp⟩⟩
 rw [List.drop_left] at hr
 rw [List.mem_singleton.1 hr] at hx
 exact hu x hx a b c
theorem VStk.take {Rw rows : List RowA} {sz : Nat} {xs : List AV} {id ver : Nat} (h : VStk Rw rows sz xs id ver) (k : Nat) : VStk Rw rows sz (xs.take k) id ver := by
 obtain ⟨rest, h1⟩ := h.at_
 refine ⟨h.pre, h.calm, h.own, fun y hy => h.len y (List.mem_of_mem_take hy), ⟨(xs.drop k).flatMap AV.cells ++ rest, ?_⟩⟩
 rw [h1, ← List.append_assoc, ← List.flatMap_append, List.take_append_drop]
theorem VStk.of_eq {Rw rows : List RowA} {sz : Nat} {xs ys : List AV} {id ver : Nat} (h : VStk Rw rows sz xs id ver) (he : xs = ys) : VStk Rw rows sz ys id ver := he ▸ h
theorem VStk.append {P : Program} {t el : TypeId} {sz by8 : Nat} {ag : Bool} {Rw rows : List RowA} {xs : List AV} {y : AV} {id ver : Nat} (h : VStk Rw rows sz xs id ver) (he : elT P t = some (el, sz, ag, by8)) (hz : (zeroT P el).isSome = true) (hs : 0 < sz)
  (hb : (xs.length + 1) * by8 ≤ 140737488355328) (hb2 : xs.length + 1 ≤ 4611686018427387904) (hy : y.cells.length = sz ∧ notTup y = true) (hp : y.pub = y) (hu : ∀ c ∈ y.cells, ∀ a b d, Under a b d c) :
  ∃ rows', VStk Rw rows' sz (xs ++ [y]) id (ver + 1) ∧ ∀ (B : List (List AV)) (L : List LoopA) (o2 : Own), evAppend P ⟨B, rows, L⟩ t (.vec id ver 0 xs.length) (.list [y] o2) = (True, .vec id (ver + 1) 0 (xs.length + 1), ⟨B, rows', L⟩) := by
 have hl := h.pre.length_le
 have h2 := h.own
 obtain ⟨rest, h3⟩ := h.at_
 have hlt := (List.getElem?_eq_some_iff.1 h3).1
 have hcl : (xs.flatMap AV.cells).length = xs.length * sz := fm_len2 h.len
 have ob : appendOb P el sz by8 xs.length [y] = True := by
  simp only [appendOb, hs, hz, List.length_singleton, hb, hb2, true_and, List.mem_singleton, forall_eq, hy, and_self]
 refine ⟨rows.set id (.vec (ver + 1) sz (xs.flatMap AV.cells ++ y.cells)), ⟨set_grow_pre h.pre h2 _, fun r hr z hz' a b c => ?_, h2, fun z hz => ?_, ⟨[], by simp [hlt, List.flatMap_append]⟩⟩, fun B L o2 => ?_⟩
 ·
  rw [List.drop_set, if_neg (by omega)] at hr
  rcases List.mem_or_eq_of_mem_set hr with hr | rfl
  ·
   exact h.calm r hr z hz' a b c
  ·
   rcases List.mem_append.1 hz' with q | q
   ·
    exact h.calm (.vec ver sz (xs.flatMap AV.cells ++ rest)) (by
     rw [List.mem_iff_getElem?]
     exact ⟨id - Rw.length, by rw [List.getElem?_drop, Nat.add_sub_cancel' h2]; exact h3⟩) z (List.mem_append_left _ q) a b c
   ·
    exact hu z q a b c
 ·
  rcases List.mem_append.1 hz with q | q
  ·
   exact h.len z q
  ·
   rw [List.mem_singleton.1 q]; exact hy.1
 ·
  simp only [evAppend, he, listOf, isList, List.length_singleton, List.flatMap_cons, List.flatMap_nil, List.append_nil, hp, vecR, h3, if_true]
  rw [ob]
  have e1 : (xs.flatMap AV.cells ++ rest).take (xs.length * sz) = xs.flatMap AV.cells := by rw [← hcl, List.take_left]
  have e2 : xs.length * sz ≤ (xs.flatMap AV.cells ++ rest).length := by rw [List.length_append]; omega
  simp only [true_and, e1, eq_true e2, and_self]
section
variable {P : Program} {w0 : World} {n : Nat} {e : Env} {st : St} {M0 : Mem} {W0 : World} {ro : Option Nat} {Q : AQ} {c : Code}
theorem tdS {B0 B bs X : List (List AV)} {Rw rows : List RowA} {L : List LoopA} {sz : Nat} {xs : List AV} {id ver : Nat} (hN : M0.N = B0.length) (hNR : M0.NR = Rw.length) (hNL : M0.NL = L.length) (hc : Calm B0.length Rw.length L.length ⟨B, Rw, L⟩) (ho : VStk Rw rows sz xs id ver)
  (h : awp P w0 n M0 W0 ro c Q e ⟨B ++ bs, rows, L⟩) (hB : B.length = B0.length := by first | rfl | simp only [List.length_set])
  (hbs : ∀ cs ∈ bs, ∀ x ∈ cs, Under (B0.length + bs.length) rows.length L.length x := by (simp +decide only [go_sem, Nat.reduceAdd]) <;> (try (repeat' apply And.intro)) <;> first | omega | assumption)
  (he : calmE (B0.length + bs.length) rows.length L.length e := by (simp +decide only [go_sem, Nat.reduceAdd, calmE]) <;> (try (repeat' apply And.intro)) <;> first | omega | assumption) : awp P w0 n M0 W0 ro c Q e ⟨B ++ (bs ++ X), rows, L⟩ := by
 rw [← hB] at hN hc hbs he
 clear hB B0
 have hl := ho.pre.length_le
 have e1 : St.cut ⟨B ++ (bs ++ X), rows, L⟩ (B.length + bs.length) rows.length L.length = ⟨B ++ bs, rows, L⟩ := by
  simp only [St.cut, List.take_length, ← List.append_assoc]
  rw [List.take_left' (by simp)]
 refine awp_cut (B.length + bs.length) rows.length L.length (by simp) (Nat.le_refl _) (Nat.le_refl _) (by omega) (by omega) (by omega) ?_ he (by rw [e1]; exact h)
 rw [e1]
 refine ⟨fun r hr x hx => ?_, fun cs hcs x hx => ?_, fun la hla k x hx ht => ?_⟩
 ·
  obtain ⟨t, rfl⟩ := ho.pre
  rcases List.mem_append.1 hr with hr | hr
  ·
   exact under_up (by omega) (by omega) (Nat.le_refl _) (hc.rows r hr x hx)
  ·
   exact ho.calm r (by simpa using hr) x hx _ _ _
 ·
  rcases List.mem_append.1 hcs with hcs | hcs
  ·
   exact under_up (by omega) (by omega) (Nat.le_refl _) (hc.boxes cs hcs x hx)
  ·
   exact hbs cs hcs x hx
 ·
  exact under_up (by omega) (by omega) (Nat.le_refl _) (hc.loops la hla k x hx ht)
end
end Go.Ev
namespace Go.Proofs.YtggimoedcamonaaGreatDoor
open Go Go.RowKit Go.Ev
def r4_fields_k7 (n : Nat)  : Option Int :=
 some (0)
def r4_fields_l10 (n : Nat) (a0 : List (ByteArray × Vl)) : Nat → Int → Option Int
 | 0, _ => none
 | m + 1, x3_l10 =>
  if decide (x3_l10 < ((a0.length : Int))) then
   (idx a0 x3_l10).bind fun x16 =>
   if x16.1.size ≤ maxLen then
    if !(nameB x16.1) then
     some (12)
    else
     if decide (0 < x3_l10) then
      if I64 (x3_l10 - 1) then
       (idx a0 (x3_l10 - 1)).bind fun x23 =>
       if sEq x16.1 x23.1 then
        some (7)
       else
        if I64 (x3_l10 - 1) then
         if sLt x16.1 x23.1 then
          some (24)
         else
          if I64 (x3_l10 + 1) then
           (r4_fields_l10 n a0 m) (x3_l10 + 1)
          else none
        else none
      else none
     else
      if I64 (x3_l10 + 1) then
       (r4_fields_l10 n a0 m) (x3_l10 + 1)
      else none
   else none
  else
   r4_fields_k7 n 
def r4_fields_F (n : Nat) (a0 : List (ByteArray × Vl)) : Option Int :=
 if decide (64 < ((a0.length : Int))) then
  some (9)
 else
  r4_fields_l10 n a0 n 0
theorem r4_fields_at (w0 : World) (n : Nat) (B : List (List AV)) (Rw : List RowA) (L : List LoopA) (a0 : List (ByteArray × Vl)) (r : Int) (h : r4_fields_F n a0 = some r) :
  ACalls Tryz.prog w0 159 [.list (a0.map avF) .none] ⟨B, Rw, L⟩ fun x st => x = .val (.int .i64 r) ∧ st = ⟨B, Rw, L⟩ := by
 rw [r4_fields_F] at h
 refine hd [.tmp 2] Tryz.func159 Tryz.ntmps159 fun M0 W0 hN hNR hNL hcalm hu hO hs => ?_
 simp only [argsE]
 refine rg [0] hs ?_
 apply awp_seq; intro K2 hK2
 refine rg [0, 6] hs ?_
 refine cnd h hs (fun hs h => ?_) (fun hs h => ?_)
 ·
  have hb4 := hs.1
  refine rg [2] hs ?_
  exact rt h hs hcalm hO
 have hb4 := hs.1
 refine sk [0] hs hK2 ?_
 clear hK2
 refine awp_mid (fun e st => Ck e st B Rw L [] [] [] (r4_fields_k7 n  = some r)) ?_ ?_
 ·
  intro K8 hK8
  refine rg [0, 3] hs ?_
  apply awp_block
  refine awp_loop (fun m e st => ∃ (x3_l10 : Int), Ck e st B Rw L [(0, true, .list (a0.map avF) .none), (3, true, .val (.int .i64 x3_l10))] [] [] (r4_fields_l10 n a0 m x3_l10 = some r)) n ⟨0, ([]), Rw, ef hs, ef hs, hO, h⟩ ?_
  rintro ml10 e st ⟨x3_l10, Xl10, Rl10, rfl, rfl, hO, h⟩ Ul10 Vl10
  cases ml10 with
  | zero => cases h
  | succ ml10 =>
  rw [r4_fields_l10] at h
  refine td hN hNR hNL hcalm hO ?_
  apply awp_seq; intro K11 hK11
  refine rg [0, 3, 10] hs ?_
  refine cnd h hs (fun hs h => ?_) (fun hs h => ?_)
  rotate_left
  ·
   have hb13 := hs.1
   refine sx [] hs hK8 ?_
   exact ⟨([]), Rl10, ef hs, ef hs, hO, h⟩
  have hb13 := hs.1
  refine sk [0, 3] hs hK11 ?_
  clear hK11
  apply awp_seq; intro K14 hK14
  apply awp_block
  apply awp_block
  obtain ⟨x16, hx16, h⟩ := bind_some h
  obtain ⟨hx16a, hx16b, hx16c⟩ := idx_some hx16
  have hx16d := getD_map (f := avF) hx16c
  obtain ⟨hg17, h⟩ := guard_some h
  have hs := And.intro hx16d hs
  refine rc 2 [0, 3, 13] hs ?_; intro K15 hK15
  refine callK_p _ (rName_at w0 _ _ _ x16.1 hg17) (hv hs) ?_
  refine ne hs hK15 ?_
  clear hK15
  refine cnd h hs (fun hs h => ?_) (fun hs h => ?_)
  ·
   have hb18 := hs.1
   refine rg [2] hs ?_
   exact rt h hs hcalm hO
  have hb18 := hs.1
  apply awp_seq; intro K20 hK20
  rcases Bool.eq_false_or_eq_true (decide (0 < x3_l10)) with hf21 | hf21
  ·
   replace h := ite_tt h hf21
   obtain ⟨hg22, h⟩ := guard_some h
   obtain ⟨x23, hx23a, hx23b, hx23d, h⟩ := ix avF h
   apply awp_draw mix 17 1 1 [0, 3, 21] (by kernel_rfl)
   rw [evK_succ]; simp +decide only [go_sem, Nat.reduceAdd, hb4, hb13, hx16d, hb18, hf21, hx23d]
   (repeat' with_reducible apply And.intro) <;> first | (rw [evK_succ]; simp +decide only [go_sem, Nat.reduceAdd, hb4, hb13, hx16d, hb18, hf21, hx23d]) | exact cl
   (repeat' apply And.intro) <;> first | refine hK20 _ _ ?_ | exact cl
   clear hK20
   have hs := And.intro hf21 hs
   have hs := And.intro hx23d hs
   refine cnd h hs (fun hs h => ?_) (fun hs h => ?_)
   ·
    refine rg [2] hs ?_
    exact rt h hs hcalm hO
   obtain ⟨hg27, h⟩ := guard_some h
   refine dg 17 1 1 [0, 3, 38] hs mix ?_
   refine cnd h hs (fun hs h => ?_) (fun hs h => ?_)
   ·
    refine rg [2] hs ?_
    exact rt h hs hcalm hO
   refine sk [0, 3] hs hK14 ?_
   clear hK14
   obtain ⟨hg30, h⟩ := guard_some h
   refine rl [0, 3] hs (fun e s => Vl10 ml10 e s (Nat.lt_succ_self _)) ?_
   exact ⟨(x3_l10 + 1), ([]), Rl10, ef hs, ef hs, hO, h⟩
  ·
   replace h := ite_ff h hf21
   apply awp_draw mix 17 1 1 [0, 3, 21] (by kernel_rfl)
   rw [evK_succ]; simp +decide only [go_sem, Nat.reduceAdd, hb4, hb13, hx16d, hb18, hf21]
   (repeat' with_reducible apply And.intro) <;> first | (rw [evK_succ]; simp +decide only [go_sem, Nat.reduceAdd, hb4, hb13, hx16d, hb18, hf21]) | exact cl
   (repeat' apply And.intro) <;> first | refine hK20 _ _ ?_ | exact cl
   clear hK20
   have hs := And.intro hf21 hs
   refine awp_cond false ev (ef hs) (fun hb31 => by cases hb31) (fun hb31 => ?_)
   refine dg 17 1 1 [0, 3, 38] hs mix ?_
   refine awp_cond false ev (ef hs) (fun hb33 => by cases hb33) (fun hb33 => ?_)
   refine sk [0, 3] hs hK14 ?_
   clear hK14
   obtain ⟨hg34, h⟩ := guard_some h
   refine rl [0, 3] hs (fun e s => Vl10 ml10 e s (Nat.lt_succ_self _)) ?_
   exact ⟨(x3_l10 + 1), ([]), Rl10, ef hs, ef hs, hO, h⟩
 ·
  clear h; rintro e st ⟨Xk7, Rk7, rfl, rfl, hO, h⟩
  rw [r4_fields_k7] at h
  refine td hN hNR hNL hcalm hO ?_
  refine rg [2] hs ?_
  exact rt h hs hcalm hO
def r4_Null_F (a0 : Vl) : Bool :=
 (((((decide (a0.kind = 0)) && (decide (a0.int = 0))) && (decide (a0.scale = 0))) && (sEq a0.text ((⟨#[]⟩ : ByteArray)))) && (decide (((a0.list.length : Int)) = 0))) && (decide (((a0.fields.length : Int)) = 0))
theorem r4_Null_at (w0 : World) (B : List (List AV)) (Rw : List RowA) (L : List LoopA) (a0 : Vl) (r : Bool) (h : r4_Null_F a0 = r) :
  ACalls Tryz.prog w0 22 [.agg (a0.cs)] ⟨B, Rw, L⟩ fun x st => x = .val (.bool r) ∧ st = ⟨B, Rw, L⟩ := by
 rw [r4_Null_F] at h
 refine hd [.tmp 2] Tryz.func22 Tryz.ntmps22 fun M0 W0 hN hNR hNL hcalm hu hO hs => ?_
 simp only [argsE]
 refine rg [1] hs ?_
 refine rg [2] hs ?_
 apply awp_ret; simp +decide only [go_sem, Nat.reduceAdd]
 subst h
 first | refine fin_q0 hcalm rfl hO.pre ev ⟨?_, rfl⟩ | refine fin_q hcalm rfl hO.pre ev ⟨?_, rfl⟩
 first | rfl | (simp +decide only [go_sem, Nat.reduceAdd]; done) | (simp +decide only [go_sem, Nat.reduceAdd, Vl.cs, Ty.cs]; done)
theorem r4_Null_at' (w0 : World) (B : List (List AV)) (Rw : List RowA) (L : List LoopA) (a0 : Vl) :
  ACalls Tryz.prog w0 22 [.agg (a0.cs)] ⟨B, Rw, L⟩ fun x st => x = .val (.bool (r4_Null_F a0)) ∧ st = ⟨B, Rw, L⟩ := r4_Null_at w0 B Rw L a0 _ rfl
def r4_outside_F (a0 : Int) (a1 : Int) (a2 : Int) : Bool :=
 (decide (a0 < a1)) || (decide (a2 < a0))
theorem r4_outside_at (w0 : World) (B : List (List AV)) (Rw : List RowA) (L : List LoopA) (a0 : Int) (a1 : Int) (a2 : Int) (r : Bool) (h : r4_outside_F a0 a1 a2 = r) :
  ACalls Tryz.prog w0 158 [.val (.int .i64 a0), .val (.int .i64 a1), .val (.int .i64 a2)] ⟨B, Rw, L⟩ fun x st => x = .val (.bool r) ∧ st = ⟨B, Rw, L⟩ := by
 rw [r4_outside_F] at h
 refine hd [.tmp 6] Tryz.func158 Tryz.ntmps158 fun M0 W0 hN hNR hNL hcalm hu hO hs => ?_
 simp only [argsE]
 refine rg [0, 1, 2] hs ?_
 refine rg [6] hs ?_
 apply awp_ret; simp +decide only [go_sem, Nat.reduceAdd]
 subst h
 first | refine fin_q0 hcalm rfl hO.pre ev ⟨?_, rfl⟩ | refine fin_q hcalm rfl hO.pre ev ⟨?_, rfl⟩
 first | rfl | (simp +decide only [go_sem, Nat.reduceAdd]; done) | (simp +decide only [go_sem, Nat.reduceAdd, Vl.cs, Ty.cs]; done)
theorem r4_outside_at' (w0 : World) (B : List (List AV)) (Rw : List RowA) (L : List LoopA) (a0 : Int) (a1 : Int) (a2 : Int) :
  ACalls Tryz.prog w0 158 [.val (.int .i64 a0), .val (.int .i64 a1), .val (.int .i64 a2)] ⟨B, Rw, L⟩ fun x st => x = .val (.bool (r4_outside_F a0 a1 a2)) ∧ st = ⟨B, Rw, L⟩ := r4_outside_at w0 B Rw L a0 a1 a2 _ rfl
def r4_unused_F (a0 : Vl) : Bool :=
 (((((!((((decide (1 ≤ a0.kind)) && (decide (a0.kind ≤ 3))) || (decide (a0.kind = 6))) || (decide (a0.kind = 7)))) && (!(decide (a0.int = 0)))) || ((!(decide (a0.kind = 3))) && (!(decide (a0.scale = 0))))) || ((!(((decide (a0.kind = 4)) || (decide (a0.kind = 5))) || (decide (a0.kind = 10)))) && (!(sEq a0.text ((⟨#[]⟩ : ByteArray)))))) || ((!((decide (a0.kind = 8)) || (decide (a0.kind = 10)))) && (decide (0 < ((a0.list.length : Int)))))) || ((!(decide (a0.kind = 9))) && (decide (0 < ((a0.fields.length : Int)))))
theorem r4_unused_at (w0 : World) (B : List (List AV)) (Rw : List RowA) (L : List LoopA) (a0 : Vl) (r : Bool) (h : r4_unused_F a0 = r) :
  ACalls Tryz.prog w0 157 [.agg (a0.cs)] ⟨B, Rw, L⟩ fun x st => x = .val (.bool r) ∧ st = ⟨B, Rw, L⟩ := by
 rw [r4_unused_F] at h
 refine hd [.tmp 2] Tryz.func157 Tryz.ntmps157 fun M0 W0 hN hNR hNL hcalm hu hO hs => ?_
 simp only [argsE]
 refine rg [1] hs ?_
 refine rg [1, 3] hs ?_
 refine rg [1, 3, 4] hs ?_
 refine rg [1, 3, 4, 5] hs ?_
 refine rg [2] hs ?_
 apply awp_ret; simp +decide only [go_sem, Nat.reduceAdd]
 subst h
 first | refine fin_q0 hcalm rfl hO.pre ev ⟨?_, rfl⟩ | refine fin_q hcalm rfl hO.pre ev ⟨?_, rfl⟩
 first | rfl | (simp +decide only [go_sem, Nat.reduceAdd]; done) | (simp +decide only [go_sem, Nat.reduceAdd, Vl.cs, Ty.cs]; done)
theorem r4_unused_at' (w0 : World) (B : List (List AV)) (Rw : List RowA) (L : List LoopA) (a0 : Vl) :
  ACalls Tryz.prog w0 157 [.agg (a0.cs)] ⟨B, Rw, L⟩ fun x st => x = .val (.bool (r4_unused_F a0)) ∧ st = ⟨B, Rw, L⟩ := r4_unused_at w0 B Rw L a0 _ rfl
def r4_Own_k13 (n : Nat)  : Option Int :=
 some (0)
def r4_Own_k31 (n : Nat) (a0 : Vl) (x51_k31 : Bool) : Option Int :=
 if x51_k31 then
  if decide (1024 < ((a0.text.size : Int))) then
   some (5)
  else
   if decide (a0.kind = 4) then
    if a0.text.size ≤ maxLen then
     if !(Lib.validD a0.text.data.toList) then
      some (16)
     else
      r4_Own_k13 n 
    else none
   else
    r4_Own_k13 n 
 else
  if decide (a0.kind = 6) then
   if r4_outside_F a0.int ((-719162)) 2932896 then
    some (2)
   else
    r4_Own_k13 n 
  else
   if decide (a0.kind = 7) then
    if r4_outside_F a0.int ((-62135596800000)) 253402300799999 then
     some (2)
    else
     r4_Own_k13 n 
   else
    if decide (a0.kind = 8) then
     if decide (256 < ((a0.list.length : Int))) then
      some (9)
     else
      r4_Own_k13 n 
    else
     if decide (a0.kind = 9) then
      (r4_fields_F n a0.fields).bind fun y64 =>
      some (y64)
     else
      if a0.text.size ≤ maxLen then
       if !(nameB a0.text) then
        some (12)
       else
        if decide (((a0.list.length : Int)) = 0) then
         some (4)
        else
         if decide (1 < ((a0.list.length : Int))) then
          some (3)
         else
          r4_Own_k13 n 
      else none
def r4_Own_k22 (n : Nat) (a0 : Vl) (x40_k22 : Bool) : Option Int :=
 if x40_k22 then
  if (r4_outside_F a0.int ((-999999999999999)) 999999999999999) || (r4_outside_F a0.scale 0 12) then
   some (2)
  else
   r4_Own_k13 n 
 else
  if decide (a0.kind = 4) then
   r4_Own_k31 n a0 true
  else
   r4_Own_k31 n a0 (decide (a0.kind = 5))
def r4_Own_F (n : Nat) (a0 : Vl) : Option Int :=
 if r4_Null_F a0 then
  some (19)
 else
  if (decide (a0.kind < 1)) || (decide (10 < a0.kind)) then
   some (11)
  else
   if r4_unused_F a0 then
    some (3)
   else
    if decide (a0.kind = 1) then
     if r4_outside_F a0.int 0 1 then
      some (2)
     else
      r4_Own_k13 n 
    else
     if decide (a0.kind = 2) then
      r4_Own_k22 n a0 true
     else
      r4_Own_k22 n a0 (decide (a0.kind = 3))
theorem r4_Own_at (w0 : World) (hT : Lib.Utf8Tabs 0 1 w0) (n : Nat) (B : List (List AV)) (Rw : List RowA) (L : List LoopA) (a0 : Vl) (r : Int) (h : r4_Own_F n a0 = some r) :
  ACalls Tryz.prog w0 102 [.agg (a0.cs)] ⟨B, Rw, L⟩ fun x st => x = .val (.int .i64 r) ∧ st = ⟨B, Rw, L⟩ := by
 rw [r4_Own_F] at h
 refine hd [.tmp 2] Tryz.func102 Tryz.ntmps102 fun M0 W0 hN hNR hNL hcalm hu hO hs => ?_
 simp only [argsE]
 refine rg [1] hs ?_
 apply awp_seq; intro K2 hK2
 apply awp_block
 refine rc 2 [1, 3] hs ?_; intro K3 hK3
 refine callK_p _ (r4_Null_at' w0 _ _ _ a0) (hv hs) ?_
 refine ne hs hK3 ?_
 clear hK3
 refine cnd h hs (fun hs h => ?_) (fun hs h => ?_)
 ·
  have hb4 := hs.1
  refine rg [2] hs ?_
  exact rt h hs hcalm hO
 have hb4 := hs.1
 refine rg [1, 6] hs ?_
 refine cnd h hs (fun hs h => ?_) (fun hs h => ?_)
 ·
  have hb7 := hs.1
  refine rg [2] hs ?_
  exact rt h hs hcalm hO
 have hb7 := hs.1
 refine rc 2 [1, 15] hs ?_; intro K9 hK9
 refine callK_p _ (r4_unused_at' w0 _ _ _ a0) (hv hs) ?_
 refine ne hs hK9 ?_
 clear hK9
 refine cnd h hs (fun hs h => ?_) (fun hs h => ?_)
 ·
  have hb10 := hs.1
  refine rg [2] hs ?_
  exact rt h hs hcalm hO
 have hb10 := hs.1
 refine sk [1] hs hK2 ?_
 clear hK2
 refine awp_mid (fun e st => Ck e st B Rw L [] [a0.cs] [] (r4_Own_k13 n  = some r)) ?_ ?_
 ·
  intro K14 hK14
  refine rg [1, 19] hs ?_
  apply awp_block
  refine rg [1, 19, 35] hs ?_
  refine cnd h hs (fun hs h => ?_) (fun hs h => ?_)
  ·
   have hb17 := hs.1
   refine rc 2 [39] hs ?_; intro K18 hK18
   refine callK_p _ (r4_outside_at' w0 _ _ _ a0.int 0 1) (hv hs) ?_
   refine ne hs hK18 ?_
   clear hK18
   refine cnd h hs (fun hs h => ?_) (fun hs h => ?_)
   ·
    refine rg [2] hs ?_
    exact rt h hs hcalm hO
   refine sk [] hs hK14 ?_
   exact ⟨([]), Rw, ef hs, ef hs, hO, h⟩
  have hb17 := hs.1
  refine awp_mid (fun e st => ∃ (x40_k22 : Bool), Ck e st B Rw L [(1, true, .box B.length 0), (19, true, .val (.int .i64 a0.kind)), (40, true, .val (.bool x40_k22))] [a0.cs] [] (r4_Own_k22 n a0 x40_k22 = some r)) ?_ ?_
  ·
   intro K23 hK23
   refine rg [1, 19, 40] hs ?_
   refine cnd h hs (fun hs h => ?_) (fun hs h => ?_)
   ·
    refine sk [1, 19, 40] hs hK23 ?_
    exact ⟨true, ([]), Rw, ef hs, ef hs, hO, h⟩
   refine rl [1, 19, 40] hs hK23 ?_
   exact ⟨(decide (a0.kind = 3)), ([]), Rw, ef hs, ef hs, hO, h⟩
  ·
   clear h; rintro e st ⟨x40_k22, Xk22, Rk22, rfl, rfl, hO, h⟩
   rw [r4_Own_k22] at h
   refine td hN hNR hNL hcalm hO ?_
   refine cnd h hs (fun hs h => ?_) (fun hs h => ?_)
   ·
    have hb26 := hs.1
    refine rc 3 [50] hs ?_; intro K27 hK27
    refine callK_p _ (r4_outside_at' w0 _ _ _ a0.int ((-999999999999999)) 999999999999999) (hv hs) ?_
    refine nc hs ?_
    refine callK_p_if _ (fun _ => r4_outside_at' w0 _ _ _ a0.scale 0 12) (hv hs) ?_
    refine ne hs hK27 ?_
    clear hK27
    refine cnd h hs (fun hs h => ?_) (fun hs h => ?_)
    ·
     refine rg [2] hs ?_
     exact rt h hs hcalm hO
    refine sk [] hs hK14 ?_
    exact ⟨([]), Rk22, ef hs, ef hs, hO, h⟩
   have hb26 := hs.1
   refine awp_mid (fun e st => ∃ (x51_k31 : Bool), Ck e st B Rw L [(1, true, .box B.length 0), (19, true, .val (.int .i64 a0.kind)), (51, true, .val (.bool x51_k31))] [a0.cs] [] (r4_Own_k31 n a0 x51_k31 = some r)) ?_ ?_
   ·
    intro K32 hK32
    refine rg [1, 19, 51] hs ?_
    refine cnd h hs (fun hs h => ?_) (fun hs h => ?_)
    ·
     refine sk [1, 19, 51] hs hK32 ?_
     exact ⟨true, ([]), Rk22, ef hs, ef hs, hO, h⟩
    refine rl [1, 19, 51] hs hK32 ?_
    exact ⟨(decide (a0.kind = 5)), ([]), Rk22, ef hs, ef hs, hO, h⟩
   ·
    clear h; rintro e st ⟨x51_k31, Xk31, Rk31, rfl, rfl, hO, h⟩
    rw [r4_Own_k31] at h
    refine td hN hNR hNL hcalm hO ?_
    refine cnd h hs (fun hs h => ?_) (fun hs h => ?_)
    ·
     have hb35 := hs.1
     apply awp_seq; intro K36 hK36
     refine rg [1, 57] hs ?_
     refine cnd h hs (fun hs h => ?_) (fun hs h => ?_)
     ·
      have hb38 := hs.1
      refine rg [2] hs ?_
      exact rt h hs hcalm hO
     have hb38 := hs.1
     refine sk [1] hs hK36 ?_
     clear hK36
     apply awp_seq; intro K40 hK40
     rcases Bool.eq_false_or_eq_true (decide (a0.kind = 4)) with hf41 | hf41
     ·
      replace h := ite_tt h hf41
      obtain ⟨hg42, h⟩ := guard_some h
      have hs := And.intro hf41 hs
      refine rk 2 [66] hs ?_
      refine callK_p _ (sValid_at2 w0 _ _ _ hT a0.text hg42) (hv hs) ?_
      refine ne hs hK40 ?_
      clear hK40
      refine cnd h hs (fun hs h => ?_) (fun hs h => ?_)
      ·
       refine rg [2] hs ?_
       exact rt h hs hcalm hO
      refine sk [] hs hK14 ?_
      exact ⟨([]), Rk31, ef hs, ef hs, hO, h⟩
     ·
      replace h := ite_ff h hf41
      apply awp_region 2 [66]
      rw [evK_succ]; simp +decide only [go_sem, Nat.reduceAdd, hb4, hb7, hb10, hb17, hb26, hb35, hb38, hf41]
      (repeat' apply And.intro) <;> first | refine callK_skip ?_ | exact cl
      rw [evK_succ]; simp +decide only [go_sem, Nat.reduceAdd, hb4, hb7, hb10, hb17, hb26, hb35, hb38, hf41]
      (repeat' apply And.intro) <;> first | refine hK40 _ _ ?_ | exact cl
      clear hK40
      have hs := And.intro hf41 hs
      refine awp_cond false ev (ef hs) (fun hb45 => by cases hb45) (fun hb45 => ?_)
      refine sk [] hs hK14 ?_
      exact ⟨([]), Rk31, ef hs, ef hs, hO, h⟩
    have hb35 := hs.1
    refine rg [1, 19, 67] hs ?_
    refine cnd h hs (fun hs h => ?_) (fun hs h => ?_)
    ·
     refine rc 2 [71] hs ?_; intro K48 hK48
     refine callK_p _ (r4_outside_at' w0 _ _ _ a0.int ((-719162)) 2932896) (hv hs) ?_
     refine ne hs hK48 ?_
     clear hK48
     refine cnd h hs (fun hs h => ?_) (fun hs h => ?_)
     ·
      refine rg [2] hs ?_
      exact rt h hs hcalm hO
     refine sk [] hs hK14 ?_
     exact ⟨([]), Rk31, ef hs, ef hs, hO, h⟩
    refine rg [1, 19, 72] hs ?_
    refine cnd h hs (fun hs h => ?_) (fun hs h => ?_)
    ·
     refine rc 2 [76] hs ?_; intro K53 hK53
     refine callK_p _ (r4_outside_at' w0 _ _ _ a0.int ((-62135596800000)) 253402300799999) (hv hs) ?_
     refine ne hs hK53 ?_
     clear hK53
     refine cnd h hs (fun hs h => ?_) (fun hs h => ?_)
     ·
      refine rg [2] hs ?_
      exact rt h hs hcalm hO
     refine sk [] hs hK14 ?_
     exact ⟨([]), Rk31, ef hs, ef hs, hO, h⟩
    refine rg [1, 19, 77] hs ?_
    refine cnd h hs (fun hs h => ?_) (fun hs h => ?_)
    ·
     refine rg [82] hs ?_
     refine cnd h hs (fun hs h => ?_) (fun hs h => ?_)
     ·
      refine rg [2] hs ?_
      exact rt h hs hcalm hO
     refine sk [] hs hK14 ?_
     exact ⟨([]), Rk31, ef hs, ef hs, hO, h⟩
    refine rg [1, 83] hs ?_
    refine cnd h hs (fun hs h => ?_) (fun hs h => ?_)
    ·
     obtain ⟨y64, hy64, h⟩ := bind_some h
     refine rc 2 [2] hs ?_; intro K63 hK63
     refine callK_p _ (r4_fields_at w0 n _ _ _ a0.fields _ hy64) (hv hs) ?_
     refine ne hs hK63 ?_
     clear hK63
     exact rt h hs hcalm hO
    apply awp_block
    obtain ⟨hg66, h⟩ := guard_some h
    refine rc 2 [1, 20] hs ?_; intro K65 hK65
    refine callK_p _ (rName_at w0 _ _ _ a0.text hg66) (hv hs) ?_
    refine ne hs hK65 ?_
    clear hK65
    refine cnd h hs (fun hs h => ?_) (fun hs h => ?_)
    ·
     refine rg [2] hs ?_
     exact rt h hs hcalm hO
    refine rg [1, 25] hs ?_
    refine cnd h hs (fun hs h => ?_) (fun hs h => ?_)
    ·
     refine rg [2] hs ?_
     exact rt h hs hcalm hO
    refine rg [30] hs ?_
    refine cnd h hs (fun hs h => ?_) (fun hs h => ?_)
    ·
     refine rg [2] hs ?_
     exact rt h hs hcalm hO
    refine sk [] hs hK14 ?_
    exact ⟨([]), Rk31, ef hs, ef hs, hO, h⟩
 ·
  clear h; rintro e st ⟨Xk13, Rk13, rfl, rfl, hO, h⟩
  rw [r4_Own_k13] at h
  refine td hN hNR hNL hcalm hO ?_
  refine rg [2] hs ?_
  exact rt h hs hcalm hO
def r4_Parts_k4 (n : Nat)  (x3_k4 : List Vl) : Option ((List Vl)) :=
 some (x3_k4)
def r4_Parts_l21 (n : Nat) (a0 : Vl) : Nat → (List Vl) → Int → Option ((List Vl))
 | 0, _, _ => none
 | m + 1, x3_l21, x4_l21 =>
  if decide (x4_l21 < ((a0.fields.length : Int))) then
   (idx a0.fields x4_l21).bind fun x26 =>
   if (x3_l21.length + 1) * 88 ≤ 140737488355328 ∧ x3_l21.length + 1 ≤ 4611686018427387904 then
    if I64 (x4_l21 + 1) then
     (r4_Parts_l21 n a0 m) (x3_l21 ++ ([x26.2])) (x4_l21 + 1)
    else none
   else none
  else
   r4_Parts_k4 n x3_l21
def r4_Parts_k8 (n : Nat) (a0 : Vl) (x7_k8 : Bool) : Option ((List Vl)) :=
 if x7_k8 then
  if (0 + a0.list.length) * 88 ≤ 140737488355328 ∧ 0 + a0.list.length ≤ 4611686018427387904 then
   r4_Parts_k4 n a0.list
  else none
 else
  if decide (a0.kind = 9) then
   r4_Parts_l21 n a0 n ([]) 0
  else
   r4_Parts_k4 n ([])
def r4_Parts_F (n : Nat) (a0 : Vl) : Option ((List Vl)) :=
 if decide (a0.kind = 8) then
  r4_Parts_k8 n a0 true
 else
  r4_Parts_k8 n a0 (decide (a0.kind = 10))
theorem r4_Parts_at (w0 : World) (n : Nat) (B : List (List AV)) (Rw : List RowA) (L : List LoopA) (a0 : Vl) (r : (List Vl)) (h : r4_Parts_F n a0 = some r) :
  ACalls Tryz.prog w0 103 [.agg (a0.cs)] ⟨B, Rw, L⟩ fun x st => x = .list (r.map avV) .none ∧ st = ⟨B, Rw, L⟩ := by
 rw [r4_Parts_F] at h
 refine hd [.tmp 2] Tryz.func103 Tryz.ntmps103 fun M0 W0 hN hNR hNL hcalm hu hO hs => ?_
 simp only [argsE]
 refine rg [1] hs ?_
 refine rg [1, 3] hs ?_
 refine awp_mid (fun e st => ∃ (x3_k4 : List Vl) (ox3_k4 : Ev.Own), Ck e st B Rw L [(3, true, .list (x3_k4.map avV) ox3_k4)] [a0.cs] [(6, x3_k4.length, ox3_k4)] (r4_Parts_k4 n x3_k4 = some r)) ?_ ?_
 ·
  intro K5 hK5
  refine rg [1, 3, 6] hs ?_
  apply awp_block
  refine awp_mid (fun e st => ∃ (x7_k8 : Bool), Ck e st B Rw L [(1, true, .box B.length 0), (3, true, .list ([]) .full), (6, true, .val (.int .i64 a0.kind)), (7, true, .val (.bool x7_k8))] [a0.cs] [] (r4_Parts_k8 n a0 x7_k8 = some r)) ?_ ?_
  ·
   intro K9 hK9
   refine rg [1, 3, 6, 7] hs ?_
   refine cnd h hs (fun hs h => ?_) (fun hs h => ?_)
   ·
    refine sk [1, 3, 6, 7] hs hK9 ?_
    exact ⟨true, ([]), Rw, ef hs, ef hs, hO, h⟩
   refine rl [1, 3, 6, 7] hs hK9 ?_
   exact ⟨(decide (a0.kind = 10)), ([]), Rw, ef hs, ef hs, hO, h⟩
  ·
   clear h; rintro e st ⟨x7_k8, Xk8, Rk8, rfl, rfl, hO, h⟩
   rw [r4_Parts_k8] at h
   refine td hN hNR hNL hcalm hO ?_
   refine cnd h hs (fun hs h => ?_) (fun hs h => ?_)
   ·
    obtain ⟨hg13, h⟩ := guard_some h
    have hO := hO.full 6 0
    obtain ⟨o15, rows16, hO, hap17⟩ := hO.append (P := Tryz.prog) elT_31 (by rw [zeroT_34]; rfl) (by decide) a0.list.length hg13.1 hg13.2
    simp only [Nat.zero_add] at hO
    replace hap17 := fun (ys : List AV) B L o2 => hap17 ([]) ys B L o2 (by first | rfl | simp only [List.length_map, List.length_nil, List.length_append, List.length_cons, Nat.zero_add])
    replace hap17 := fun B L o2 => hap17 (a0.list.map avV) B L o2 (by first | rfl | simp only [List.length_map, List.length_nil, List.length_cons]) ev
    try simp only [List.mem_singleton, List.mem_cons, List.not_mem_nil, or_false, forall_eq_or_imp, forall_eq, List.map_append, List.map_cons, List.map_nil, avI_eq, avB_eq, avS_eq, avV_eq, avT_eq, avF_eq, avTF_eq, avPt_eq, avL_eq, avSch_eq, avItm_eq, avLm_eq] at hap17
    have hs := And.intro hap17 hs
    refine rl [3] hs hK5 ?_
    exact ⟨a0.list, o15, ([]), rows16, ef hs, ef hs, Owns.of_eq (hO) (by first | rfl | simp only [List.length_append, List.length_cons, List.length_nil, List.length_map, Nat.zero_add, Nat.add_zero]), h⟩
   refine rg [1, 3, 14] hs ?_
   refine cnd h hs (fun hs h => ?_) (fun hs h => ?_)
   ·
    refine rg [1, 3, 4] hs ?_
    apply awp_block
    refine awp_loop (fun m e st => ∃ (x3_l21 : List Vl) (x4_l21 : Int) (ox3_l21 : Ev.Own), Ck e st B Rw L [(1, true, .box B.length 0), (3, true, .list (x3_l21.map avV) ox3_l21), (4, true, .val (.int .i64 x4_l21))] [a0.cs] [(6, x3_l21.length, ox3_l21)] (r4_Parts_l21 n a0 m x3_l21 x4_l21 = some r)) n ⟨([]), 0, .full, ([]), Rk8, ef hs, ef hs, Owns.of_eq ((hO).full 6 0) (by first | rfl | simp only [List.length_append, List.length_cons, List.length_nil, List.length_map, Nat.zero_add, Nat.add_zero]), h⟩ ?_
    rintro ml21 e st ⟨x3_l21, x4_l21, ox3_l21, Xl21, Rl21, rfl, rfl, hO, h⟩ Ul21 Vl21
    cases ml21 with
    | zero => cases h
    | succ ml21 =>
    rw [r4_Parts_l21] at h
    have hU := hO.unders
    simp only [List.mem_cons, List.not_mem_nil, or_false, forall_eq_or_imp, forall_eq] at hU
    refine td hN hNR hNL hcalm hO ?_
    apply awp_seq; intro K22 hK22
    refine rg [1, 3, 4, 20] hs ?_
    refine cnd h hs (fun hs h => ?_) (fun hs h => ?_)
    rotate_left
    ·
     refine sx [3] hs hK5 ?_
     exact ⟨x3_l21, ox3_l21, ([]), Rl21, ef hs, ef hs, Owns.of_eq (hO) (by first | rfl | simp only [List.length_append, List.length_cons, List.length_nil, List.length_map, Nat.zero_add, Nat.add_zero]), h⟩
    refine sk [1, 3, 4] hs hK22 ?_
    clear hK22
    apply awp_seq; intro K25 hK25
    apply awp_block
    obtain ⟨x26, hx26a, hx26b, hx26d, h⟩ := ix avF h
    obtain ⟨hg27, h⟩ := guard_some h
    obtain ⟨o28, rows29, hO, hap30⟩ := hO.append (P := Tryz.prog) elT_31 (by rw [zeroT_34]; rfl) (by decide) 1 hg27.1 hg27.2
    replace hap30 := fun (ys : List AV) B L o2 => hap30 (x3_l21.map avV) ys B L o2 (by first | rfl | simp only [List.length_map, List.length_nil, List.length_append, List.length_cons, Nat.zero_add])
    replace hap30 := fun (y : AV) B L o2 => hap30 [y] B L o2 (by first | rfl | simp only [List.length_map, List.length_nil, List.length_cons]) ev
    try simp only [List.mem_singleton, List.mem_cons, List.not_mem_nil, or_false, forall_eq_or_imp, forall_eq, List.map_append, List.map_cons, List.map_nil, avI_eq, avB_eq, avS_eq, avV_eq, avT_eq, avF_eq, avTF_eq, avPt_eq, avL_eq, avSch_eq, avItm_eq, avLm_eq] at hap30
    have hs := And.intro hx26d hs
    have hs := And.intro hap30 hs
    refine rl [1, 3, 4] hs hK25 ?_
    clear hK25
    obtain ⟨hg31, h⟩ := guard_some h
    refine rl [1, 3, 4] hs (fun e s => Vl21 ml21 e s (Nat.lt_succ_self _)) ?_
    exact ⟨(x3_l21 ++ ([x26.2])), (x4_l21 + 1), o28, ([]), rows29, ef hs, ef hs, Owns.of_eq (hO) (by first | rfl | simp only [List.length_append, List.length_cons, List.length_nil, List.length_map, Nat.zero_add, Nat.add_zero]), h⟩
   refine sk [3] hs hK5 ?_
   exact ⟨([]), .full, ([]), Rk8, ef hs, ef hs, Owns.of_eq ((hO).full 6 0) (by first | rfl | simp only [List.length_append, List.length_cons, List.length_nil, List.length_map, Nat.zero_add, Nat.add_zero]), h⟩
 ·
  clear h; rintro e st ⟨x3_k4, ox3_k4, Xk4, Rk4, rfl, rfl, hO, h⟩
  rw [r4_Parts_k4] at h
  have hU := hO.unders
  simp only [List.mem_cons, List.not_mem_nil, or_false, forall_eq_or_imp, forall_eq] at hU
  refine td hN hNR hNL hcalm hO ?_
  refine rg [2] hs ?_
  exact rt h hs hcalm hO
@[go_sem] theorem vl_a6 (v : Vl) (x d : AV) : (v.cs ++ [x]).getD 6 d = x := by cases v; rfl
@[go_sem] theorem splice_vl0 (v : Vl) (a b c d e f g : AV) : splice [a, b, c, d, e, f, g] 0 v.cs = v.cs ++ [g] := by
 cases v; rfl
@[go_sem] theorem splice_vl6 (v : Vl) (g x : AV) : splice (v.cs ++ [g]) 6 [x] = v.cs ++ [x] := by
 cases v; rfl
theorem avItm_one (x : Itm) : (avItm x).cells.length = 7 ∧ notTup (avItm x) = true := by simp +decide only [go_sem, and_self]
theorem avItm_pubOne (x : Itm) : (avItm x).pub = avItm x := by simp +decide only [go_sem]
theorem avItm_underOne (x : Itm) : ∀ c ∈ (avItm x).cells, ∀ a b d, Under a b d c := by
 intro c hc a b d
 simp only [avItm, AV.cells, List.mem_append, List.mem_singleton] at hc
 rcases hc with hc | rfl
 ·
  exact x.v.under a b d c hc
 ·
  exact .val _
def r4_Check_k13 (n : Nat) (again_l8 : (List Itm) → Int → Option Int) (x4_l8 : Int) (x3_k13 : List Itm) : Option Int :=
 if I64 (x4_l8 + 1) then
  again_l8 x3_k13 (x4_l8 + 1)
 else none
def r4_Check_k5 (n : Nat)  : Option Int :=
 some (0)
def r4_Check_l38 (n : Nat) (again_l8 : (List Itm) → Int → Option Int) (x4_l8 : Int) (x17 : Itm) (y35 : (List Vl)) : Nat → (List Itm) → Int → Option Int
 | 0, _, _ => none
 | m + 1, x3_l38, x8_l38 =>
  if decide (0 ≤ x8_l38) then
   (idx y35 x8_l38).bind fun x43 =>
   if I64 (x17.level + 1) then
    if (x3_l38.length + 1) * 96 ≤ 140737488355328 ∧ x3_l38.length + 1 ≤ 4611686018427387904 then
     if I64 (x8_l38 - 1) then
      (r4_Check_l38 n again_l8 x4_l8 x17 y35 m) (x3_l38 ++ ([Itm.mk x43 (x17.level + 1)])) (x8_l38 - 1)
     else none
    else none
   else none
  else
   r4_Check_k13 n again_l8 x4_l8 x3_l38
def r4_Check_l8 (n : Nat)  : Nat → (List Itm) → Int → Option Int
 | 0, _, _ => none
 | m + 1, x3_l8, x4_l8 =>
  if decide (0 < ((x3_l8.length : Int))) then
   if I64 (((x3_l8.length : Int)) - 1) then
    (idx x3_l8 (((x3_l8.length : Int)) - 1)).bind fun x17 =>
    if I64 (((x3_l8.length : Int)) - 1) then
     if 0 ≤ ((x3_l8.length : Int)) - 1 ∧ ((x3_l8.length : Int)) - 1 ≤ (x3_l8.length : Int) then
      if decide (4096 ≤ x4_l8) then
       some (9)
      else
       if decide (8 < x17.level) then
        some (23)
       else
        (r4_Own_F n x17.v).bind fun y30 =>
        if !(decide (y30 = 0)) then
         some (y30)
        else
         (r4_Parts_F n x17.v).bind fun y35 =>
         if I64 (((y35.length : Int)) - 1) then
          r4_Check_l38 n (r4_Check_l8 n m) x4_l8 x17 y35 n (x3_l8.take (((x3_l8.length : Int)) - 1).toNat) (((y35.length : Int)) - 1)
         else none
     else none
    else none
   else none
  else
   r4_Check_k5 n 
def r4_Check_F (n : Nat) (a0 : Vl) : Option Int :=
 r4_Check_l8 n n ([Itm.mk a0 1]) 0
theorem r4_Check_at (w0 : World) (hT : Lib.Utf8Tabs 0 1 w0) (n : Nat) (B : List (List AV)) (Rw : List RowA) (L : List LoopA) (a0 : Vl) (r : Int) (h : r4_Check_F n a0 = some r) :
  ACalls Tryz.prog w0 59 [.agg (a0.cs)] ⟨B, Rw, L⟩ fun x st => x = .val (.int .i64 r) ∧ st = ⟨B, Rw, L⟩ := by
 rw [r4_Check_F] at h
 refine hd [.tmp 2] Tryz.func59 Tryz.ntmps59 fun M0 W0 hN hNR hNL hcalm hu hO hs => ?_
 simp only [argsE]
 refine rg [1] hs ?_
 apply awp_seq; intro K2 hK2
 refine awp_mark 128 (by decide) ?_
 apply awp_region 1 [3]
 rw [evK_succ]; simp +decide only [go_sem, Nat.reduceAdd, fillA, fillOk, placeT]
 (repeat' apply And.intro) <;> first | refine hK2 _ _ ?_ | exact cl
 clear hK2
 refine awp_mid (fun e st => ∃ (xs_k5 : List AV) (id_k5 ver_k5 : Nat) (Xk5 : List (List AV)) (Rk5 : List RowA), e = [] ∧ st = ⟨B ++ ([a0.cs] ++ Xk5), Rk5, L⟩ ∧ VStk Rw Rk5 7 xs_k5 id_k5 ver_k5 ∧ r4_Check_k5 n  = some r) ?_ ?_
 ·
  intro K6 hK6
  refine rg [3, 4] hs ?_
  apply awp_block
  refine awp_loop (fun m e st => ∃ (x3_l8 : List Itm) (x4_l8 : Int) (id_l8 ver_l8 : Nat) (Xl8 : List (List AV)) (Rl8 : List RowA), e = [(3, true, .vec id_l8 ver_l8 0 x3_l8.length), (4, true, .val (.int .i64 x4_l8))] ∧ st = ⟨B ++ ([a0.cs] ++ Xl8), Rl8, L⟩ ∧ VStk Rw Rl8 7 (x3_l8.map avItm) id_l8 ver_l8 ∧ r4_Check_l8 n m x3_l8 x4_l8 = some r) n ⟨([Itm.mk a0 1]), 0, Rw.length, 0, ([]), Rw ++ [.vec 0 7 ([avItm (Itm.mk a0 1)].flatMap fun x => x.pub.cells)], ef hs, ef hs, VStk.start (y := avItm (Itm.mk a0 1)) Rw (by simp only [List.flatMap_cons, List.flatMap_nil, List.append_nil, avItm_pubOne]) (avItm_one _).1 (avItm_underOne _), h⟩ ?_
  rintro ml8 e st ⟨x3_l8, x4_l8, id_l8, ver_l8, Xl8, Rl8, rfl, rfl, hO, h⟩ Ul8 Vl8
  cases ml8 with
  | zero => cases h
  | succ ml8 =>
  rw [r4_Check_l8] at h
  obtain ⟨cs, hvr, hget⟩ := hO.read
  have hU := hO.under
  refine tdS hN hNR hNL hcalm hO ?_
  have hs := And.intro hvr hs
  apply awp_seq; intro K9 hK9
  refine rg [3, 4, 14] hs ?_
  refine cnd h hs (fun hs h => ?_) (fun hs h => ?_)
  rotate_left
  ·
   have hb11 := hs.1
   refine sx [] hs hK6 ?_
   exact ⟨_, _, _, ([]), Rl8, ef hs, ef hs, hO, h⟩
  have hb11 := hs.1
  refine sk [3, 4] hs hK9 ?_
  clear hK9
  refine awp_mid (fun e st => ∃ (x3_k13 : List Itm) (id_k13 ver_k13 : Nat) (Xk13 : List (List AV)) (Rk13 : List RowA), e = [(3, true, .vec id_k13 ver_k13 0 x3_k13.length), (4, true, .val (.int .i64 x4_l8))] ∧ st = ⟨B ++ ([a0.cs] ++ Xk13), Rk13, L⟩ ∧ VStk Rw Rk13 7 (x3_k13.map avItm) id_k13 ver_k13 ∧ r4_Check_k13 n (r4_Check_l8 n ml8) x4_l8 x3_k13 = some r) ?_ ?_
  ·
   intro K14 hK14
   apply awp_block
   obtain ⟨hg16, h⟩ := guard_some h
   obtain ⟨x17, hx17, h⟩ := bind_some h
   obtain ⟨hx17a, hx17b, hx17c⟩ := idx_some hx17
   obtain ⟨hx17d, hx17e⟩ := hget _ (avItm x17) (by rw [List.getElem?_map, hx17c]; rfl)
   replace hx17d : _ = x17.v.cs ++ [.val (.int .i64 x17.level)] := hx17d
   have hs := And.intro hx17d hs
   refine rg [3, 4, 5] hs ?_
   obtain ⟨hg19, h⟩ := guard_some h
   obtain ⟨hg20, h⟩ := guard_some h
   obtain ⟨x3t, hx3t⟩ : ∃ l, l = x3_l8.take (((x3_l8.length : Int)) - 1).toNat := ⟨_, rfl⟩
   have hx3n : (((x3_l8.length : Int)) - 1).toNat = x3t.length := by rw [hx3t, List.length_take]; omega
   rw [← hx3t] at h
   have hO := (hO.take (((x3_l8.length : Int)) - 1).toNat).of_eq (by rw [← List.map_take, ← hx3t])
   have hs := And.intro hx3n hs
   refine rg [3, 4, 5] hs ?_
   apply awp_seq; intro K21 hK21
   apply awp_block
   refine rg [3, 4, 5, 28] hs ?_
   refine cnd h hs (fun hs h => ?_) (fun hs h => ?_)
   ·
    have hb23 := hs.1
    refine rg [2] hs ?_
    exact rt h hs hcalm hO
   have hb23 := hs.1
   refine rg [3, 4, 5, 31] hs ?_
   refine cnd h hs (fun hs h => ?_) (fun hs h => ?_)
   ·
    have hb26 := hs.1
    refine rg [2] hs ?_
    exact rt h hs hcalm hO
   have hb26 := hs.1
   refine sk [3, 4, 5] hs hK21 ?_
   clear hK21
   apply awp_seq; intro K28 hK28
   obtain ⟨y30, hy30, h⟩ := bind_some h
   refine rc 2 [3, 4, 5, 6] hs ?_; intro K29 hK29
   refine callK_p _ (r4_Own_at w0 hT n _ _ _ x17.v _ hy30) (hv hs) ?_
   refine ne hs hK29 ?_
   clear hK29
   refine rg [3, 4, 5, 6, 39] hs ?_
   refine cnd h hs (fun hs h => ?_) (fun hs h => ?_)
   ·
    have hb32 := hs.1
    refine rg [2] hs ?_
    exact rt h hs hcalm hO
   have hb32 := hs.1
   refine sk [3, 4, 5] hs hK28 ?_
   clear hK28
   obtain ⟨y35, hy35, h⟩ := bind_some h
   refine rc 2 [3, 4, 5, 7] hs ?_; intro K34 hK34
   refine callK_p _ (r4_Parts_at w0 n _ _ _ x17.v _ hy35) (hv hs) ?_
   refine ne hs hK34 ?_
   clear hK34
   obtain ⟨hg37, h⟩ := guard_some h
   refine rg [3, 4, 5, 7, 8] hs ?_
   apply awp_block
   refine awp_loop (fun m e st => ∃ (x3_l38 : List Itm) (x8_l38 : Int) (id_l38 ver_l38 : Nat) (Xl38 : List (List AV)) (Rl38 : List RowA), e = [(3, true, .vec id_l38 ver_l38 0 x3_l38.length), (4, true, .val (.int .i64 x4_l8)), (5, true, .box (B.length + 1) 0), (7, true, .list (y35.map avV) .none), (8, true, .val (.int .i64 x8_l38))] ∧ st = ⟨B ++ ([a0.cs, (x17.v.cs) ++ ([.val (.int .i64 x17.level)])] ++ Xl38), Rl38, L⟩ ∧ VStk Rw Rl38 7 (x3_l38.map avItm) id_l38 ver_l38 ∧ r4_Check_l38 n (r4_Check_l8 n ml8) x4_l8 x17 y35 m x3_l38 x8_l38 = some r) n ⟨x3t, (((y35.length : Int)) - 1), id_l8, ver_l8, ([]), Rl8, ef hs, ef hs, hO, h⟩ ?_
   rintro ml38 e st ⟨x3_l38, x8_l38, id_l38, ver_l38, Xl38, Rl38, rfl, rfl, hO, h⟩ Ul38 Vl38
   cases ml38 with
   | zero => cases h
   | succ ml38 =>
   rw [r4_Check_l38] at h
   obtain ⟨cs, hvr, hget⟩ := hO.read
   have hU := hO.under
   refine tdS hN hNR hNL hcalm hO ?_
   have hs := And.intro hvr hs
   apply awp_seq; intro K39 hK39
   refine rg [3, 4, 5, 7, 8, 48] hs ?_
   refine cnd h hs (fun hs h => ?_) (fun hs h => ?_)
   rotate_left
   ·
    have hb41 := hs.1
    refine sx [3, 4] hs hK14 ?_
    exact ⟨x3_l38, id_l38, ver_l38, ([(x17.v.cs) ++ ([.val (.int .i64 x17.level)])]), Rl38, ef hs, ef hs, hO, h⟩
   have hb41 := hs.1
   refine sk [3, 4, 5, 7, 8] hs hK39 ?_
   clear hK39
   apply awp_seq; intro K42 hK42
   apply awp_block
   obtain ⟨x43, hx43a, hx43b, hx43d, h⟩ := ix avV h
   obtain ⟨hg44, h⟩ := guard_some h
   obtain ⟨hg45, h⟩ := guard_some h
   obtain ⟨rows47, hO, hap48⟩ := hO.append (P := Tryz.prog) (y := avItm (Itm.mk x43 (x17.level + 1))) elT_128 (by rw [zeroT_127]; rfl) (by decide) (by rw [List.length_map]; exact hg45.1) (by rw [List.length_map]; exact hg45.2) (avItm_one _) (avItm_pubOne _) (avItm_underOne _)
   rw [List.length_map] at hap48
   try simp only [List.mem_singleton, List.mem_cons, List.not_mem_nil, or_false, forall_eq_or_imp, forall_eq, List.map_append, List.map_cons, List.map_nil, avI_eq, avB_eq, avS_eq, avV_eq, avT_eq, avF_eq, avTF_eq, avPt_eq, avL_eq, avSch_eq, avItm_eq, avLm_eq] at hap48
   apply awp_draw mix 10 1 1 [3, 4, 5, 7, 8] (by kernel_rfl)
   rw [evK_succ]; simp +decide only [go_sem, Nat.reduceAdd, hb11, hx17d, hb23, hb26, hb32, hb41, hx43d, hap48, fillA, fillOk, placeT]
   (repeat' with_reducible apply And.intro) <;> first | (rw [evK_succ]; simp +decide only [go_sem, Nat.reduceAdd, hb11, hx17d, hb23, hb26, hb32, hb41, hx43d, hap48, fillA, fillOk, placeT]) | exact cl
   (repeat' apply And.intro) <;> first | refine hK42 _ _ ?_ | exact cl
   clear hK42
   obtain ⟨hg49, h⟩ := guard_some h
   have hs := And.intro hx43d hs
   have hs := And.intro hap48 hs
   refine rl [3, 4, 5, 7, 8] hs (fun e s => Vl38 ml38 e s (Nat.lt_succ_self _)) ?_
   exact ⟨(x3_l38 ++ ([Itm.mk x43 (x17.level + 1)])), (x8_l38 - 1), id_l38, ver_l38 + 1, ([]), rows47, ef hs, ef hs, hO.of_eq (by rw [List.map_append]; rfl), h⟩
  ·
   clear h; rintro e st ⟨x3_k13, id_k13, ver_k13, Xk13, Rk13, rfl, rfl, hO, h⟩
   rw [r4_Check_k13] at h
   obtain ⟨cs, hvr, hget⟩ := hO.read
   have hU := hO.under
   refine tdS hN hNR hNL hcalm hO ?_
   have hs := And.intro hvr hs
   obtain ⟨hg50, h⟩ := guard_some h
   refine rl [3, 4] hs (fun e s => Vl8 ml8 e s (Nat.lt_succ_self _)) ?_
   exact ⟨x3_k13, (x4_l8 + 1), id_k13, ver_k13, ([]), Rk13, ef hs, ef hs, hO, h⟩
 ·
  clear h; rintro e st ⟨xs_k5, id_k5, ver_k5, Xk5, Rk5, rfl, rfl, hO, h⟩
  rw [r4_Check_k5] at h
  have hU := hO.under
  refine tdS hN hNR hNL hcalm hO ?_
  refine rg [2] hs ?_
  exact rt h hs hcalm hO
def v_IsNull_F (a0 : Vl) : Bool :=
 (((((decide (a0.kind = 0)) && (decide (a0.int = 0))) && (decide (a0.scale = 0))) && (sEq a0.text ((⟨#[]⟩ : ByteArray)))) && (decide (((a0.list.length : Int)) = 0))) && (decide (((a0.fields.length : Int)) = 0))
theorem v_IsNull_at (w0 : World) (B : List (List AV)) (Rw : List RowA) (L : List LoopA) (a0 : Vl) (r : Bool) (h : v_IsNull_F a0 = r) :
  ACalls Tryz.prog w0 90 [.agg (a0.cs)] ⟨B, Rw, L⟩ fun x st => x = .val (.bool r) ∧ st = ⟨B, Rw, L⟩ := by
 rw [v_IsNull_F] at h
 refine hd [.tmp 2] Tryz.func90 Tryz.ntmps90 fun M0 W0 hN hNR hNL hcalm hu hO hs => ?_
 simp only [argsE]
 refine rg [1] hs ?_
 refine rg [2] hs ?_
 apply awp_ret; simp +decide only [go_sem, Nat.reduceAdd]
 subst h
 first | refine fin_q0 hcalm rfl hO.pre ev ⟨?_, rfl⟩ | refine fin_q hcalm rfl hO.pre ev ⟨?_, rfl⟩
 first | rfl | (simp +decide only [go_sem, Nat.reduceAdd]; done) | (simp +decide only [go_sem, Nat.reduceAdd, Vl.cs, Ty.cs]; done)
theorem v_IsNull_at' (w0 : World) (B : List (List AV)) (Rw : List RowA) (L : List LoopA) (a0 : Vl) :
  ACalls Tryz.prog w0 90 [.agg (a0.cs)] ⟨B, Rw, L⟩ fun x st => x = .val (.bool (v_IsNull_F a0)) ∧ st = ⟨B, Rw, L⟩ := v_IsNull_at w0 B Rw L a0 _ rfl
def v_between_F (a0 : Int) (a1 : Int) (a2 : Int) : Int :=
 if (decide (a0 < a1)) || (decide (a2 < a0)) then
  2
 else
  0
theorem v_between_at (w0 : World) (B : List (List AV)) (Rw : List RowA) (L : List LoopA) (a0 : Int) (a1 : Int) (a2 : Int) (r : Int) (h : v_between_F a0 a1 a2 = r) :
  ACalls Tryz.prog w0 123 [.val (.int .i64 a0), .val (.int .i64 a1), .val (.int .i64 a2)] ⟨B, Rw, L⟩ fun x st => x = .val (.int .i64 r) ∧ st = ⟨B, Rw, L⟩ := by
 rw [v_between_F] at h
 refine hd [.tmp 6] Tryz.func123 Tryz.ntmps123 fun M0 W0 hN hNR hNL hcalm hu hO hs => ?_
 simp only [argsE]
 refine rg [0, 1, 2] hs ?_
 apply awp_seq; intro K2 hK2
 refine rg [14] hs ?_
 refine cnd h hs (fun hs h => ?_) (fun hs h => ?_)
 ·
  have hb4 := hs.1
  refine rg [6] hs ?_
  apply awp_ret; simp +decide only [go_sem, Nat.reduceAdd, hb4]
  subst h
  first | refine fin_q0 hcalm rfl hO.pre ev ⟨?_, rfl⟩ | refine fin_q hcalm rfl hO.pre ev ⟨?_, rfl⟩
  first | rfl | (simp +decide only [go_sem, Nat.reduceAdd, hb4]; done) | (simp +decide only [go_sem, Nat.reduceAdd, Vl.cs, Ty.cs, hb4]; done)
 have hb4 := hs.1
 refine sk [] hs hK2 ?_
 clear hK2
 refine rg [6] hs ?_
 apply awp_ret; simp +decide only [go_sem, Nat.reduceAdd, hb4]
 subst h
 first | refine fin_q0 hcalm rfl hO.pre ev ⟨?_, rfl⟩ | refine fin_q hcalm rfl hO.pre ev ⟨?_, rfl⟩
 first | rfl | (simp +decide only [go_sem, Nat.reduceAdd, hb4]; done) | (simp +decide only [go_sem, Nat.reduceAdd, Vl.cs, Ty.cs, hb4]; done)
theorem v_between_at' (w0 : World) (B : List (List AV)) (Rw : List RowA) (L : List LoopA) (a0 : Int) (a1 : Int) (a2 : Int) :
  ACalls Tryz.prog w0 123 [.val (.int .i64 a0), .val (.int .i64 a1), .val (.int .i64 a2)] ⟨B, Rw, L⟩ fun x st => x = .val (.int .i64 (v_between_F a0 a1 a2)) ∧ st = ⟨B, Rw, L⟩ := v_between_at w0 B Rw L a0 a1 a2 _ rfl
def v_rules_1_F (a0 : Vl) : Int :=
 v_between_F a0.int 0 1
theorem v_rules_1_at (w0 : World) (B : List (List AV)) (Rw : List RowA) (L : List LoopA) (a0 : Vl) (r : Int) (h : v_rules_1_F a0 = r) :
  ACalls Tryz.prog w0 122 [.agg (a0.cs)] ⟨B, Rw, L⟩ fun x st => x = .val (.int .i64 r) ∧ st = ⟨B, Rw, L⟩ := by
 rw [v_rules_1_F] at h
 refine hd [.tmp 2] Tryz.func122 Tryz.ntmps122 fun M0 W0 hN hNR hNL hcalm hu hO hs => ?_
 simp only [argsE]
 refine rg [1] hs ?_
 refine rc 2 [2] hs ?_; intro K2 hK2
 refine callK_p _ (v_between_at' w0 _ _ _ a0.int 0 1) (hv hs) ?_
 refine ne hs hK2 ?_
 clear hK2
 apply awp_ret; simp +decide only [go_sem, Nat.reduceAdd]
 subst h
 first | refine fin_q0 hcalm rfl hO.pre ev ⟨?_, rfl⟩ | refine fin_q hcalm rfl hO.pre ev ⟨?_, rfl⟩
 first | rfl | (simp +decide only [go_sem, Nat.reduceAdd]; done) | (simp +decide only [go_sem, Nat.reduceAdd, Vl.cs, Ty.cs]; done)
theorem v_rules_1_at' (w0 : World) (B : List (List AV)) (Rw : List RowA) (L : List LoopA) (a0 : Vl) :
  ACalls Tryz.prog w0 122 [.agg (a0.cs)] ⟨B, Rw, L⟩ fun x st => x = .val (.int .i64 (v_rules_1_F a0)) ∧ st = ⟨B, Rw, L⟩ := v_rules_1_at w0 B Rw L a0 _ rfl
def v_size_F (a0 : Int) (a1 : Int) (a2 : Int) : Int :=
 if decide (a1 < a0) then
  a2
 else
  0
theorem v_size_at (w0 : World) (B : List (List AV)) (Rw : List RowA) (L : List LoopA) (a0 : Int) (a1 : Int) (a2 : Int) (r : Int) (h : v_size_F a0 a1 a2 = r) :
  ACalls Tryz.prog w0 128 [.val (.int .i64 a0), .val (.int .i64 a1), .val (.int .i64 a2)] ⟨B, Rw, L⟩ fun x st => x = .val (.int .i64 r) ∧ st = ⟨B, Rw, L⟩ := by
 rw [v_size_F] at h
 refine hd [.tmp 6] Tryz.func128 Tryz.ntmps128 fun M0 W0 hN hNR hNL hcalm hu hO hs => ?_
 simp only [argsE]
 refine rg [0, 1, 2] hs ?_
 apply awp_seq; intro K2 hK2
 refine rg [2, 9] hs ?_
 refine cnd h hs (fun hs h => ?_) (fun hs h => ?_)
 ·
  have hb4 := hs.1
  refine rg [6] hs ?_
  apply awp_ret; simp +decide only [go_sem, Nat.reduceAdd, hb4]
  subst h
  first | refine fin_q0 hcalm rfl hO.pre ev ⟨?_, rfl⟩ | refine fin_q hcalm rfl hO.pre ev ⟨?_, rfl⟩
  first | rfl | (simp +decide only [go_sem, Nat.reduceAdd, hb4]; done) | (simp +decide only [go_sem, Nat.reduceAdd, Vl.cs, Ty.cs, hb4]; done)
 have hb4 := hs.1
 refine sk [] hs hK2 ?_
 clear hK2
 refine rg [6] hs ?_
 apply awp_ret; simp +decide only [go_sem, Nat.reduceAdd, hb4]
 subst h
 first | refine fin_q0 hcalm rfl hO.pre ev ⟨?_, rfl⟩ | refine fin_q hcalm rfl hO.pre ev ⟨?_, rfl⟩
 first | rfl | (simp +decide only [go_sem, Nat.reduceAdd, hb4]; done) | (simp +decide only [go_sem, Nat.reduceAdd, Vl.cs, Ty.cs, hb4]; done)
theorem v_size_at' (w0 : World) (B : List (List AV)) (Rw : List RowA) (L : List LoopA) (a0 : Int) (a1 : Int) (a2 : Int) :
  ACalls Tryz.prog w0 128 [.val (.int .i64 a0), .val (.int .i64 a1), .val (.int .i64 a2)] ⟨B, Rw, L⟩ fun x st => x = .val (.int .i64 (v_size_F a0 a1 a2)) ∧ st = ⟨B, Rw, L⟩ := v_size_at w0 B Rw L a0 a1 a2 _ rfl
def v_rules_10_F (a0 : Vl) : Option Int :=
 if a0.text.size ≤ maxLen then
  if !(nameB a0.text) then
   some (12)
  else
   if decide (((a0.list.length : Int)) = 0) then
    some (4)
   else
    some (v_size_F ((a0.list.length : Int)) 1 3)
 else none
theorem v_rules_10_at (w0 : World) (B : List (List AV)) (Rw : List RowA) (L : List LoopA) (a0 : Vl) (r : Int) (h : v_rules_10_F a0 = some r) :
  ACalls Tryz.prog w0 135 [.agg (a0.cs)] ⟨B, Rw, L⟩ fun x st => x = .val (.int .i64 r) ∧ st = ⟨B, Rw, L⟩ := by
 rw [v_rules_10_F] at h
 refine hd [.tmp 2] Tryz.func135 Tryz.ntmps135 fun M0 W0 hN hNR hNL hcalm hu hO hs => ?_
 simp only [argsE]
 refine rg [1] hs ?_
 apply awp_seq; intro K2 hK2
 apply awp_block
 obtain ⟨hg4, h⟩ := guard_some h
 refine rc 2 [1, 3] hs ?_; intro K3 hK3
 refine callK_p _ (IsName_at w0 _ _ _ a0.text hg4) (hv hs) ?_
 refine ne hs hK3 ?_
 clear hK3
 refine cnd h hs (fun hs h => ?_) (fun hs h => ?_)
 ·
  refine rg [2] hs ?_
  exact rt h hs hcalm hO
 refine rg [1, 8] hs ?_
 refine cnd h hs (fun hs h => ?_) (fun hs h => ?_)
 ·
  refine rg [2] hs ?_
  exact rt h hs hcalm hO
 refine sk [1] hs hK2 ?_
 clear hK2
 refine rc 2 [2] hs ?_; intro K10 hK10
 refine callK_p _ (v_size_at' w0 _ _ _ ((a0.list.length : Int)) 1 3) (hv hs) ?_
 refine ne hs hK10 ?_
 clear hK10
 exact rt h hs hcalm hO
def v_rules_2_F (a0 : Vl) : Int :=
 v_between_F a0.int ((-999999999999999)) 999999999999999
theorem v_rules_2_at (w0 : World) (B : List (List AV)) (Rw : List RowA) (L : List LoopA) (a0 : Vl) (r : Int) (h : v_rules_2_F a0 = r) :
  ACalls Tryz.prog w0 124 [.agg (a0.cs)] ⟨B, Rw, L⟩ fun x st => x = .val (.int .i64 r) ∧ st = ⟨B, Rw, L⟩ := by
 rw [v_rules_2_F] at h
 refine hd [.tmp 2] Tryz.func124 Tryz.ntmps124 fun M0 W0 hN hNR hNL hcalm hu hO hs => ?_
 simp only [argsE]
 refine rg [1] hs ?_
 refine rc 2 [2] hs ?_; intro K2 hK2
 refine callK_p _ (v_between_at' w0 _ _ _ a0.int ((-999999999999999)) 999999999999999) (hv hs) ?_
 refine ne hs hK2 ?_
 clear hK2
 apply awp_ret; simp +decide only [go_sem, Nat.reduceAdd]
 subst h
 first | refine fin_q0 hcalm rfl hO.pre ev ⟨?_, rfl⟩ | refine fin_q hcalm rfl hO.pre ev ⟨?_, rfl⟩
 first | rfl | (simp +decide only [go_sem, Nat.reduceAdd]; done) | (simp +decide only [go_sem, Nat.reduceAdd, Vl.cs, Ty.cs]; done)
theorem v_rules_2_at' (w0 : World) (B : List (List AV)) (Rw : List RowA) (L : List LoopA) (a0 : Vl) :
  ACalls Tryz.prog w0 124 [.agg (a0.cs)] ⟨B, Rw, L⟩ fun x st => x = .val (.int .i64 (v_rules_2_F a0)) ∧ st = ⟨B, Rw, L⟩ := v_rules_2_at w0 B Rw L a0 _ rfl
def v_first_k3 (n : Nat)  : Option Int :=
 some (0)
def v_first_l6 (n : Nat) (a0 : List Int) : Nat → Int → Option Int
 | 0, _ => none
 | m + 1, x7_l6 =>
  if decide (x7_l6 < ((a0.length : Int))) then
   (idx a0 x7_l6).bind fun x12 =>
   if !(decide (x12 = 0)) then
    some (x12)
   else
    if I64 (x7_l6 + 1) then
     (v_first_l6 n a0 m) (x7_l6 + 1)
    else none
  else
   v_first_k3 n 
def v_first_F (n : Nat) (a0 : List Int) : Option Int :=
 v_first_l6 n a0 n 0
theorem v_first_at (w0 : World) (n : Nat) (B : List (List AV)) (Rw : List RowA) (L : List LoopA) (a0 : List Int) (r : Int) (h : v_first_F n a0 = some r) :
  ACalls Tryz.prog w0 126 [.list (a0.map avI) .none] ⟨B, Rw, L⟩ fun x st => x = .val (.int .i64 r) ∧ st = ⟨B, Rw, L⟩ := by
 rw [v_first_F] at h
 refine hd [.tmp 2] Tryz.func126 Tryz.ntmps126 fun M0 W0 hN hNR hNL hcalm hu hO hs => ?_
 simp only [argsE]
 refine rg [0] hs ?_
 refine awp_mid (fun e st => Ck e st B Rw L [] [] [] (v_first_k3 n  = some r)) ?_ ?_
 ·
  intro K4 hK4
  refine rg [5, 6, 7] hs ?_
  apply awp_block
  refine awp_loop (fun m e st => ∃ (x7_l6 : Int), Ck e st B Rw L [(5, true, .list (a0.map avI) .none), (6, true, .val (.int .i64 ((a0.length : Int)))), (7, true, .val (.int .i64 x7_l6))] [] [] (v_first_l6 n a0 m x7_l6 = some r)) n ⟨0, ([]), Rw, ef hs, ef hs, hO, h⟩ ?_
  rintro ml6 e st ⟨x7_l6, Xl6, Rl6, rfl, rfl, hO, h⟩ Ul6 Vl6
  cases ml6 with
  | zero => cases h
  | succ ml6 =>
  rw [v_first_l6] at h
  refine td hN hNR hNL hcalm hO ?_
  refine rg [5, 6, 7, 8] hs ?_
  apply awp_seq; intro K8 hK8
  refine cnd h hs (fun hs h => ?_) (fun hs h => ?_)
  rotate_left
  ·
   refine sx [] hs hK4 ?_
   exact ⟨([]), Rl6, ef hs, ef hs, hO, h⟩
  refine sk [5, 6, 7] hs hK8 ?_
  clear hK8
  apply awp_seq; intro K10 hK10
  apply awp_block
  obtain ⟨x12, hx12, h⟩ := bind_some h
  obtain ⟨hx12a, hx12b, hx12c⟩ := idx_some hx12
  have hx12d := getD_map (f := avI) hx12c
  have hs := And.intro hx12d hs
  refine rg [4, 5, 6, 7] hs ?_
  refine rg [4, 5, 6, 7, 12] hs ?_
  refine cnd h hs (fun hs h => ?_) (fun hs h => ?_)
  ·
   refine rg [2] hs ?_
   exact rt h hs hcalm hO
  refine sk [5, 6, 7] hs hK10 ?_
  clear hK10
  obtain ⟨hg16, h⟩ := guard_some h
  refine rl [5, 6, 7] hs (fun e s => Vl6 ml6 e s (Nat.lt_succ_self _)) ?_
  exact ⟨(x7_l6 + 1), ([]), Rl6, ef hs, ef hs, hO, h⟩
 ·
  clear h; rintro e st ⟨Xk3, Rk3, rfl, rfl, hO, h⟩
  rw [v_first_k3] at h
  refine td hN hNR hNL hcalm hO ?_
  refine rg [2] hs ?_
  exact rt h hs hcalm hO
def v_rules_3_F (n : Nat) (a0 : Vl) : Option Int :=
 (v_first_F n ([v_between_F a0.int ((-999999999999999)) 999999999999999, v_between_F a0.scale 0 12])).bind fun y3 =>
 some (y3)
theorem v_rules_3_at (w0 : World) (n : Nat) (B : List (List AV)) (Rw : List RowA) (L : List LoopA) (a0 : Vl) (r : Int) (h : v_rules_3_F n a0 = some r) :
  ACalls Tryz.prog w0 125 [.agg (a0.cs)] ⟨B, Rw, L⟩ fun x st => x = .val (.int .i64 r) ∧ st = ⟨B, Rw, L⟩ := by
 rw [v_rules_3_F] at h
 refine hd [.tmp 2] Tryz.func125 Tryz.ntmps125 fun M0 W0 hN hNR hNL hcalm hu hO hs => ?_
 simp only [argsE]
 refine rg [1] hs ?_
 apply awp_seq; intro K2 hK2
 obtain ⟨y3, hy3, h⟩ := bind_some h
 apply awp_draw mix 9 4 1 [2] (by kernel_rfl)
 rw [evK_succ]; simp +decide only [go_sem, Nat.reduceAdd]
 (repeat' apply And.intro) <;> first | refine callK_p _ (v_between_at' w0 _ _ _ a0.int ((-999999999999999)) 999999999999999) (hv hs) ?_ | exact cl
 rw [evK_succ]; simp +decide only [go_sem, Nat.reduceAdd]
 (repeat' apply And.intro) <;> first | refine callK_p _ (v_between_at' w0 _ _ _ a0.scale 0 12) (hv hs) ?_ | exact cl
 rw [evK_succ]; simp +decide only [go_sem, Nat.reduceAdd]
 (repeat' apply And.intro) <;> first | refine callK_p _ (v_first_at w0 n _ _ _ ([v_between_F a0.int ((-999999999999999)) 999999999999999, v_between_F a0.scale 0 12]) _ hy3) (hv hs) ?_ | exact cl
 rw [evK_succ]; simp +decide only [go_sem, Nat.reduceAdd]
 (repeat' with_reducible apply And.intro) <;> first | (rw [evK_succ]; simp +decide only [go_sem, Nat.reduceAdd]) | exact cl
 (repeat' apply And.intro) <;> first | refine hK2 _ _ ?_ | exact cl
 clear hK2
 exact rt h hs hcalm hO
def v_rules_4_k4  (x3_k4 : Int) : Option Int :=
 some (x3_k4)
def v_rules_4_F (a0 : Vl) : Option Int :=
 if decide ((v_size_F ((a0.text.size : Int)) 1024 5) = 0) then
  if a0.text.size ≤ maxLen then
   if !(Lib.validD a0.text.data.toList) then
    v_rules_4_k4  16
   else
    v_rules_4_k4  (v_size_F ((a0.text.size : Int)) 1024 5)
  else none
 else
  v_rules_4_k4  (v_size_F ((a0.text.size : Int)) 1024 5)
theorem v_rules_4_at (w0 : World) (hT : Lib.Utf8Tabs 0 1 w0) (B : List (List AV)) (Rw : List RowA) (L : List LoopA) (a0 : Vl) (r : Int) (h : v_rules_4_F a0 = some r) :
  ACalls Tryz.prog w0 127 [.agg (a0.cs)] ⟨B, Rw, L⟩ fun x st => x = .val (.int .i64 r) ∧ st = ⟨B, Rw, L⟩ := by
 rw [v_rules_4_F] at h
 refine hd [.tmp 2] Tryz.func127 Tryz.ntmps127 fun M0 W0 hN hNR hNL hcalm hu hO hs => ?_
 simp only [argsE]
 refine rg [1] hs ?_
 refine rc 2 [1, 3] hs ?_; intro K2 hK2
 refine callK_p _ (v_size_at' w0 _ _ _ ((a0.text.size : Int)) 1024 5) (hv hs) ?_
 refine ne hs hK2 ?_
 clear hK2
 refine awp_mid (fun e st => ∃ (x3_k4 : Int), Ck e st B Rw L [(3, true, .val (.int .i64 x3_k4))] [a0.cs] [] (v_rules_4_k4  x3_k4 = some r)) ?_ ?_
 ·
  intro K5 hK5
  apply awp_seq; intro K6 hK6
  rcases Bool.eq_false_or_eq_true (decide ((v_size_F ((a0.text.size : Int)) 1024 5) = 0)) with hf7 | hf7
  ·
   replace h := ite_tt h hf7
   obtain ⟨hg8, h⟩ := guard_some h
   have hs := And.intro hf7 hs
   refine rk 2 [3, 15] hs ?_
   refine callK_p _ (sValid_at2 w0 _ _ _ hT a0.text hg8) (hv hs) ?_
   refine ne hs hK6 ?_
   clear hK6
   refine cnd h hs (fun hs h => ?_) (fun hs h => ?_)
   ·
    refine rl [3] hs hK5 ?_
    exact ⟨16, ([]), Rw, ef hs, ef hs, hO, h⟩
   refine sk [3] hs hK5 ?_
   exact ⟨(v_size_F ((a0.text.size : Int)) 1024 5), ([]), Rw, ef hs, ef hs, hO, h⟩
  ·
   replace h := ite_ff h hf7
   apply awp_region 2 [3, 15]
   rw [evK_succ]; simp +decide only [go_sem, Nat.reduceAdd, hf7]
   (repeat' apply And.intro) <;> first | refine callK_skip ?_ | exact cl
   rw [evK_succ]; simp +decide only [go_sem, Nat.reduceAdd, hf7]
   (repeat' apply And.intro) <;> first | refine hK6 _ _ ?_ | exact cl
   clear hK6
   have hs := And.intro hf7 hs
   refine awp_cond false ev (ef hs) (fun hb10 => by cases hb10) (fun hb10 => ?_)
   refine sk [3] hs hK5 ?_
   exact ⟨(v_size_F ((a0.text.size : Int)) 1024 5), ([]), Rw, ef hs, ef hs, hO, h⟩
 ·
  clear h; rintro e st ⟨x3_k4, Xk4, Rk4, rfl, rfl, hO, h⟩
  rw [v_rules_4_k4] at h
  refine td hN hNR hNL hcalm hO ?_
  refine rg [2] hs ?_
  exact rt h hs hcalm hO
def v_rules_5_F (a0 : Vl) : Int :=
 v_size_F ((a0.text.size : Int)) 1024 5
theorem v_rules_5_at (w0 : World) (B : List (List AV)) (Rw : List RowA) (L : List LoopA) (a0 : Vl) (r : Int) (h : v_rules_5_F a0 = r) :
  ACalls Tryz.prog w0 130 [.agg (a0.cs)] ⟨B, Rw, L⟩ fun x st => x = .val (.int .i64 r) ∧ st = ⟨B, Rw, L⟩ := by
 rw [v_rules_5_F] at h
 refine hd [.tmp 2] Tryz.func130 Tryz.ntmps130 fun M0 W0 hN hNR hNL hcalm hu hO hs => ?_
 simp only [argsE]
 refine rg [1] hs ?_
 refine rc 2 [2] hs ?_; intro K2 hK2
 refine callK_p _ (v_size_at' w0 _ _ _ ((a0.text.size : Int)) 1024 5) (hv hs) ?_
 refine ne hs hK2 ?_
 clear hK2
 apply awp_ret; simp +decide only [go_sem, Nat.reduceAdd]
 subst h
 first | refine fin_q0 hcalm rfl hO.pre ev ⟨?_, rfl⟩ | refine fin_q hcalm rfl hO.pre ev ⟨?_, rfl⟩
 first | rfl | (simp +decide only [go_sem, Nat.reduceAdd]; done) | (simp +decide only [go_sem, Nat.reduceAdd, Vl.cs, Ty.cs]; done)
theorem v_rules_5_at' (w0 : World) (B : List (List AV)) (Rw : List RowA) (L : List LoopA) (a0 : Vl) :
  ACalls Tryz.prog w0 130 [.agg (a0.cs)] ⟨B, Rw, L⟩ fun x st => x = .val (.int .i64 (v_rules_5_F a0)) ∧ st = ⟨B, Rw, L⟩ := v_rules_5_at w0 B Rw L a0 _ rfl
def v_rules_6_F (a0 : Vl) : Int :=
 v_between_F a0.int ((-719162)) 2932896
theorem v_rules_6_at (w0 : World) (B : List (List AV)) (Rw : List RowA) (L : List LoopA) (a0 : Vl) (r : Int) (h : v_rules_6_F a0 = r) :
  ACalls Tryz.prog w0 131 [.agg (a0.cs)] ⟨B, Rw, L⟩ fun x st => x = .val (.int .i64 r) ∧ st = ⟨B, Rw, L⟩ := by
 rw [v_rules_6_F] at h
 refine hd [.tmp 2] Tryz.func131 Tryz.ntmps131 fun M0 W0 hN hNR hNL hcalm hu hO hs => ?_
 simp only [argsE]
 refine rg [1] hs ?_
 refine rc 2 [2] hs ?_; intro K2 hK2
 refine callK_p _ (v_between_at' w0 _ _ _ a0.int ((-719162)) 2932896) (hv hs) ?_
 refine ne hs hK2 ?_
 clear hK2
 apply awp_ret; simp +decide only [go_sem, Nat.reduceAdd]
 subst h
 first | refine fin_q0 hcalm rfl hO.pre ev ⟨?_, rfl⟩ | refine fin_q hcalm rfl hO.pre ev ⟨?_, rfl⟩
 first | rfl | (simp +decide only [go_sem, Nat.reduceAdd]; done) | (simp +decide only [go_sem, Nat.reduceAdd, Vl.cs, Ty.cs]; done)
theorem v_rules_6_at' (w0 : World) (B : List (List AV)) (Rw : List RowA) (L : List LoopA) (a0 : Vl) :
  ACalls Tryz.prog w0 131 [.agg (a0.cs)] ⟨B, Rw, L⟩ fun x st => x = .val (.int .i64 (v_rules_6_F a0)) ∧ st = ⟨B, Rw, L⟩ := v_rules_6_at w0 B Rw L a0 _ rfl
def v_rules_7_F (a0 : Vl) : Int :=
 v_between_F a0.int ((-62135596800000)) 253402300799999
theorem v_rules_7_at (w0 : World) (B : List (List AV)) (Rw : List RowA) (L : List LoopA) (a0 : Vl) (r : Int) (h : v_rules_7_F a0 = r) :
  ACalls Tryz.prog w0 132 [.agg (a0.cs)] ⟨B, Rw, L⟩ fun x st => x = .val (.int .i64 r) ∧ st = ⟨B, Rw, L⟩ := by
 rw [v_rules_7_F] at h
 refine hd [.tmp 2] Tryz.func132 Tryz.ntmps132 fun M0 W0 hN hNR hNL hcalm hu hO hs => ?_
 simp only [argsE]
 refine rg [1] hs ?_
 refine rc 2 [2] hs ?_; intro K2 hK2
 refine callK_p _ (v_between_at' w0 _ _ _ a0.int ((-62135596800000)) 253402300799999) (hv hs) ?_
 refine ne hs hK2 ?_
 clear hK2
 apply awp_ret; simp +decide only [go_sem, Nat.reduceAdd]
 subst h
 first | refine fin_q0 hcalm rfl hO.pre ev ⟨?_, rfl⟩ | refine fin_q hcalm rfl hO.pre ev ⟨?_, rfl⟩
 first | rfl | (simp +decide only [go_sem, Nat.reduceAdd]; done) | (simp +decide only [go_sem, Nat.reduceAdd, Vl.cs, Ty.cs]; done)
theorem v_rules_7_at' (w0 : World) (B : List (List AV)) (Rw : List RowA) (L : List LoopA) (a0 : Vl) :
  ACalls Tryz.prog w0 132 [.agg (a0.cs)] ⟨B, Rw, L⟩ fun x st => x = .val (.int .i64 (v_rules_7_F a0)) ∧ st = ⟨B, Rw, L⟩ := v_rules_7_at w0 B Rw L a0 _ rfl
def v_rules_8_F (a0 : Vl) : Int :=
 v_size_F ((a0.list.length : Int)) 256 9
theorem v_rules_8_at (w0 : World) (B : List (List AV)) (Rw : List RowA) (L : List LoopA) (a0 : Vl) (r : Int) (h : v_rules_8_F a0 = r) :
  ACalls Tryz.prog w0 133 [.agg (a0.cs)] ⟨B, Rw, L⟩ fun x st => x = .val (.int .i64 r) ∧ st = ⟨B, Rw, L⟩ := by
 rw [v_rules_8_F] at h
 refine hd [.tmp 2] Tryz.func133 Tryz.ntmps133 fun M0 W0 hN hNR hNL hcalm hu hO hs => ?_
 simp only [argsE]
 refine rg [1] hs ?_
 refine rc 2 [2] hs ?_; intro K2 hK2
 refine callK_p _ (v_size_at' w0 _ _ _ ((a0.list.length : Int)) 256 9) (hv hs) ?_
 refine ne hs hK2 ?_
 clear hK2
 apply awp_ret; simp +decide only [go_sem, Nat.reduceAdd]
 subst h
 first | refine fin_q0 hcalm rfl hO.pre ev ⟨?_, rfl⟩ | refine fin_q hcalm rfl hO.pre ev ⟨?_, rfl⟩
 first | rfl | (simp +decide only [go_sem, Nat.reduceAdd]; done) | (simp +decide only [go_sem, Nat.reduceAdd, Vl.cs, Ty.cs]; done)
theorem v_rules_8_at' (w0 : World) (B : List (List AV)) (Rw : List RowA) (L : List LoopA) (a0 : Vl) :
  ACalls Tryz.prog w0 133 [.agg (a0.cs)] ⟨B, Rw, L⟩ fun x st => x = .val (.int .i64 (v_rules_8_F a0)) ∧ st = ⟨B, Rw, L⟩ := v_rules_8_at w0 B Rw L a0 _ rfl
def v_rules_9_k8 (n : Nat)  : Option Int :=
 some (0)
def v_rules_9_l11 (n : Nat) (a0 : Vl) : Nat → Int → Option Int
 | 0, _ => none
 | m + 1, x16_l11 =>
  if decide (x16_l11 < ((a0.fields.length : Int))) then
   (idx a0.fields x16_l11).bind fun x17 =>
   if x17.1.size ≤ maxLen then
    if !(nameB x17.1) then
     some (12)
    else
     if decide (0 < x16_l11) then
      if I64 (x16_l11 - 1) then
       (idx a0.fields (x16_l11 - 1)).bind fun x25 =>
       if sEq x17.1 x25.1 then
        some (7)
       else
        if I64 (x16_l11 - 1) then
         if sLt x17.1 x25.1 then
          some (24)
         else
          if I64 (x16_l11 + 1) then
           (v_rules_9_l11 n a0 m) (x16_l11 + 1)
          else none
        else none
      else none
     else
      if I64 (x16_l11 + 1) then
       (v_rules_9_l11 n a0 m) (x16_l11 + 1)
      else none
   else none
  else
   v_rules_9_k8 n 
def v_rules_9_F (n : Nat) (a0 : Vl) : Option Int :=
 if !(decide ((v_size_F ((a0.fields.length : Int)) 64 9) = 0)) then
  some (v_size_F ((a0.fields.length : Int)) 64 9)
 else
  v_rules_9_l11 n a0 n 0
theorem v_rules_9_at (w0 : World) (n : Nat) (B : List (List AV)) (Rw : List RowA) (L : List LoopA) (a0 : Vl) (r : Int) (h : v_rules_9_F n a0 = some r) :
  ACalls Tryz.prog w0 134 [.agg (a0.cs)] ⟨B, Rw, L⟩ fun x st => x = .val (.int .i64 r) ∧ st = ⟨B, Rw, L⟩ := by
 rw [v_rules_9_F] at h
 refine hd [.tmp 2] Tryz.func134 Tryz.ntmps134 fun M0 W0 hN hNR hNL hcalm hu hO hs => ?_
 simp only [argsE]
 refine rg [1] hs ?_
 apply awp_seq; intro K2 hK2
 refine rc 2 [1, 3] hs ?_; intro K3 hK3
 refine callK_p _ (v_size_at' w0 _ _ _ ((a0.fields.length : Int)) 64 9) (hv hs) ?_
 refine ne hs hK3 ?_
 clear hK3
 refine rg [1, 3, 11] hs ?_
 refine cnd h hs (fun hs h => ?_) (fun hs h => ?_)
 ·
  have hb5 := hs.1
  refine rg [2] hs ?_
  exact rt h hs hcalm hO
 have hb5 := hs.1
 refine sk [1] hs hK2 ?_
 clear hK2
 refine awp_mid (fun e st => Ck e st B Rw L [] [a0.cs] [] (v_rules_9_k8 n  = some r)) ?_ ?_
 ·
  intro K9 hK9
  refine rg [1, 14, 15, 16] hs ?_
  apply awp_block
  refine awp_loop (fun m e st => ∃ (x16_l11 : Int), Ck e st B Rw L [(1, true, .box B.length 0), (14, true, .list (a0.fields.map avF) .none), (15, true, .val (.int .i64 ((a0.fields.length : Int)))), (16, true, .val (.int .i64 x16_l11))] [a0.cs] [] (v_rules_9_l11 n a0 m x16_l11 = some r)) n ⟨0, ([]), Rw, ef hs, ef hs, hO, h⟩ ?_
  rintro ml11 e st ⟨x16_l11, Xl11, Rl11, rfl, rfl, hO, h⟩ Ul11 Vl11
  cases ml11 with
  | zero => cases h
  | succ ml11 =>
  rw [v_rules_9_l11] at h
  refine td hN hNR hNL hcalm hO ?_
  refine rg [1, 14, 15, 16, 17] hs ?_
  apply awp_seq; intro K13 hK13
  refine cnd h hs (fun hs h => ?_) (fun hs h => ?_)
  rotate_left
  ·
   have hb14 := hs.1
   refine sx [] hs hK9 ?_
   exact ⟨([]), Rl11, ef hs, ef hs, hO, h⟩
  have hb14 := hs.1
  refine sk [1, 14, 15, 16] hs hK13 ?_
  clear hK13
  apply awp_seq; intro K15 hK15
  apply awp_block
  obtain ⟨x17, hx17, h⟩ := bind_some h
  obtain ⟨hx17a, hx17b, hx17c⟩ := idx_some hx17
  have hx17d := getD_map (f := avF) hx17c
  have hs := And.intro hx17d hs
  refine rg [1, 4, 5, 14, 15, 16] hs ?_
  apply awp_block
  obtain ⟨hg19, h⟩ := guard_some h
  refine rc 2 [1, 4, 5, 14, 15, 16, 21] hs ?_; intro K18 hK18
  refine callK_p _ (IsName_at w0 _ _ _ x17.1 hg19) (hv hs) ?_
  refine ne hs hK18 ?_
  clear hK18
  refine cnd h hs (fun hs h => ?_) (fun hs h => ?_)
  ·
   have hb20 := hs.1
   refine rg [2] hs ?_
   exact rt h hs hcalm hO
  have hb20 := hs.1
  apply awp_seq; intro K22 hK22
  rcases Bool.eq_false_or_eq_true (decide (0 < x16_l11)) with hf23 | hf23
  ·
   replace h := ite_tt h hf23
   obtain ⟨hg24, h⟩ := guard_some h
   obtain ⟨x25, hx25a, hx25b, hx25d, h⟩ := ix avF h
   apply awp_draw mix 15 1 1 [1, 4, 5, 14, 15, 16, 26] (by kernel_rfl)
   rw [evK_succ]; simp +decide only [go_sem, Nat.reduceAdd, hb5, hb14, hx17d, hb20, hf23, hx25d]
   (repeat' with_reducible apply And.intro) <;> first | (rw [evK_succ]; simp +decide only [go_sem, Nat.reduceAdd, hb5, hb14, hx17d, hb20, hf23, hx25d]) | exact cl
   (repeat' apply And.intro) <;> first | refine hK22 _ _ ?_ | exact cl
   clear hK22
   have hs := And.intro hf23 hs
   have hs := And.intro hx25d hs
   refine cnd h hs (fun hs h => ?_) (fun hs h => ?_)
   ·
    refine rg [2] hs ?_
    exact rt h hs hcalm hO
   obtain ⟨hg29, h⟩ := guard_some h
   refine dg 15 1 1 [1, 14, 15, 16, 41] hs mix ?_
   refine cnd h hs (fun hs h => ?_) (fun hs h => ?_)
   ·
    refine rg [2] hs ?_
    exact rt h hs hcalm hO
   refine sk [1, 14, 15, 16] hs hK15 ?_
   clear hK15
   obtain ⟨hg32, h⟩ := guard_some h
   refine rl [1, 14, 15, 16] hs (fun e s => Vl11 ml11 e s (Nat.lt_succ_self _)) ?_
   exact ⟨(x16_l11 + 1), ([.val (.string x17.1) :: (x17.2.cs)]), Rl11, ef hs, ef hs, hO, h⟩
  ·
   replace h := ite_ff h hf23
   apply awp_draw mix 15 1 1 [1, 4, 5, 14, 15, 16, 26] (by kernel_rfl)
   rw [evK_succ]; simp +decide only [go_sem, Nat.reduceAdd, hb5, hb14, hx17d, hb20, hf23]
   (repeat' with_reducible apply And.intro) <;> first | (rw [evK_succ]; simp +decide only [go_sem, Nat.reduceAdd, hb5, hb14, hx17d, hb20, hf23]) | exact cl
   (repeat' apply And.intro) <;> first | refine hK22 _ _ ?_ | exact cl
   clear hK22
   have hs := And.intro hf23 hs
   refine awp_cond false ev (ef hs) (fun hb33 => by cases hb33) (fun hb33 => ?_)
   refine dg 15 1 1 [1, 14, 15, 16, 41] hs mix ?_
   refine awp_cond false ev (ef hs) (fun hb35 => by cases hb35) (fun hb35 => ?_)
   refine sk [1, 14, 15, 16] hs hK15 ?_
   clear hK15
   obtain ⟨hg36, h⟩ := guard_some h
   refine rl [1, 14, 15, 16] hs (fun e s => Vl11 ml11 e s (Nat.lt_succ_self _)) ?_
   exact ⟨(x16_l11 + 1), ([.val (.string x17.1) :: (x17.2.cs)]), Rl11, ef hs, ef hs, hO, h⟩
 ·
  clear h; rintro e st ⟨Xk8, Rk8, rfl, rfl, hO, h⟩
  rw [v_rules_9_k8] at h
  refine td hN hNR hNL hcalm hO ?_
  refine rg [2] hs ?_
  exact rt h hs hcalm hO
def v_uses_F (a0 : Vl) : Bool :=
 (((((((((decide (a0.kind = 1)) || (decide (a0.kind = 2))) || (decide (a0.kind = 6))) || (decide (a0.kind = 7))) || (decide (a0.kind = 3))) || (decide (a0.int = 0))) && ((decide (a0.kind = 3)) || (decide (a0.scale = 0)))) && ((((decide (a0.kind = 4)) || (decide (a0.kind = 5))) || (decide (a0.kind = 10))) || (sEq a0.text ((⟨#[]⟩ : ByteArray))))) && (((decide (a0.kind = 8)) || (decide (a0.kind = 10))) || (decide (((a0.list.length : Int)) = 0)))) && ((decide (a0.kind = 9)) || (decide (((a0.fields.length : Int)) = 0)))
theorem v_uses_at (w0 : World) (B : List (List AV)) (Rw : List RowA) (L : List LoopA) (a0 : Vl) (r : Bool) (h : v_uses_F a0 = r) :
  ACalls Tryz.prog w0 91 [.agg (a0.cs)] ⟨B, Rw, L⟩ fun x st => x = .val (.bool r) ∧ st = ⟨B, Rw, L⟩ := by
 rw [v_uses_F] at h
 refine hd [.tmp 2] Tryz.func91 Tryz.ntmps91 fun M0 W0 hN hNR hNL hcalm hu hO hs => ?_
 simp only [argsE]
 refine rg [1] hs ?_
 refine rg [1, 3] hs ?_
 refine rg [1, 3, 4] hs ?_
 refine rg [1, 3, 4, 5] hs ?_
 refine rg [2] hs ?_
 apply awp_ret; simp +decide only [go_sem, Nat.reduceAdd]
 subst h
 first | refine fin_q0 hcalm rfl hO.pre ev ⟨?_, rfl⟩ | refine fin_q hcalm rfl hO.pre ev ⟨?_, rfl⟩
 first | rfl | (simp +decide only [go_sem, Nat.reduceAdd]; done) | (simp +decide only [go_sem, Nat.reduceAdd, Vl.cs, Ty.cs]; done)
theorem v_uses_at' (w0 : World) (B : List (List AV)) (Rw : List RowA) (L : List LoopA) (a0 : Vl) :
  ACalls Tryz.prog w0 91 [.agg (a0.cs)] ⟨B, Rw, L⟩ fun x st => x = .val (.bool (v_uses_F a0)) ∧ st = ⟨B, Rw, L⟩ := v_uses_at w0 B Rw L a0 _ rfl
end Go.Proofs.YtggimoedcamonaaGreatDoor
