/-
  Part 4 of the proof: rules and walks that the claim's last text uses.
-/
import Derived.Carry
import Derived.ChangeOld
import Derived.ChangeSlices
import Derived.Deep.DeepHandedRow
import Derived.Deep.DeepWitnessRowRef
import Derived.Lib.LaidIn
import Derived.Lib.LaidU8T
import Derived.PinnedBridge
import Derived.ProofKit
import Derived.SevenTiedAt
import Derived.SizedLaws
import Derived.Test.YtggimoedcamonaaGreatDoorCards
import Derived.Test.YtggimoedcamonaaGreatDoorTie
import Derived.Test.YtggimoedcamonaaGreatDoorSu3
set_option linter.unusedSimpArgs false
set_option linter.unusedVariables false
set_option maxRecDepth 100000
set_option maxHeartbeats 4000000
namespace Go.Proofs.YtggimoedcamonaaGreatDoor
open Go Go.RowKit Go.Ev
def Zdk (rec : Ty → Option Ty) (n : Nat) (a0 : Int × ByteArray × Int × Ty × List Vl) (y3 : Ty) (x3_k8 : List Vl) : Option ((Int × ByteArray × Int × Ty × List Vl)) :=
 some ((a0.1, a0.2.1, a0.2.2.1, y3, x3_k8))
def Zbk (rec : Ty → Option Ty) (n : Nat) (a0 : Int × ByteArray × Int × Ty × List Vl) (y3 : Ty) : Nat → (List Vl) → Int → Option ((Int × ByteArray × Int × Ty × List Vl))
 | 0, _, _ => none
 | m + 1, x3_l11, x17_l11 =>
  if decide (x17_l11 < ((a0.2.2.2.2.length : Int))) then
   (idx a0.2.2.2.2 x17_l11).bind fun x17 =>
   (ZbI n x17).bind fun y18 =>
   if (x3_l11.length + 1) * 88 ≤ 140737488355328 ∧ x3_l11.length + 1 ≤ 4611686018427387904 then
    if I64 (x17_l11 + 1) then
     (Zbk rec n a0 y3 m) (x3_l11 ++ ([y18])) (x17_l11 + 1)
    else none
   else none
  else
   Zdk rec n a0 y3 x3_l11
def Zbp (rec : Ty → Option Ty) (n : Nat) (a0 : Int × ByteArray × Int × Ty × List Vl) : Option ((Int × ByteArray × Int × Ty × List Vl)) :=
 (rec a0.2.2.2.1).bind fun y3 =>
 if 0 ≤ (a0.2.2.2.2.length : Int) ∧ ((a0.2.2.2.2.length : Int)) * 88 ≤ 140737488355328 ∧ (a0.2.2.2.2.length : Int) ≤ 4611686018427387904 then
  Zbk rec n a0 y3 n ([]) 0
 else none
theorem ZgG (w0 : World) (rec : Ty → Option Ty) (ih : ∀ (B : List (List AV)) (Rw : List RowA) (L : List LoopA) (a0 : Ty) (r : Ty) (h : rec a0 = some r), ACalls Tryz.prog w0 45 [.agg (a0.cs)] ⟨B, Rw, L⟩ fun x st => x = .agg (r.cs) ∧ st = ⟨B, Rw, L⟩) (n : Nat) (B : List (List AV)) (Rw : List RowA) (L : List LoopA) (a0 : Int × ByteArray × Int × Ty × List Vl) (r : (Int × ByteArray × Int × Ty × List Vl)) (h : Zbp rec n a0 = some r) :
  ACalls Tryz.prog w0 80 [.agg (.val (.int .i64 a0.1) :: (.val (.string a0.2.1) :: (.val (.int .i64 a0.2.2.1) :: ((a0.2.2.2.1.cs) ++ ([.list (a0.2.2.2.2.map avV) .none])))))] ⟨B, Rw, L⟩ fun x st => x = .agg (.val (.int .i64 r.1) :: (.val (.string r.2.1) :: (.val (.int .i64 r.2.2.1) :: ((r.2.2.2.1.cs) ++ ([.list (r.2.2.2.2.map avV) .none]))))) ∧ st = ⟨B, Rw, L⟩ := by
 rw [Zbp] at h
 refine hd [.cell 2 53] Tryz.func80 Tryz.ntmps80 fun M0 W0 hN hNR hNL hcalm hu hO hs => ?_
 simp only [Zas]
 refine rg [1, 2] hs ?_
 apply Zab; intro K2 hK2
 obtain ⟨y3, hy3, h⟩ := bind_some h
 apply Zad 2 [1, 2]
 rw [Zaa]; simp +decide only [go_sem, Nat.reduceAdd, Ty.cs_eqs a0.2.2.2.1, Ty.cs_eqs y3]
 (repeat' apply And.intro) <;> first | refine Zaf _ (ih _ _ _ a0.2.2.2.1 _ hy3) (by first | rfl | (simp +decide only [go_sem, Nat.reduceAdd, Ty.cs_eqs a0.2.2.2.1, Ty.cs_eqs y3]; done) | (simp +decide only [go_sem, Nat.reduceAdd, Vl.cs, Ty.cs, Ty.cs_eqs a0.2.2.2.1, Ty.cs_eqs y3]; done)) ?_ | exact cl
 rw [Zaa]; simp +decide only [go_sem, Nat.reduceAdd, Ty.cs_eqs a0.2.2.2.1, Ty.cs_eqs y3]
 (repeat' apply And.intro) <;> first | refine hK2 _ _ ?_ | exact cl
 clear hK2
 apply Zab; intro K4 hK4
 obtain ⟨hg5, h⟩ := Zac h
 have hO := hO.make 6 0
 apply Zad 1 [1, 2, 3]
 rw [Zaa]; simp +decide only [go_sem, Nat.reduceAdd, Ty.cs_eqs a0.2.2.2.1, Ty.cs_eqs y3]
 (repeat' apply And.intro) <;> first | refine hK4 _ _ ?_ | exact cl
 clear hK4
 refine Zah (fun e st => ∃ (x3_k8 : List Vl) (ox3_k8 : Ev.Own), Ck e st B Rw L [(1, true, .box B.length 0), (2, true, .box (B.length + 1) 0), (3, true, .list (x3_k8.map avV) ox3_k8)] [[.val (.int .i64 a0.1), .val (.string a0.2.1), .val (.int .i64 a0.2.2.1), .val (.int .i64 y3.kind), .val (.int .i64 y3.min), .val (.int .i64 y3.max), .val (.int .i64 y3.scale), .list (y3.words.map avS) .none, .list (y3.elem.map avT) .none, .list (y3.fields.map Zek) .none, .list (a0.2.2.2.2.map avV) .none], [.val (.int .i64 0), .val (.string ((⟨#[]⟩ : ByteArray))), .val (.int .i64 0), .val (.int .i64 0), .val (.int .i64 0), .val (.int .i64 0), .val (.int .i64 0), .list ([]) .full, .list ([]) .full, .list ([]) .full, .list ([]) .full]] [(6, x3_k8.length, ox3_k8)] (Zdk rec n a0 y3 x3_k8 = some r)) ?_ ?_
 ·
  intro K9 hK9
  apply Zab; intro K10 hK10
  apply Zad 1 [1, 2, 3, 15, 16, 17]
  rw [Zaa]; simp +decide only [go_sem, Nat.reduceAdd, Ty.cs_eqs a0.2.2.2.1, Ty.cs_eqs y3]
  (repeat' apply And.intro) <;> first | refine hK10 _ _ ?_ | exact cl
  clear hK10
  apply Zae
  refine Zai (fun m e st => ∃ (x3_l11 : List Vl) (x17_l11 : Int) (ox3_l11 : Ev.Own), Ck e st B Rw L [(1, true, .box B.length 0), (2, true, .box (B.length + 1) 0), (3, true, .list (x3_l11.map avV) ox3_l11), (15, true, .list (a0.2.2.2.2.map avV) .none), (16, true, .val (.int .i64 ((a0.2.2.2.2.length : Int)))), (17, true, .val (.int .i64 x17_l11))] [[.val (.int .i64 a0.1), .val (.string a0.2.1), .val (.int .i64 a0.2.2.1), .val (.int .i64 y3.kind), .val (.int .i64 y3.min), .val (.int .i64 y3.max), .val (.int .i64 y3.scale), .list (y3.words.map avS) .none, .list (y3.elem.map avT) .none, .list (y3.fields.map Zek) .none, .list (a0.2.2.2.2.map avV) .none], [.val (.int .i64 0), .val (.string ((⟨#[]⟩ : ByteArray))), .val (.int .i64 0), .val (.int .i64 0), .val (.int .i64 0), .val (.int .i64 0), .val (.int .i64 0), .list ([]) .full, .list ([]) .full, .list ([]) .full, .list ([]) .full]] [(6, x3_l11.length, ox3_l11)] (Zbk rec n a0 y3 m x3_l11 x17_l11 = some r)) n ⟨([]), 0, ((.row Rw.length)), ([]), ((Rw ++ [.grow 0 6])), by first | rfl | (simp +decide only [go_sem, Nat.reduceAdd, Ty.cs_eqs a0.2.2.2.1, Ty.cs_eqs y3]; done), by first | rfl | (simp +decide only [go_sem, Nat.reduceAdd, Ty.cs_eqs a0.2.2.2.1, Ty.cs_eqs y3]; done), Owns.of_eq (hO) (by first | rfl | simp only [List.length_append, List.length_cons, List.length_nil, List.length_map, Nat.zero_add, Nat.add_zero]), h⟩ ?_
  rintro ml11 e st ⟨x3_l11, x17_l11, ox3_l11, Xl11, Rl11, rfl, rfl, hO, h⟩ Ul11 Vl11
  cases ml11 with
  | zero => cases h
  | succ ml11 =>
  rw [Zbk] at h
  have hU := hO.unders
  simp only [List.mem_cons, List.not_mem_nil, or_false, forall_eq_or_imp, forall_eq] at hU
  refine td hN hNR hNL hcalm hO ?_
  apply Zab; intro K12 hK12
  apply Zad 1 [1, 2, 3, 15, 16, 17, 18]
  rw [Zaa]; simp +decide only [go_sem, Nat.reduceAdd, Ty.cs_eqs a0.2.2.2.1, Ty.cs_eqs y3]
  (repeat' apply And.intro) <;> first | refine hK12 _ _ ?_ | exact cl
  clear hK12
  apply Zab; intro K13 hK13
  refine Zap (decide (x17_l11 < ((a0.2.2.2.2.length : Int)))) ev (by first | (simp +decide only [go_sem, Nat.reduceAdd, Ty.cs_eqs a0.2.2.2.1, Ty.cs_eqs y3]; done) | (simp +decide only [go_sem, Nat.reduceAdd, Ty.cs_eqs a0.2.2.2.1, Ty.cs_eqs y3]; rfl)) (fun hb14 => ?_) (fun hb14 => ?_)
  rotate_left
  ·
   replace h := ZaM h hb14
   refine sx [1, 2, 3] hs hK9 ?_
   exact ⟨x3_l11, ox3_l11, ([]), Rl11, by first | rfl | (simp +decide only [go_sem, Nat.reduceAdd, Ty.cs_eqs a0.2.2.2.1, Ty.cs_eqs y3, hb14]; done), by first | rfl | (simp +decide only [go_sem, Nat.reduceAdd, Ty.cs_eqs a0.2.2.2.1, Ty.cs_eqs y3, hb14]; done), Owns.of_eq (hO) (by first | rfl | simp only [List.length_append, List.length_cons, List.length_nil, List.length_map, Nat.zero_add, Nat.add_zero]), h⟩
  replace h := ZaN h hb14
  refine sk [1, 2, 3, 15, 16, 17] hs hK13 ?_
  clear hK13
  apply Zab; intro K15 hK15
  apply Zae
  apply Zab; intro K16 hK16
  obtain ⟨x17, hx17a, hx17b, hx17d, h⟩ := ix avV h
  apply Zad 1 [1, 2, 3, 5, 15, 16, 17]
  rw [Zaa]; simp +decide only [go_sem, Nat.reduceAdd, Ty.cs_eqs a0.2.2.2.1, Ty.cs_eqs y3, hb14, hx17d]
  (repeat' apply And.intro) <;> first | refine hK16 _ _ ?_ | exact cl
  clear hK16
  obtain ⟨y18, hy18, h⟩ := bind_some h
  obtain ⟨hg19, h⟩ := Zac h
  obtain ⟨o20, rows21, hO, hap22⟩ := hO.append (P := Tryz.prog) Zks (by rw [ZgZ]; rfl) (by decide) 1 hg19.1 hg19.2
  replace hap22 := fun (ys : List AV) B L o2 => hap22 (x3_l11.map avV) ys B L o2 (by first | rfl | simp only [List.length_map, List.length_nil, List.length_append, List.length_cons, Nat.zero_add])
  replace hap22 := fun (y : AV) B L o2 => hap22 [y] B L o2 (by first | rfl | simp only [List.length_map, List.length_nil, List.length_cons]) ev
  try simp only [List.mem_singleton, List.mem_cons, List.not_mem_nil, or_false, forall_eq_or_imp, forall_eq, List.map_append, List.map_cons, List.map_nil, Zeo, ZeZ, ZeI, ZeW, Ze2, Zen, ZcY, Zc1, ZeL, ZbO, ZbP, Zc5] at hap22
  apply Zad 2 [1, 2, 3, 15, 16, 17]
  rw [Zaa]; simp +decide only [go_sem, Nat.reduceAdd, Ty.cs_eqs a0.2.2.2.1, Ty.cs_eqs y3, hb14, hx17d, hap22]
  (repeat' apply And.intro) <;> first | refine Zaf _ (Zdc w0 n _ _ _ x17 _ hy18) (by first | rfl | (simp +decide only [go_sem, Nat.reduceAdd, Ty.cs_eqs a0.2.2.2.1, Ty.cs_eqs y3, hb14, hx17d, hap22]; done) | (simp +decide only [go_sem, Nat.reduceAdd, Vl.cs, Ty.cs, Ty.cs_eqs a0.2.2.2.1, Ty.cs_eqs y3, hb14, hx17d, hap22]; done)) ?_ | exact cl
  rw [Zaa]; simp +decide only [go_sem, Nat.reduceAdd, Ty.cs_eqs a0.2.2.2.1, Ty.cs_eqs y3, hb14, hx17d, hap22]
  (repeat' apply And.intro) <;> first | refine hK15 _ _ ?_ | exact cl
  clear hK15
  obtain ⟨hg23, h⟩ := Zac h
  apply Zad 1 [1, 2, 3, 15, 16, 17]
  rw [Zaa]; simp +decide only [go_sem, Nat.reduceAdd, Ty.cs_eqs a0.2.2.2.1, Ty.cs_eqs y3, hb14, hx17d, hap22]
  (repeat' apply And.intro) <;> first | refine Vl11 ml11 _ _ (Nat.lt_succ_self ml11) ⟨(x3_l11 ++ ([y18])), (x17_l11 + 1), o20, ([x17.cs]), rows21, by first | rfl | (simp +decide only [go_sem, Nat.reduceAdd, Ty.cs_eqs a0.2.2.2.1, Ty.cs_eqs y3, hb14, hx17d, hap22]; done), by first | rfl | (simp +decide only [go_sem, Nat.reduceAdd, Ty.cs_eqs a0.2.2.2.1, Ty.cs_eqs y3, hb14, hx17d, hap22]; done), Owns.of_eq (hO) (by first | rfl | simp only [List.length_append, List.length_cons, List.length_nil, List.length_map, Nat.zero_add, Nat.add_zero]), h⟩ | exact cl
 ·
  clear h; rintro e st ⟨x3_k8, ox3_k8, Xk8, Rk8, rfl, rfl, hO, h⟩
  rw [Zdk] at h
  have hU := hO.unders
  simp only [List.mem_cons, List.not_mem_nil, or_false, forall_eq_or_imp, forall_eq] at hU
  refine td hN hNR hNL hcalm hO ?_
  apply Zab; intro K24 hK24
  apply Zad 1 [1, 2]
  rw [Zaa]; simp +decide only [go_sem, Nat.reduceAdd, Ty.cs_eqs a0.2.2.2.1, Ty.cs_eqs y3]
  (repeat' apply And.intro) <;> first | refine hK24 _ _ ?_ | exact cl
  clear hK24
  apply Zab; intro K25 hK25
  apply Zad 1 [2]
  rw [Zaa]; simp +decide only [go_sem, Nat.reduceAdd, Ty.cs_eqs a0.2.2.2.1, Ty.cs_eqs y3]
  (repeat' apply And.intro) <;> first | refine hK25 _ _ ?_ | exact cl
  clear hK25
  apply Zag; simp +decide only [go_sem, Nat.reduceAdd, Ty.cs_eqs a0.2.2.2.1, Ty.cs_eqs y3]
  have hgt := Option.some.inj h; subst hgt
  first | refine ZaD hcalm rfl hO.pre ev ⟨?_, rfl⟩ | refine Za4 hcalm rfl hO.pre ev ⟨?_, rfl⟩
  first | rfl | (simp +decide only [go_sem, Nat.reduceAdd, Ty.cs_eqs a0.2.2.2.1, Ty.cs_eqs y3]; done) | (simp +decide only [go_sem, Nat.reduceAdd, Vl.cs, Ty.cs, Ty.cs_eqs a0.2.2.2.1, Ty.cs_eqs y3]; done)
def Zf6 (rec : Ty → Option Ty) (n : Nat) (a0 : Ty) (x3_k26 : List Ty) (x6_k26 : List (Int × ByteArray × Int × Ty × List Vl)) : Option Ty :=
 if a0.words.length * 16 ≤ 140737488355328 then
  some (Ty.mk a0.kind a0.min a0.max a0.scale a0.words x3_k26 x6_k26)
 else none
def Zc2 (rec : Ty → Option Ty) (n : Nat) (a0 : Ty) : Nat → (List Ty) → (List (Int × ByteArray × Int × Ty × List Vl)) → Int → Option Ty
 | 0, _, _, _ => none
 | m + 1, x3_l29, x6_l29, x33_l29 =>
  if decide (x33_l29 < ((a0.fields.length : Int))) then
   (idx a0.fields x33_l29).bind fun x35 =>
   (Zbp rec n x35).bind fun y36 =>
   if (x6_l29.length + 1) * 160 ≤ 140737488355328 ∧ x6_l29.length + 1 ≤ 4611686018427387904 then
    if I64 (x33_l29 + 1) then
     (Zc2 rec n a0 m) x3_l29 (x6_l29 ++ ([y36])) (x33_l29 + 1)
    else none
   else none
  else
   Zf6 rec n a0 x3_l29 x6_l29
def Zg5 (rec : Ty → Option Ty) (n : Nat) (a0 : Ty) (x3_k6 : List Ty) : Option Ty :=
 if 0 ≤ (a0.fields.length : Int) ∧ ((a0.fields.length : Int)) * 160 ≤ 140737488355328 ∧ (a0.fields.length : Int) ≤ 4611686018427387904 then
  Zc2 rec n a0 n x3_k6 ([]) 0
 else none
def ZdE (rec : Ty → Option Ty) (n : Nat) (a0 : Ty) : Nat → (List Ty) → Int → Option Ty
 | 0, _, _ => none
 | m + 1, x3_l9, x16_l9 =>
  if decide (x16_l9 < ((a0.elem.length : Int))) then
   (idx a0.elem x16_l9).bind fun x15 =>
   (rec x15).bind fun y16 =>
   if (x3_l9.length + 1) * 104 ≤ 140737488355328 ∧ x3_l9.length + 1 ≤ 4611686018427387904 then
    if I64 (x16_l9 + 1) then
     (ZdE rec n a0 m) (x3_l9 ++ ([y16])) (x16_l9 + 1)
    else none
   else none
  else
   Zg5 rec n a0 x3_l9
def ZhJ (rec : Ty → Option Ty) (n : Nat) (a0 : Ty) : Option Ty :=
 if 0 ≤ (a0.elem.length : Int) ∧ ((a0.elem.length : Int)) * 104 ≤ 140737488355328 ∧ (a0.elem.length : Int) ≤ 4611686018427387904 then
  ZdE rec n a0 n ([]) 0
 else none
def ZcT : Nat → Ty → Option Ty
 | 0, _ => none
 | n + 1, a0 => ZhJ (ZcT n) n a0
def Zkb (w0 : World) (F : Ty → Option Ty) : Prop := ∀ (B : List (List AV)) (Rw : List RowA) (L : List LoopA) (a0 : Ty) (r : Ty), F a0 = some r → ACalls Tryz.prog w0 45 [.agg (a0.cs)] ⟨B, Rw, L⟩ fun x st => x = .agg (r.cs) ∧ st = ⟨B, Rw, L⟩
theorem ZmO (w0 : World) (rec : Ty → Option Ty) (ih : Zkb w0 rec) (n : Nat) : Zkb w0 (ZhJ rec n) := by
 intro B Rw L a0 r h
 rw [ZhJ] at h
 refine hd [.cell 2 26] Tryz.func45 Tryz.ntmps45 fun M0 W0 hN hNR hNL hcalm hu hO hs => ?_
 simp only [Zas]
 refine rg [1, 2] hs ?_
 obtain ⟨hg3, h⟩ := Zac h
 have hO := hO.make 7 0
 refine rg [1, 2, 3] hs ?_
 refine Zah (fun e st => ∃ (x3_k6 : List Ty) (ox3_k6 : Ev.Own), Ck e st B Rw L [(1, true, .box B.length 0), (2, true, .box (B.length + 1) 0), (3, true, .list (x3_k6.map avT) ox3_k6)] [a0.cs, [.val (.int .i64 0), .val (.int .i64 0), .val (.int .i64 0), .val (.int .i64 0), .list ([]) .full, .list ([]) .full, .list ([]) .full]] [(7, x3_k6.length, ox3_k6)] (Zg5 rec n a0 x3_k6 = some r)) ?_ ?_
 ·
  intro K7 hK7
  refine rg [1, 2, 3, 14, 15, 16] hs ?_
  apply Zae
  refine Zai (fun m e st => ∃ (x3_l9 : List Ty) (x16_l9 : Int) (ox3_l9 : Ev.Own), Ck e st B Rw L [(1, true, .box B.length 0), (2, true, .box (B.length + 1) 0), (3, true, .list (x3_l9.map avT) ox3_l9), (14, true, .list (a0.elem.map avT) .none), (15, true, .val (.int .i64 ((a0.elem.length : Int)))), (16, true, .val (.int .i64 x16_l9))] [a0.cs, [.val (.int .i64 0), .val (.int .i64 0), .val (.int .i64 0), .val (.int .i64 0), .list ([]) .full, .list ([]) .full, .list ([]) .full]] [(7, x3_l9.length, ox3_l9)] (ZdE rec n a0 m x3_l9 x16_l9 = some r)) n ⟨([]), 0, ((.row Rw.length)), ([]), ((Rw ++ [.grow 0 7])), ef hs, ef hs, Owns.of_eq (hO) (by first | rfl | simp only [List.length_append, List.length_cons, List.length_nil, List.length_map, Nat.zero_add, Nat.add_zero]), h⟩ ?_
  rintro ml9 e st ⟨x3_l9, x16_l9, ox3_l9, Xl9, Rl9, rfl, rfl, hO, h⟩ Ul9 Vl9
  cases ml9 with
  | zero => cases h
  | succ ml9 =>
  rw [ZdE] at h
  have hU := hO.unders
  simp only [List.mem_cons, List.not_mem_nil, or_false, forall_eq_or_imp, forall_eq] at hU
  refine td hN hNR hNL hcalm hO ?_
  refine rg [1, 2, 3, 14, 15, 16, 17] hs ?_
  apply Zab; intro K11 hK11
  refine cnd h hs (fun hs h => ?_) (fun hs h => ?_)
  rotate_left
  ·
   refine sx [1, 2, 3] hs hK7 ?_
   exact ⟨x3_l9, ox3_l9, ([]), Rl9, ef hs, ef hs, Owns.of_eq (hO) (by first | rfl | simp only [List.length_append, List.length_cons, List.length_nil, List.length_map, Nat.zero_add, Nat.add_zero]), h⟩
  refine sk [1, 2, 3, 14, 15, 16] hs hK11 ?_
  clear hK11
  apply Zab; intro K13 hK13
  apply Zae
  obtain ⟨x15, hx15, h⟩ := bind_some h
  obtain ⟨hx15a, hx15b, hx15c⟩ := Zar hx15
  have hx15d := Zau (f := avT) hx15c
  have hs := And.intro hx15d hs
  refine rg [1, 2, 3, 5, 14, 15, 16] hs ?_
  obtain ⟨y16, hy16, h⟩ := bind_some h
  obtain ⟨hg17, h⟩ := Zac h
  obtain ⟨o18, rows19, hO, hap20⟩ := hO.append (P := Tryz.prog) ZtW (by rw [ZnT]; rfl) (by decide) 1 hg17.1 hg17.2
  replace hap20 := fun (ys : List AV) B L o2 => hap20 (x3_l9.map avT) ys B L o2 (by first | rfl | simp only [List.length_map, List.length_nil, List.length_append, List.length_cons, Nat.zero_add])
  replace hap20 := fun (y : AV) B L o2 => hap20 [y] B L o2 (by first | rfl | simp only [List.length_map, List.length_nil, List.length_cons]) ev
  try simp only [List.mem_singleton, List.mem_cons, List.not_mem_nil, or_false, forall_eq_or_imp, forall_eq, List.map_append, List.map_cons, List.map_nil, Zeo, ZeZ, ZeI, ZeW, Ze2, Zen, ZcY, Zc1, ZeL, ZbO, ZbP, Zc5] at hap20
  have hs := And.intro hap20 hs
  refine rk 2 [1, 2, 3, 14, 15, 16] hs ?_
  refine Zaf _ (ih _ _ _ x15 _ hy16) (hv hs) ?_
  refine ne hs hK13 ?_
  clear hK13
  obtain ⟨hg21, h⟩ := Zac h
  refine rl [1, 2, 3, 14, 15, 16] hs (fun e s => Vl9 ml9 e s (Nat.lt_succ_self _)) ?_
  exact ⟨(x3_l9 ++ ([y16])), (x16_l9 + 1), o18, ([x15.cs]), rows19, ef hs, ef hs, Owns.of_eq (hO) (by first | rfl | simp only [List.length_append, List.length_cons, List.length_nil, List.length_map, Nat.zero_add, Nat.add_zero]), h⟩
 ·
  clear h; rintro e st ⟨x3_k6, ox3_k6, Xk6, Rk6, rfl, rfl, hO, h⟩
  rw [Zg5] at h
  have hU := hO.unders
  simp only [List.mem_cons, List.not_mem_nil, or_false, forall_eq_or_imp, forall_eq] at hU
  refine td hN hNR hNL hcalm hO ?_
  obtain ⟨hg23, h⟩ := Zac h
  have hO := hO.make 11 0
  refine rg [1, 2, 3, 6] hs ?_
  refine Zah (fun e st => ∃ (x3_k26 : List Ty) (x6_k26 : List (Int × ByteArray × Int × Ty × List Vl)) (ox3_k26 : Ev.Own) (ox6_k26 : Ev.Own), Ck e st B Rw L [(1, true, .box B.length 0), (2, true, .box (B.length + 1) 0), (3, true, .list (x3_k26.map avT) ox3_k26), (6, true, .list (x6_k26.map Zek) ox6_k26)] [a0.cs, [.val (.int .i64 0), .val (.int .i64 0), .val (.int .i64 0), .val (.int .i64 0), .list ([]) .full, .list ([]) .full, .list ([]) .full]] [(7, x3_k26.length, ox3_k26), (11, x6_k26.length, ox6_k26)] (Zf6 rec n a0 x3_k26 x6_k26 = some r)) ?_ ?_
  ·
   intro K27 hK27
   refine rg [1, 2, 3, 6, 31, 32, 33] hs ?_
   apply Zae
   refine Zai (fun m e st => ∃ (x3_l29 : List Ty) (x6_l29 : List (Int × ByteArray × Int × Ty × List Vl)) (x33_l29 : Int) (ox3_l29 : Ev.Own) (ox6_l29 : Ev.Own), Ck e st B Rw L [(1, true, .box B.length 0), (2, true, .box (B.length + 1) 0), (3, true, .list (x3_l29.map avT) ox3_l29), (6, true, .list (x6_l29.map Zek) ox6_l29), (31, true, .list (a0.fields.map Zek) .none), (32, true, .val (.int .i64 ((a0.fields.length : Int)))), (33, true, .val (.int .i64 x33_l29))] [a0.cs, [.val (.int .i64 0), .val (.int .i64 0), .val (.int .i64 0), .val (.int .i64 0), .list ([]) .full, .list ([]) .full, .list ([]) .full]] [(7, x3_l29.length, ox3_l29), (11, x6_l29.length, ox6_l29)] (Zc2 rec n a0 m x3_l29 x6_l29 x33_l29 = some r)) n ⟨x3_k6, ([]), 0, ox3_k6, ((.row Rk6.length)), ([]), ((Rk6 ++ [.grow 0 11])), ef hs, ef hs, Owns.of_eq ((hO).swap (List.Perm.swap _ _ _)) (by first | rfl | simp only [List.length_append, List.length_cons, List.length_nil, List.length_map, Nat.zero_add, Nat.add_zero]), h⟩ ?_
   rintro ml29 e st ⟨x3_l29, x6_l29, x33_l29, ox3_l29, ox6_l29, Xl29, Rl29, rfl, rfl, hO, h⟩ Ul29 Vl29
   cases ml29 with
   | zero => cases h
   | succ ml29 =>
   rw [Zc2] at h
   have hU := hO.unders
   simp only [List.mem_cons, List.not_mem_nil, or_false, forall_eq_or_imp, forall_eq] at hU
   obtain ⟨hU0, hU1⟩ := hU
   refine td hN hNR hNL hcalm hO ?_
   refine rg [1, 2, 3, 6, 31, 32, 33, 34] hs ?_
   apply Zab; intro K31 hK31
   refine cnd h hs (fun hs h => ?_) (fun hs h => ?_)
   rotate_left
   ·
    refine sx [1, 2, 3, 6] hs hK27 ?_
    exact ⟨x3_l29, x6_l29, ox3_l29, ox6_l29, ([]), Rl29, ef hs, ef hs, Owns.of_eq (((hO).swap (List.Perm.swap _ _ _)).swap (List.Perm.swap _ _ _)) (by first | rfl | simp only [List.length_append, List.length_cons, List.length_nil, List.length_map, Nat.zero_add, Nat.add_zero]), h⟩
   refine sk [1, 2, 3, 6, 31, 32, 33] hs hK31 ?_
   clear hK31
   apply Zab; intro K33 hK33
   apply Zae
   obtain ⟨x35, hx35, h⟩ := bind_some h
   obtain ⟨hx35a, hx35b, hx35c⟩ := Zar hx35
   have hx35d := Zau (f := Zek) hx35c
   have hs := And.intro hx35d hs
   refine rg [1, 2, 3, 6, 8, 31, 32, 33] hs ?_
   obtain ⟨y36, hy36, h⟩ := bind_some h
   obtain ⟨hg37, h⟩ := Zac h
   have hO := hO.swap (List.Perm.swap _ _ _)
   obtain ⟨o38, rows39, hO, hap40⟩ := hO.append (P := Tryz.prog) ZxC (by rw [ZrV]; rfl) (by decide) 1 hg37.1 hg37.2
   replace hap40 := fun (ys : List AV) B L o2 => hap40 (x6_l29.map Zek) ys B L o2 (by first | rfl | simp only [List.length_map, List.length_nil, List.length_append, List.length_cons, Nat.zero_add])
   replace hap40 := fun (y : AV) B L o2 => hap40 [y] B L o2 (by first | rfl | simp only [List.length_map, List.length_nil, List.length_cons]) ev
   try simp only [List.mem_singleton, List.mem_cons, List.not_mem_nil, or_false, forall_eq_or_imp, forall_eq, List.map_append, List.map_cons, List.map_nil, Zeo, ZeZ, ZeI, ZeW, Ze2, Zen, ZcY, Zc1, ZeL, ZbO, ZbP, Zc5] at hap40
   have hs := And.intro hap40 hs
   refine rk 2 [1, 2, 3, 6, 31, 32, 33] hs ?_
   refine Zaf _ (ZgG w0 rec ih n _ _ _ x35 _ hy36) (hv hs) ?_
   refine ne hs hK33 ?_
   clear hK33
   obtain ⟨hg41, h⟩ := Zac h
   refine rl [1, 2, 3, 6, 31, 32, 33] hs (fun e s => Vl29 ml29 e s (Nat.lt_succ_self _)) ?_
   exact ⟨x3_l29, (x6_l29 ++ ([y36])), (x33_l29 + 1), ox3_l29, o38, ([.val (.int .i64 x35.1) :: (.val (.string x35.2.1) :: (.val (.int .i64 x35.2.2.1) :: ((x35.2.2.2.1.cs) ++ ([.list (x35.2.2.2.2.map avV) .none]))))]), rows39, ef hs, ef hs, Owns.of_eq ((hO).swap (List.Perm.swap _ _ _)) (by first | rfl | simp only [List.length_append, List.length_cons, List.length_nil, List.length_map, Nat.zero_add, Nat.add_zero]), h⟩
  ·
   clear h; rintro e st ⟨x3_k26, x6_k26, ox3_k26, ox6_k26, Xk26, Rk26, rfl, rfl, hO, h⟩
   rw [Zf6] at h
   have hU := hO.unders
   simp only [List.mem_cons, List.not_mem_nil, or_false, forall_eq_or_imp, forall_eq] at hU
   obtain ⟨hU0, hU1⟩ := hU
   refine td hN hNR hNL hcalm hO ?_
   apply Zab; intro K42 hK42
   obtain ⟨hg43, h⟩ := Zac h
   apply Zad 2 [1, 2]
   rw [Zaa]; simp +decide only [go_sem, Nat.reduceAdd, Ty.cs_eqs a0]
   (repeat' apply And.intro) <;> first | refine Zaf _ (Zh3 w0 _ _ _ a0.words hg43) (by first | rfl | (simp +decide only [go_sem, Nat.reduceAdd, Ty.cs_eqs a0]; done) | (simp +decide only [go_sem, Nat.reduceAdd, Vl.cs, Ty.cs, Ty.cs_eqs a0]; done)) ?_ | exact cl
   rw [Zaa]; simp +decide only [go_sem, Nat.reduceAdd, Ty.cs_eqs a0]
   (repeat' apply And.intro) <;> first | refine hK42 _ _ ?_ | exact cl
   clear hK42
   apply Zab; intro K44 hK44
   apply Zad 1 [2]
   rw [Zaa]; simp +decide only [go_sem, Nat.reduceAdd, Ty.cs_eqs a0]
   (repeat' apply And.intro) <;> first | refine hK44 _ _ ?_ | exact cl
   clear hK44
   apply Zag; simp +decide only [go_sem, Nat.reduceAdd, Ty.cs_eqs a0]
   have hgt := Option.some.inj h; subst hgt
   first | refine ZaD hcalm rfl hO.pre ev ⟨?_, rfl⟩ | refine Za4 hcalm rfl hO.pre ev ⟨?_, rfl⟩
   first | rfl | (simp +decide only [go_sem, Nat.reduceAdd, Ty.cs_eqs a0]; done) | (simp +decide only [go_sem, Nat.reduceAdd, Vl.cs, Ty.cs, Ty.cs_eqs a0]; done)
theorem Zii (w0 : World) : ∀ n : Nat, Zkb w0 (ZcT n)
 | 0 => fun _ _ _ _ _ h => (nomatch h)
 | n + 1 => ZmO w0 (ZcT n) (Zii w0 n) n
def ZbK (n : Nat)  : Option Int :=
 some ((-1))
def Zat (n : Nat) (a0 : List (Int × ByteArray × Int × Ty × List Vl)) (a1 : (Int × ByteArray × Int × Ty × List Vl) → Option Bool) : Nat → Int → Option Int
 | 0, _ => none
 | m + 1, x8_l6 =>
  if decide (x8_l6 < ((a0.length : Int))) then
   (idx a0 x8_l6).bind fun x13 =>
   (a1 x13).bind fun y14 =>
   if y14 then
    some (x8_l6)
   else
    if I64 (x8_l6 + 1) then
     (Zat n a0 a1 m) (x8_l6 + 1)
    else none
  else
   ZbK n 
def ZaI (n : Nat) (a0 : List (Int × ByteArray × Int × Ty × List Vl)) (a1 : (Int × ByteArray × Int × Ty × List Vl) → Option Bool) : Option Int :=
 Zat n a0 a1 n 0
theorem ZcO (w0 : World) (n : Nat) (B : List (List AV)) (Rw : List RowA) (L : List LoopA) (a0 : List (Int × ByteArray × Int × Ty × List Vl)) (fa1 : FuncId) (ca1 : List AV) (a1 : (Int × ByteArray × Int × Ty × List Vl) → Option Bool) (ha1 : ∀ (x0 : Int × ByteArray × Int × Ty × List Vl) r, a1 x0 = some r → ∀ B' rows, B <+: B' → Rw <+: rows → ACalls Tryz.prog w0 fa1 ([.agg (.val (.int .i64 x0.1) :: (.val (.string x0.2.1) :: (.val (.int .i64 x0.2.2.1) :: ((x0.2.2.2.1.cs) ++ ([.list (x0.2.2.2.2.map avV) .none])))))] ++ ca1) ⟨B', rows, L⟩ fun v s => v = .val (.bool r) ∧ s = ⟨B', rows, L⟩) (r : Int) (h : ZaI n a0 a1 = some r) :
  ACalls Tryz.prog w0 118 [.list (a0.map Zek) .none, .clo fa1 ca1] ⟨B, Rw, L⟩ fun x st => x = .val (.int .i64 r) ∧ st = ⟨B, Rw, L⟩ := by
 rw [ZaI] at h
 refine hd [.tmp 4] Tryz.func118 Tryz.ntmps118 fun M0 W0 hN hNR hNL hcalm hu hO hs => ?_
 simp only [Zas]
 have hU_a1 := ZdD (hu (.clo fa1 ca1) (by simp))
 refine rg [0, 1] hs ?_
 refine Zah (fun e st => Ck e st B Rw L [] [] [] (ZbK n  = some r)) ?_ ?_
 ·
  intro K4 hK4
  refine rg [0, 1, 7, 8] hs ?_
  apply Zae
  refine Zai (fun m e st => ∃ (x8_l6 : Int), Ck e st B Rw L [(0, true, .list (a0.map Zek) .none), (1, true, .clo fa1 ca1), (7, true, .val (.int .i64 ((a0.length : Int)))), (8, true, .val (.int .i64 x8_l6))] [] [] (Zat n a0 a1 m x8_l6 = some r)) n ⟨0, ([]), Rw, ef hs, ef hs, hO, h⟩ ?_
  rintro ml6 e st ⟨x8_l6, Xl6, Rl6, rfl, rfl, hO, h⟩ Ul6 Vl6
  cases ml6 with
  | zero => cases h
  | succ ml6 =>
  rw [Zat] at h
  refine Za9 hN hNR hNL rfl hcalm hO (by (simp +decide only [go_sem, Nat.reduceAdd]) <;> (try (repeat' apply And.intro)) <;> first | omega | assumption | exact hU_a1 _ _ _ (by omega) (by have := hO.len; omega) (by omega)) (by (simp +decide only [go_sem, Nat.reduceAdd, Zcb]) <;> (try (repeat' apply And.intro)) <;> first | omega | assumption | exact hU_a1 _ _ _ (by omega) (by have := hO.len; omega) (by omega)) ?_
  refine rg [0, 1, 7, 8, 9] hs ?_
  apply Zab; intro K8 hK8
  refine cnd h hs (fun hs h => ?_) (fun hs h => ?_)
  rotate_left
  ·
   refine sx [] hs hK4 ?_
   exact ⟨([]), Rl6, ef hs, ef hs, hO, h⟩
  refine sk [0, 1, 7, 8] hs hK8 ?_
  clear hK8
  apply Zab; intro K10 hK10
  apply Zae
  refine rg [0, 1, 5, 7, 8] hs ?_
  obtain ⟨x13, hx13, h⟩ := bind_some h
  obtain ⟨hx13a, hx13b, hx13c⟩ := Zar hx13
  have hx13d := Zau (f := Zek) hx13c
  obtain ⟨y14, hy14, h⟩ := bind_some h
  have hs := And.intro hx13d hs
  refine rc 2 [0, 1, 5, 7, 8, 16] hs ?_; intro K12 hK12
  refine ZnK _ (ha1 x13 _ hy14 _ _ (by first | exact List.prefix_append _ _ | exact List.prefix_refl _) hO.pre) (hv hs) ?_
  refine ne hs hK12 ?_
  clear hK12
  refine cnd h hs (fun hs h => ?_) (fun hs h => ?_)
  ·
   refine rg [4] hs ?_
   exact rt h hs hcalm hO
  refine sk [0, 1, 7, 8] hs hK10 ?_
  clear hK10
  obtain ⟨hg17, h⟩ := Zac h
  refine rl [0, 1, 7, 8] hs (fun e s => Vl6 ml6 e s (Nat.lt_succ_self _)) ?_
  exact ⟨(x8_l6 + 1), ([]), Rl6, ef hs, ef hs, hO, h⟩
 ·
  clear h; rintro e st ⟨Xk3, Rk3, rfl, rfl, hO, h⟩
  rw [ZbK] at h
  refine Za9 hN hNR hNL rfl hcalm hO (by (simp +decide only [go_sem, Nat.reduceAdd]) <;> (try (repeat' apply And.intro)) <;> first | omega | assumption | exact hU_a1 _ _ _ (by omega) (by have := hO.len; omega) (by omega)) (by (simp +decide only [go_sem, Nat.reduceAdd, Zcb]) <;> (try (repeat' apply And.intro)) <;> first | omega | assumption | exact hU_a1 _ _ _ (by omega) (by have := hO.len; omega) (by omega)) ?_
  refine rg [4] hs ?_
  exact rt h hs hcalm hO
def ZdY (n : Nat) (a0 : Ty) (a1 : (Int × ByteArray × Int × Ty × List Vl) → Option Bool) : Option ((Int × ByteArray × Int × Ty × List Vl) × Bool) :=
 if (!(decide (a0.kind = 9))) && (!(decide (a0.kind = 10))) then
  some (((0, (⟨#[]⟩ : ByteArray), 0, Ty.mk 0 0 0 0 ([]) ([]) ([]), []), false))
 else
  (ZaI n a0.fields a1).bind fun y7 =>
  if decide (y7 < 0) then
   some (((0, (⟨#[]⟩ : ByteArray), 0, Ty.mk 0 0 0 0 ([]) ([]) ([]), []), false))
  else
   (idx a0.fields y7).bind fun x13 =>
   (Zbp (ZcT n) n x13).bind fun y14 =>
   some ((y14, true))
theorem ZpU (w0 : World) (n : Nat) (B : List (List AV)) (Rw : List RowA) (L : List LoopA) (a0 : Ty) (fa1 : FuncId) (ca1 : List AV) (a1 : (Int × ByteArray × Int × Ty × List Vl) → Option Bool) (ha1 : ∀ (x0 : Int × ByteArray × Int × Ty × List Vl) r, a1 x0 = some r → ∀ B' rows, B <+: B' → Rw <+: rows → ACalls Tryz.prog w0 fa1 ([.agg (.val (.int .i64 x0.1) :: (.val (.string x0.2.1) :: (.val (.int .i64 x0.2.2.1) :: ((x0.2.2.2.1.cs) ++ ([.list (x0.2.2.2.2.map avV) .none])))))] ++ ca1) ⟨B', rows, L⟩ fun v s => v = .val (.bool r) ∧ s = ⟨B', rows, L⟩) (r : (Int × ByteArray × Int × Ty × List Vl) × Bool) (h : ZdY n a0 a1 = some r) :
  ACalls Tryz.prog w0 68 [.agg (a0.cs), .clo fa1 ca1] ⟨B, Rw, L⟩ fun x st => x = .tup [.agg (.val (.int .i64 r.1.1) :: (.val (.string r.1.2.1) :: (.val (.int .i64 r.1.2.2.1) :: ((r.1.2.2.2.1.cs) ++ ([.list (r.1.2.2.2.2.map avV) .none]))))), .val (.bool r.2)] ∧ st = ⟨B, Rw, L⟩ := by
 rw [ZdY] at h
 refine hd [.cell 4 53, .tmp 5] Tryz.func68 Tryz.ntmps68 fun M0 W0 hN hNR hNL hcalm hu hO hs => ?_
 simp only [Zas]
 have hU_a1 := ZdD (hu (.clo fa1 ca1) (by simp))
 refine rg [1, 2, 4] hs ?_
 apply Zab; intro K2 hK2
 refine rg [1, 2, 4, 14] hs ?_
 refine cnd h hs (fun hs h => ?_) (fun hs h => ?_)
 ·
  have hb4 := hs.1
  apply Zab; intro K5 hK5
  apply Zad 1 [4, 5]
  rw [Zaa]; simp +decide only [go_sem, Nat.reduceAdd, hb4, ZaZ, ZaA, Zay]
  (repeat' apply And.intro) <;> first | refine hK5 _ _ ?_ | exact cl
  clear hK5
  exact rt h hs hcalm hO
 have hb4 := hs.1
 refine sk [1, 2, 4] hs hK2 ?_
 clear hK2
 obtain ⟨y7, hy7, h⟩ := bind_some h
 refine rc 2 [2, 4, 6] hs ?_; intro K6 hK6
 refine Zaf _ (ZcO w0 n _ _ _ a0.fields fa1 ca1 a1 (fun x0 r hx B'' rows'' q1 q2 => ha1 x0 r hx B'' rows'' (List.IsPrefix.trans (by first | exact List.prefix_append _ _ | exact List.prefix_refl _) q1) (hO.pre.trans q2)) _ hy7) (hv hs) ?_
 refine ne hs hK6 ?_
 clear hK6
 apply Zab; intro K8 hK8
 refine rg [2, 4, 6, 21] hs ?_
 refine cnd h hs (fun hs h => ?_) (fun hs h => ?_)
 ·
  have hb10 := hs.1
  apply Zab; intro K11 hK11
  apply Zad 1 [4, 5]
  rw [Zaa]; simp +decide only [go_sem, Nat.reduceAdd, hb4, hb10, ZaZ, ZaA, Zay]
  (repeat' apply And.intro) <;> first | refine hK11 _ _ ?_ | exact cl
  clear hK11
  exact rt h hs hcalm hO
 have hb10 := hs.1
 refine sk [2, 4, 6] hs hK8 ?_
 clear hK8
 obtain ⟨x13, hx13, h⟩ := bind_some h
 obtain ⟨hx13a, hx13b, hx13c⟩ := Zar hx13
 have hx13d := Zau (f := Zek) hx13c
 obtain ⟨y14, hy14, h⟩ := bind_some h
 have hs := And.intro hx13d hs
 refine rc 2 [4, 5] hs ?_; intro K12 hK12
 refine Zaf _ (ZgG w0 (ZcT n) (Zii w0 n) n _ _ _ x13 _ hy14) (hv hs) ?_
 refine ne hs hK12 ?_
 clear hK12
 exact rt h hs hcalm hO
def ZeD (a0 : Int × ByteArray × Int × Ty × List Vl) (a1 : ByteArray) : Bool :=
 sEq a0.2.1 a1
theorem ZmV (w0 : World) (B : List (List AV)) (Rw : List RowA) (L : List LoopA) (a0 : Int × ByteArray × Int × Ty × List Vl) (la1 : Nat) (a1 : ByteArray) (hla1 : B[la1]? = some ([.val (.string a1)])) (r : Bool) (h : ZeD a0 a1 = r) :
  ACalls Tryz.prog w0 69 [.agg (.val (.int .i64 a0.1) :: (.val (.string a0.2.1) :: (.val (.int .i64 a0.2.2.1) :: ((a0.2.2.2.1.cs) ++ ([.list (a0.2.2.2.2.map avV) .none]))))), .box la1 0] ⟨B, Rw, L⟩ fun x st => x = .val (.bool r) ∧ st = ⟨B, Rw, L⟩ := by
 rw [ZeD] at h
 refine hd [.tmp 3] Tryz.func69 Tryz.ntmps69 fun M0 W0 hN hNR hNL hcalm hu hO hs => ?_
 simp only [Zas]
 have hltla1 := (List.getElem?_eq_some_iff.1 hla1).1
 have hs := And.intro (Zaj hla1) hs
 refine rg [1, 2] hs ?_
 refine rg [3] hs ?_
 apply Zag; simp +decide only [go_sem, Nat.reduceAdd, Zaj hla1]
 subst h
 first | refine ZaD hcalm rfl hO.pre ev ⟨?_, rfl⟩ | refine Za4 hcalm rfl hO.pre ev ⟨?_, rfl⟩
 first | rfl | (simp +decide only [go_sem, Nat.reduceAdd, Zaj hla1]; done) | (simp +decide only [go_sem, Nat.reduceAdd, Vl.cs, Ty.cs, Zaj hla1]; done)
theorem Zli (w0 : World) (B : List (List AV)) (Rw : List RowA) (L : List LoopA) (a0 : Int × ByteArray × Int × Ty × List Vl) (la1 : Nat) (a1 : ByteArray) (hla1 : B[la1]? = some ([.val (.string a1)])) :
  ACalls Tryz.prog w0 69 [.agg (.val (.int .i64 a0.1) :: (.val (.string a0.2.1) :: (.val (.int .i64 a0.2.2.1) :: ((a0.2.2.2.1.cs) ++ ([.list (a0.2.2.2.2.map avV) .none]))))), .box la1 0] ⟨B, Rw, L⟩ fun x st => x = .val (.bool (ZeD a0 a1)) ∧ st = ⟨B, Rw, L⟩ := ZmV w0 B Rw L a0 la1 a1 hla1 _ rfl
def Zef (n : Nat) (a0 : Ty) (a1 : ByteArray) : Option ((Int × ByteArray × Int × Ty × List Vl) × Bool) :=
 (ZdY n a0 (fun (x0 : Int × ByteArray × Int × Ty × List Vl) => some (ZeD x0 a1))).bind fun y3 =>
 some ((y3.1, y3.2))
theorem ZiN (w0 : World) (n : Nat) (B : List (List AV)) (Rw : List RowA) (L : List LoopA) (a0 : Ty) (a1 : ByteArray) (r : (Int × ByteArray × Int × Ty × List Vl) × Bool) (h : Zef n a0 a1 = some r) :
  ACalls Tryz.prog w0 31 [.agg (a0.cs), .val (.string a1)] ⟨B, Rw, L⟩ fun x st => x = .tup [.agg (.val (.int .i64 r.1.1) :: (.val (.string r.1.2.1) :: (.val (.int .i64 r.1.2.2.1) :: ((r.1.2.2.2.1.cs) ++ ([.list (r.1.2.2.2.2.map avV) .none]))))), .val (.bool r.2)] ∧ st = ⟨B, Rw, L⟩ := by
 rw [Zef] at h
 refine hd [.cell 4 53, .tmp 5] Tryz.func31 Tryz.ntmps31 fun M0 W0 hN hNR hNL hcalm hu hO hs => ?_
 simp only [Zas]
 refine rg [2, 3, 4] hs ?_
 obtain ⟨y3, hy3, h⟩ := bind_some h
 refine rc 2 [4, 5] hs ?_; intro K2 hK2
 refine Zaf _ (ZpU w0 n _ _ _ a0 69 [.box (B.length + 1) 0] (fun (x0 : Int × ByteArray × Int × Ty × List Vl) => some (ZeD x0 a1)) (fun x0 r hx B' rows' hB' hR' => by cases hx; exact Zli w0 _ _ _ x0 _ a1 (ZeC hB' ev)) _ hy3) (hv hs) ?_
 refine ne hs hK2 ?_
 clear hK2
 exact rt h hs hcalm hO
end Go.Proofs.YtggimoedcamonaaGreatDoor
namespace Go.Ev
open Go Go.RowKit
def Mem.start : Mem := ⟨0, 0, fun _ => 0, fun _ => 0, fun _ => 0, fun _ => 0, fun _ => 0, fun _ => 0, 0, fun _ => 0⟩
theorem Zqk (W : World) : RelSt W Mem.start ⟨[], [], []⟩ W where
 below := .refl _ _
 N := rfl
 NR := rfl
 top := fun _ _ => rfl
 inj := fun _ _ h => absurd h (Nat.not_lt_zero _)
 box := fun _ _ h => by simp at h
 row := fun _ _ h => by simp at h
 rowinj := fun _ _ h => absurd h (Nat.not_lt_zero _)
 loop := ⟨rfl, fun _ _ h => absurd h (Nat.not_lt_zero _), fun _ _ h => by simp at h⟩
theorem Zjp {P : Program} {f : FuncId} {W : World} {vals : Array Value} {args : List AV} {r : Value} (h : ACalls P W f args ⟨[], [], []⟩ fun v st => v = .val r ∧ st = ⟨[], [], []⟩) (hr : RowR W Mem.start W vals args) :
  Calls P f vals W fun e w' => e = .returned r ∧ Below W.heap.size W w' :=
 (h.2 Mem.start W vals (Zqk W) hr).mono fun en w' ⟨v, M', a, st, h1, ⟨h2, _⟩, _, h4, h5⟩ => by
  subst h2
  have := h5.val_inv.1
  subst this
  exact ⟨h1, h4.below⟩
theorem Ztg {W : World} {v u : Value} {x y : AV} (h : R W Mem.start W v x) (k : R W Mem.start W u y) : RowR W Mem.start W #[v, u] [x, y] := ⟨rfl, fun i h1 h2 => by
 have : i = 0 ∨ i = 1 := by simp at h2; omega
 rcases this with rfl | rfl
 ·
  exact h
 ·
  exact k⟩
end Go.Ev
namespace Go.Proofs.YtggimoedcamonaaGreatDoor
open Go Go.Shelf Go.ChangeShapes Go.WideShapes Go.ChangeAt Go.RowKit Go.Lib Go.Ev
open Go.ChangeMaps (open_string shut_string)
set_option maxRecDepth 100000
theorem Zuv : ownKnob Tryz.prog.godebug = none := by kernel_rfl
def Zzr : DataW Unit → List Value
 | .lit (.int k z) => [.int k z]
 | .agg l => l.flatMap fun | .lit (.int k z) => [.int k z] | _ => []
 | _ => []
def Zzg : DataW Unit → List Value
 | .agg l => l.flatMap Zzr
 | _ => []
noncomputable def Zjd (os : Os) : World :=
 let w0 := World.holding Tryz.prog os ⟨#[], #[], []⟩
 let put (h : Array Obj) (g : Nat) (d : DataW Unit) : Array Obj := h.modify g fun
  | .cells _ t frozen => .cells (Zzg d).toArray t frozen
  | o => o
 { w0 with heap := put (put (put (put (put w0.heap 0 Rows.laid_unicode_utf8_first) 1 Rows.laid_unicode_utf8_acceptRanges) 3 Rows.laid_internal_strconv_uint64pow10) 4 Rows.laid_math_bits_deBruijn32tab) 5 Rows.laid_math_bits_deBruijn64tab }
theorem ZmE (os : Os) (args : Array Value) : laidMet Tryz.prog Rows.schemaKindsRow.laid ((Zjd os).forCall (fun _ _ => 0) ⟨#[], args, []⟩).memory :=
 (LaidIn.of_run (l := Rows.schemaKindsRow.laid) [4, 5, 3, 1, 0] 8 (by kernel_rfl) (by kernel_rfl) (by kernel_rfl) (by kernel_rfl)).met
theorem Zkh {W : World} (h : Lib.VarReads Tryz.prog W Zh5 Rows.laid_internal_strconv_uint64pow10) : Pow10 W := by
 obtain ⟨g, t, cs, fuel, p, h1, h2, h3, h4⟩ := h
 obtain rfl := Option.some.inj ((show Tryz.prog.globalNamed Zh5 = some 3 by kernel_rfl).symm.trans h1)
 obtain rfl := Option.some.inj ((show (Tryz.prog.globals[3]?).map (·.type) = some 227 by kernel_rfl).symm.trans h2)
 have e : (Rows.laid_internal_strconv_uint64pow10 : DataW Unit) = Lib.tabData .u64 Lib.pow10Tab := by kernel_rfl
 rw [e] at h4
 unfold Pow10 Lib.TabIs
 rw [h3, ← Lib.cells_of_tab (n := 20) (k := .u64) (zs := Lib.pow10Tab) Tryz.underlying227 Tryz.underlying192 (by kernel_rfl) (by kernel_rfl) h4]
theorem ZsL {W : World} (hL : laidMet Tryz.prog Rows.schemaKindsRow.laid W) : Lib.Utf8Tabs 0 1 W ∧ Pow10 W :=
 ⟨utf8Tabs_of_readsT (U8Types.of196 Tryz.laysValid) ⟨by kernel_rfl, by kernel_rfl, by kernel_rfl, by kernel_rfl, by kernel_rfl, by kernel_rfl, by kernel_rfl⟩ (Lib.laidMet.reads hL (.tail _ (.tail _ (.tail _ (.tail _ (.head _)))))) (Lib.laidMet.reads hL (.tail _ (.tail _ (.tail _ (.head _))))),
  Zkh (Lib.laidMet.reads hL (.tail _ (.tail _ (.head _))))⟩
set_option maxRecDepth 100000
mutual
def Vl.wf : Vl → Prop
 | .mk k i s t l f => I64 k ∧ I64 i ∧ I64 s ∧ t.size ≤ maxLen ∧ l.length ≤ maxLen ∧ f.length ≤ maxLen ∧ Zwy l ∧ Zxb f
def Zwy : List Vl → Prop
 | [] => True
 | v :: r => v.wf ∧ Zwy r
def Zxb : List (ByteArray × Vl) → Prop
 | [] => True
 | (n, v) :: r => n.size ≤ maxLen ∧ v.wf ∧ Zxb r
end
theorem Zn5 : ∀ l, Zwy l ↔ ∀ v ∈ l, v.wf
 | [] => by simp [Zwy]
 | v :: r => by simp [Zwy, Zn5 r]
theorem ZnY : ∀ l, Zxb l ↔ ∀ p ∈ l, p.1.size ≤ maxLen ∧ p.2.wf
 | [] => by simp [Zxb]
 | (n, v) :: r => by simp [Zxb, ZnY r, and_assoc]
mutual
def Ty.wf : Ty → Prop
 | .mk k lo hi s w e f => I64 k ∧ I64 lo ∧ I64 hi ∧ I64 s ∧ (∀ x ∈ w, x.size ≤ maxLen) ∧ w.length ≤ maxLen ∧ e.length ≤ maxLen ∧ f.length ≤ maxLen ∧ Zxc e ∧ Zqt f
def Zxc : List Ty → Prop
 | [] => True
 | v :: r => v.wf ∧ Zxc r
def Zqt : List (Int × ByteArray × Int × Ty × List Vl) → Prop
 | [] => True
 | (n, s, d, t, l) :: r => (I64 n ∧ s.size ≤ maxLen ∧ I64 d ∧ t.wf ∧ l.length ≤ maxLen ∧ ∀ v ∈ l, v.wf) ∧ Zqt r
end
theorem Zn4 : ∀ l, Zxc l ↔ ∀ v ∈ l, v.wf
 | [] => by simp [Zxc]
 | v :: r => by simp [Zxc, Zn4 r]
theorem ZmQ : ∀ l, Zqt l ↔ ∀ p ∈ l, I64 p.1 ∧ p.2.1.size ≤ maxLen ∧ I64 p.2.2.1 ∧ p.2.2.2.1.wf ∧ p.2.2.2.2.length ≤ maxLen ∧ ∀ v ∈ p.2.2.2.2, v.wf
 | [] => by simp [Zqt]
 | (n, s, d, t, l) :: r => by simp [Zqt, ZmQ r]
def Part.wf (p : Part) : Prop := I64 p.kind ∧ I64 p.index ∧ p.name.size ≤ maxLen
def Sch.wf (s : Sch) : Prop := s.name.size ≤ maxLen ∧ I64 s.version ∧ s.type.wf
section
variable {H : Type} {enc : TypeId × Value → H} {W : World}
def RC (W : World) (cs : List Value) (xs : List AV) : Prop := cs.length = xs.length ∧ ∀ i (h1 : i < cs.length) (h2 : i < xs.length), R W Mem.start W cs[i] xs[i]
theorem RC.nil : RC W [] [] := ⟨rfl, fun i h1 => absurd h1 (by simp)⟩
theorem RC.cons {v : Value} {x : AV} {cs : List Value} {xs : List AV} (h : R W Mem.start W v x) (k : RC W cs xs) : RC W (v :: cs) (x :: xs) := ⟨by simp [k.1], fun i h1 h2 => by
 cases i with
 | zero => exact h
 | succ i => simpa using k.2 i (by simpa using h1) (by simpa using h2)⟩
theorem RC.app {cs ds : List Value} {xs ys : List AV} (h : RC W cs xs) (k : RC W ds ys) : RC W (cs ++ ds) (xs ++ ys) := by
 refine ⟨by simp [h.1, k.1], fun i h1 h2 => ?_⟩
 by_cases c : i < cs.length
 ·
  rw [List.getElem_append_left c, List.getElem_append_left (h.1 ▸ c)]; exact h.2 i c _
 ·
  rw [List.getElem_append_right (Nat.le_of_not_lt c), List.getElem_append_right (h.1 ▸ Nat.le_of_not_lt c)]
  simp only [h.1]
  exact k.2 _ (by have := h.1; rw [List.length_append] at h1; omega) (by have := h.1; rw [List.length_append] at h2; omega)
theorem RC.agg {cs : List Value} {xs : List AV} (h : RC W cs xs) (h1 : ∀ x ∈ xs, x.one = true) : R W Mem.start W (.agg cs.toArray) (.agg xs) := .agg (by simpa using h.1) h1 (fun i a b => by simpa using h.2 i (by simpa using a) b)
noncomputable abbrev Td (enc : TypeId × Value → H) (W : World) (n : Nat) (t : TypeId) (cs : List Value) : Option (DataW H × List MemPlace) := DataW.trod enc Tryz.prog W 0 (fun _ => true) true n t cs
theorem Zgq {n : Nat} {cs : List Value} {x : DataW H × List MemPlace} (h : Td enc W n 3 cs = some x) : ∃ z, I64 z ∧ cs = [.int .i64 z] := by
 obtain ⟨z, rfl, _, hw⟩ := DataW.trod_int Tryz.underlying3 h
 refine ⟨z, ?_, rfl⟩
 simp [Lit.wf, IntKind.min, IntKind.max, IntKind.signed, IntKind.bits] at hw
 unfold I64
 omega
theorem ZmG {n : Nat} {cs : List Value} {x : DataW H × List MemPlace} (h : Td enc W n 9 cs = some x) : ∃ s : ByteArray, s.size ≤ maxLen ∧ cs = [.string s] := by
 obtain ⟨s, rfl, _, hw⟩ := DataW.trod_string Tryz.underlying9 h
 exact ⟨s, hw, rfl⟩
theorem ZfO {α : Type} (f : α → AV) (p : α → Prop) {t e : TypeId} {sz : Nat} (ht : Tryz.prog.underlying t = some (.slice e)) (hc : Tryz.prog.cellsOf e = sz) (hsz : 0 < sz) {n : Nat}
  (H0 : ∀ cs x, Td enc W n e cs = some x → ∃ y u, p y ∧ u.cells.toList = cs ∧ R W Mem.start W u (f y)) {cs : List Value} {x : DataW H × List MemPlace} (h : Td enc W (n + 1) t cs = some x) :
  ∃ (l : List α) (v : Value), (∀ y ∈ l, p y) ∧ l.length ≤ maxLen ∧ cs = [v] ∧ R W Mem.start W v (.list (l.map f) .none) := by
 rcases DataW.trod_slice ht h with ⟨rfl, _⟩ | ⟨a, len, cap, elems, rest, n', hn, rfl, _, hb, hl, hm, hlen, hel, hsp, _⟩
 ·
  exact ⟨[], _, by simp, by simp, rfl, .nil (fun id => by simp)⟩
 ·
  cases hn
  by_cases hcap : cap = 0
  ·
   subst hcap
   obtain rfl : len = 0 := by omega
   exact ⟨[], _, by simp, by simp, rfl, .emp (fun id => by simp)⟩
  have hspot : a.spot = none := by
   have get : ∀ (c : DataW H × List MemPlace) (r : List Value → Option (DataW H × List MemPlace)), (W.cells? 0 (a.add (0 * Tryz.prog.cellsOf e)) (Tryz.prog.cellsOf e)).bind r = some c → a.spot = none := fun c r hr => by
    obtain ⟨cs', h1, _⟩ := Option.bind_eq_some_iff.1 hr
    obtain ⟨_, h2, h3⟩ := World.cells?_some h1
    have h4 := h3 0 (by omega)
    rw [List.getElem?_eq_getElem (by omega)] at h4
    have e0 : (a.add (0 * Tryz.prog.cellsOf e)).add 0 = a := by simp [Addr.add]
    rw [e0] at h4
    unfold World.cell? at h4
    split at h4
    ·
     split at h4
     ·
      cases h4
     ·
      rename_i q; simpa using q
    ·
     cases h4
   by_cases h0 : 0 < len
   ·
    have := hel 0 h0
    rw [List.getElem?_eq_getElem (by omega)] at this
    exact get _ _ this
   ·
    obtain ⟨h1, h2⟩ := hsp rfl
    have := h2 0 (by omega)
    rw [List.getElem?_eq_getElem (by omega)] at this
    obtain rfl : len = 0 := by omega
    exact get _ _ this
  obtain ⟨b, off, sp⟩ := a
  simp only at hspot
  subst hspot
  have key : ∀ i, i < len → ∃ y u, p y ∧ R W Mem.start W u (f y) ∧ u.cells.size = sz ∧ ∀ j, j < sz → W.cell? ⟨b, off + i * sz + j, none⟩ = u.cells[j]? := fun i hi => by
   have h1 := hel i hi
   rw [List.getElem?_eq_getElem (by omega)] at h1
   obtain ⟨cs', h2, h3⟩ := Option.bind_eq_some_iff.1 h1
   obtain ⟨y, u, h4, h5, h6⟩ := H0 _ _ h3
   obtain ⟨_, h7, h8⟩ := World.cells?_some h2
   rw [hc] at h7 h8
   refine ⟨y, u, h4, h6, by rw [← h7, ← h5, Array.length_toList], fun j hj => ?_⟩
   have := h8 j hj
   rw [← h5, Array.getElem?_toList] at this
   rw [← this]
   congr 1
   have ea : ∀ (o m : Nat), (⟨b, o, none⟩ : Addr).add m = ⟨b, o + m, none⟩ := fun o m => by unfold Addr.add; split <;> simp_all
   rw [ea, ea]
  classical
  let y : Nat → Option (α × Value) := fun i => if hi : i < len then some (Classical.choose (key i hi), Classical.choose (Classical.choose_spec (key i hi))) else none
  have hne : len = 0 ∨ Nonempty (α × Value) := by
   by_cases h0 : 0 < len
   ·
    obtain ⟨z, u, _⟩ := key 0 h0; exact .inr ⟨(z, u)⟩
   ·
    exact .inl (by omega)
  rcases hne with h0 | ⟨⟨d⟩⟩
  ·
   subst h0
   exact ⟨[], _, by simp, by simp, rfl, .list (xs := []) 0 (fun _ => undef) (Nat.zero_le _) hm (fun i hi => absurd hi (by simp)) (fun i hi => absurd hi (by simp)) trivial⟩
  ·
   let g : Nat → α × Value := fun i => if hi : i < len then (Classical.choose (key i hi), Classical.choose (Classical.choose_spec (key i hi))) else d
   have hg : ∀ i, i < len → p (g i).1 ∧ R W Mem.start W (g i).2 (f (g i).1) ∧ (g i).2.cells.size = sz ∧ ∀ j, j < sz → W.cell? ⟨b, off + i * sz + j, none⟩ = (g i).2.cells[j]? := fun i hi => by
    have := Classical.choose_spec (Classical.choose_spec (key i hi))
    simp only [g, dif_pos hi]
    exact this
   have hlen2 : (((List.range len).map fun i => (g i).1).map f).length = len := by simp
   refine ⟨(List.range len).map fun i => (g i).1, .slice (some ⟨b, off, none⟩) len cap, fun z hz => ?_, by simp; omega, rfl, ?_⟩
   ·
    obtain ⟨i, hi, rfl⟩ := List.mem_map.1 hz
    exact (hg i (by simpa using hi)).1
   ·
    have := Ev.R.list (w0 := W) (M := Ev.Mem.start) (w := W) (b := b) (off := off) (cap := cap) (xs := ((List.range len).map fun i => (g i).1).map f) (o := .none) sz (fun i => (g i).2) (by rw [hlen2]; exact hl) hm
     (fun i hi => by
      rw [hlen2] at hi
      obtain ⟨_, _, h3, h4⟩ := hg i hi
      refine ⟨h3, fun j hj => ⟨.inl ?_, h4 j hj⟩⟩
      have := h4 j hj
      rw [Array.getElem?_eq_getElem (by rw [h3]; exact hj)] at this
      exact World.block_lt_of_cell? W _ this) (fun i hi => by
      rw [hlen2] at hi
      simp only [List.getElem_map, List.getElem_range]
      exact (hg i hi).2.1) trivial
    rw [hlen2] at this
    exact this
theorem Vl.ones (v : Vl) : ∀ x ∈ v.cs, x.one = true := by
 cases v; intro x hx
 simp only [Vl.cs, List.mem_cons, List.not_mem_nil, or_false] at hx
 rcases hx with rfl | rfl | rfl | rfl | rfl | rfl <;> rfl
theorem Ty.ones (v : Ty) : ∀ x ∈ v.cs, x.one = true := by
 cases v; intro x hx
 simp only [Ty.cs, List.mem_cons, List.not_mem_nil, or_false] at hx
 rcases hx with rfl | rfl | rfl | rfl | rfl | rfl | rfl <;> rfl
theorem Zqo : ∀ (n : Nat) (cs : List Value) (x : DataW H × List MemPlace), Td enc W n 34 cs = some x → ∃ v : Vl, v.wf ∧ RC W cs v.cs
 | 0, cs, x, h => by simp [Td, DataW.trod] at h
 | n + 1, cs, x, h => by
  obtain ⟨xs, n', hn, _, hl, hx, hf⟩ := DataW.trod_struct Tryz.underlying34 h
  cases hn
  have hl6 : cs.length = 6 := hl.trans (by kernel_rfl)
  have hx6 : xs.length = 6 := hx
  match cs, hl6 with
  | [c0, c1, c2, c3, c4, c5], _ =>
  have g : ∀ i (hi : i < 6), xs[i]? = some (xs[i]'(by omega)) := fun i hi => List.getElem?_eq_getElem _
  have f0 := hf 0 _ rfl; have f1 := hf 1 _ rfl; have f2 := hf 2 _ rfl; have f3 := hf 3 _ rfl; have f4 := hf 4 _ rfl; have f5 := hf 5 _ rfl
  rw [g 0 (by omega)] at f0; rw [g 1 (by omega)] at f1; rw [g 2 (by omega)] at f2; rw [g 3 (by omega)] at f3; rw [g 4 (by omega)] at f4; rw [g 5 (by omega)] at f5
  obtain ⟨k, hk, ek⟩ := Zgq f0
  obtain ⟨i, hi, ei⟩ := Zgq f1
  obtain ⟨s, hs, es⟩ := Zgq f2
  obtain ⟨t, ht, et⟩ := ZmG f3
  cases n with
  | zero => simp [DataW.trod] at f4
  | succ n =>
  obtain ⟨l, vl, hl1, hl2, el, hRl⟩ := ZfO avV Vl.wf Tryz.underlying31 (sz := 6) (by kernel_rfl) (by omega) (fun cs x h => by
   obtain ⟨v, hv, hR⟩ := Zqo n cs x h
   exact ⟨v, .agg cs.toArray, hv, by simp [Value.cells], hR.agg v.ones⟩) f4
  obtain ⟨fl, vf, hf1, hf2, ef, hRf⟩ := ZfO avF (fun p => p.1.size ≤ maxLen ∧ p.2.wf) Tryz.underlying32 (sz := 7) (by kernel_rfl) (by omega) (fun cs x h => by
   cases n with
   | zero => simp [DataW.trod] at h
   | succ n =>
   obtain ⟨ys, n', hn, _, hl, hx, hf⟩ := DataW.trod_struct Tryz.underlying83 h
   cases hn
   have hl7 : cs.length = 7 := hl.trans (by kernel_rfl)
   have hx2 : ys.length = 2 := hx
   have q0 := hf 0 _ rfl; have q1 := hf 1 _ rfl
   rw [List.getElem?_eq_getElem (by omega)] at q0 q1
   obtain ⟨nm, hnm, en⟩ := ZmG q0
   obtain ⟨v, hv, hR⟩ := Zqo n _ _ q1
   have e2 : Tryz.prog.cellsOf 34 = 6 := by kernel_rfl
   have e3 : Tryz.prog.cellsOf 9 = 1 := by kernel_rfl
   simp only [List.getElem_toArray, List.getElem_cons_zero, List.getElem_cons_succ, e2, e3] at en hR
   match cs, hl7 with
   | [c0, c1, c2, c3, c4, c5, c6], _ =>
   simp only [List.drop_zero, List.take_succ_cons, List.take_zero, List.cons.injEq, and_true, List.drop_succ_cons] at en hR
   subst en
   refine ⟨(nm, v), .agg #[.string nm, c1, c2, c3, c4, c5, c6], ⟨hnm, hv⟩, rfl, ?_⟩
   exact RC.agg (cs := [.string nm, c1, c2, c3, c4, c5, c6]) (.cons (.flat (decide_eq_true hnm)) hR) (fun x hx => by
    rcases List.mem_cons.1 hx with rfl | hx
    ·
     rfl
    ·
     exact v.ones x hx)) f5
  have c1' : Tryz.prog.cellsOf 3 = 1 := by kernel_rfl
  have c2' : Tryz.prog.cellsOf 9 = 1 := by kernel_rfl
  have c3' : Tryz.prog.cellsOf 31 = 1 := by kernel_rfl
  have c4' : Tryz.prog.cellsOf 32 = 1 := by kernel_rfl
  simp only [List.getElem_toArray, List.getElem_cons_zero, List.getElem_cons_succ, c1', c2', c3', c4', List.drop_zero, List.take_succ_cons, List.take_zero, List.cons.injEq, and_true, List.drop_succ_cons] at ek ei es et el ef
  subst ek ei es et el ef
  refine ⟨.mk k i s t l fl, ?_, ?_⟩
  ·
   unfold Vl.wf
   exact ⟨hk, hi, hs, ht, hl2, hf2, (Zn5 l).2 hl1, (ZnY fl).2 hf1⟩
  ·
   rw [Vl.cs, Zk4, ZnV]
   exact .cons (.flat rfl) (.cons (.flat rfl) (.cons (.flat rfl) (.cons (.flat (decide_eq_true ht)) (.cons hRl (.cons hRf .nil)))))
theorem Zqi : ∀ (n : Nat) (cs : List Value) (x : DataW H × List MemPlace), Td enc W n 26 cs = some x → ∃ v : Ty, v.wf ∧ RC W cs v.cs
 | 0, cs, x, h => by simp [Td, DataW.trod] at h
 | n + 1, cs, x, h => by
  obtain ⟨xs, n', hn, _, hl, hx, hf⟩ := DataW.trod_struct Tryz.underlying26 h
  cases hn
  have hl7 : cs.length = 7 := hl.trans (by kernel_rfl)
  have hx7 : xs.length = 7 := hx
  match cs, hl7 with
  | [c0, c1, c2, c3, c4, c5, c6], _ =>
  have g : ∀ i (hi : i < 7), xs[i]? = some (xs[i]'(by omega)) := fun i hi => List.getElem?_eq_getElem _
  have f0 := hf 0 _ rfl; have f1 := hf 1 _ rfl; have f2 := hf 2 _ rfl; have f3 := hf 3 _ rfl; have f4 := hf 4 _ rfl; have f5 := hf 5 _ rfl; have f6 := hf 6 _ rfl
  rw [g 0 (by omega)] at f0; rw [g 1 (by omega)] at f1; rw [g 2 (by omega)] at f2; rw [g 3 (by omega)] at f3; rw [g 4 (by omega)] at f4; rw [g 5 (by omega)] at f5; rw [g 6 (by omega)] at f6
  obtain ⟨k, hk, ek⟩ := Zgq f0
  obtain ⟨lo, hlo, elo⟩ := Zgq f1
  obtain ⟨hi, hhi, ehi⟩ := Zgq f2
  obtain ⟨s, hs, es⟩ := Zgq f3
  cases n with
  | zero => simp [DataW.trod] at f4
  | succ n =>
  obtain ⟨w, vw, hw1, hw2, ew, hRw⟩ := ZfO avS (fun s => s.size ≤ maxLen) Tryz.underlying22 (sz := 1) (by kernel_rfl) (by omega) (fun cs x h => by
   obtain ⟨s, hs, rfl⟩ := ZmG h
   exact ⟨s, .string s, hs, rfl, .flat (decide_eq_true hs)⟩) f4
  obtain ⟨el, ve, he1, he2, ee, hRe⟩ := ZfO avT Ty.wf Tryz.underlying23 (sz := 7) (by kernel_rfl) (by omega) (fun cs x h => by
   obtain ⟨v, hv, hR⟩ := Zqi n cs x h
   exact ⟨v, .agg cs.toArray, hv, by simp [Value.cells], hR.agg v.ones⟩) f5
  obtain ⟨fl, vf, hf1, hf2, ef, hRf⟩ := ZfO Zek (fun p => I64 p.1 ∧ p.2.1.size ≤ maxLen ∧ I64 p.2.2.1 ∧ p.2.2.2.1.wf ∧ p.2.2.2.2.length ≤ maxLen ∧ ∀ v ∈ p.2.2.2.2, v.wf) Tryz.underlying24 (sz := 11) (by kernel_rfl) (by omega) (fun cs x h => by
   cases n with
   | zero => simp [DataW.trod] at h
   | succ n =>
   obtain ⟨ys, n', hn, _, hl, hx, hf⟩ := DataW.trod_struct Tryz.underlying53 h
   cases hn
   have hl11 : cs.length = 11 := hl.trans (by kernel_rfl)
   have hx5 : ys.length = 5 := hx
   have q0 := hf 0 _ rfl; have q1 := hf 1 _ rfl; have q2 := hf 2 _ rfl; have q3 := hf 3 _ rfl; have q4 := hf 4 _ rfl
   rw [List.getElem?_eq_getElem (by omega)] at q0 q1 q2 q3 q4
   obtain ⟨nu, hnu, enu⟩ := Zgq q0
   obtain ⟨nm, hnm, en⟩ := ZmG q1
   obtain ⟨nd, hnd, end'⟩ := Zgq q2
   obtain ⟨v, hv, hR⟩ := Zqi n _ _ q3
   cases n with
   | zero => simp [DataW.trod] at q4
   | succ n =>
   obtain ⟨dl, vd, hd1, hd2, ed, hRd⟩ := ZfO avV Vl.wf Tryz.underlying31 (sz := 6) (by kernel_rfl) (by omega) (fun cs x h => by
    obtain ⟨v, hv, hR⟩ := Zqo n cs x h
    exact ⟨v, .agg cs.toArray, hv, by simp [Value.cells], hR.agg v.ones⟩) q4
   have e1 : Tryz.prog.cellsOf 3 = 1 := by kernel_rfl
   have e2 : Tryz.prog.cellsOf 26 = 7 := by kernel_rfl
   have e3 : Tryz.prog.cellsOf 9 = 1 := by kernel_rfl
   have e4 : Tryz.prog.cellsOf 31 = 1 := by kernel_rfl
   simp only [List.getElem_toArray, List.getElem_cons_zero, List.getElem_cons_succ, e1, e2, e3, e4] at enu en end' hR ed
   match cs, hl11 with
   | [c0, c1, c2, c3, c4, c5, c6, c7, c8, c9, c10], _ =>
   simp only [List.drop_zero, List.take_succ_cons, List.take_zero, List.cons.injEq, and_true, List.drop_succ_cons] at enu en end' hR ed
   subst enu en end' ed
   refine ⟨(nu, nm, nd, v, dl), .agg #[.int .i64 nu, .string nm, .int .i64 nd, c3, c4, c5, c6, c7, c8, c9, c10], ⟨hnu, hnm, hnd, hv, hd2, hd1⟩, rfl, ?_⟩
   exact RC.agg (cs := [.int .i64 nu, .string nm, .int .i64 nd] ++ ([c3, c4, c5, c6, c7, c8, c9] ++ [c10])) (.cons (.flat rfl) (.cons (.flat (show Zfu (.string nm) = true from decide_eq_true hnm)) (.cons (.flat rfl) (hR.app (.cons hRd .nil))))) (fun x hx => by
    simp only [List.mem_cons, List.mem_append, List.not_mem_nil, or_false] at hx
    rcases hx with rfl | rfl | rfl | hx | rfl
    ·
     rfl
    ·
     rfl
    ·
     rfl
    ·
     exact v.ones x hx
    ·
     rfl)) f6
  have c1' : Tryz.prog.cellsOf 3 = 1 := by kernel_rfl
  have c2' : Tryz.prog.cellsOf 22 = 1 := by kernel_rfl
  have c3' : Tryz.prog.cellsOf 23 = 1 := by kernel_rfl
  have c4' : Tryz.prog.cellsOf 24 = 1 := by kernel_rfl
  simp only [List.getElem_toArray, List.getElem_cons_zero, List.getElem_cons_succ, c1', c2', c3', c4', List.drop_zero, List.take_succ_cons, List.take_zero, List.cons.injEq, and_true, List.drop_succ_cons] at ek elo ehi es ew ee ef
  subst ek elo ehi es ew ee ef
  refine ⟨.mk k lo hi s w el fl, ?_, ?_⟩
  ·
   unfold Ty.wf
   exact ⟨hk, hlo, hhi, hs, hw1, hw2, he2, hf2, (Zn4 el).2 he1, (ZmQ fl).2 hf1⟩
  ·
   rw [Ty.cs, Zop, Zl4, Zti]
   exact .cons (.flat rfl) (.cons (.flat rfl) (.cons (.flat rfl) (.cons (.flat rfl) (.cons hRw (.cons hRe (.cons hRf .nil))))))
end
section
variable {H : Type} {enc : TypeId × Value → H} {W : World} {base : Nat} {v : Value} {d : DataW H} {p : List MemPlace}
theorem Zwx {t : TypeId} {fs : Array Field} (ht : Tryz.prog.underlying t = some (.struct fs)) (hv : Value.okWide Tryz.prog W .any base t v) : ∃ cs, v = .agg cs := by
 unfold Value.okWide at hv
 rw [ht] at hv
 obtain ⟨cs, h, _⟩ := hv
 exact ⟨cs, h⟩
theorem ZwG (hv : Value.okWide Tryz.prog W .any base 26 v) (h : DataW.Trod enc Tryz.prog W 0 (fun _ => true) true 26 v d p) : ∃ t : Ty, t.wf ∧ R W Mem.start W v (.agg t.cs) := by
 obtain ⟨cs, rfl⟩ := Zwx Tryz.underlying26 hv
 obtain ⟨n, hn⟩ := h
 obtain ⟨t, h1, h2⟩ := Zqi n _ _ hn
 exact ⟨t, h1, by simpa [Value.cells] using h2.agg t.ones⟩
end
end Go.Proofs.YtggimoedcamonaaGreatDoor
namespace Go.Proofs.YtggimoedcamonaaGreatDoor
open Go Go.RowKit Go.Ev
theorem Zan {α : Type} {l : List α} {k : Nat} (h : k < l.length) : idx l (k : Int) = some l[k] := Zxh h
theorem Zao {a b : Nat} : decide ((a : Int) < (b : Int)) = decide (a < b) := by simp
theorem Zaq {k : Nat} (h : k < 1000000000000) : I64 ((k : Int) + 1) := by unfold I64; omega
theorem Ty.size_pos (t : Ty) : 0 < t.size := by cases t; simp [Ty.size]; omega
theorem Ty.size_eq (t : Ty) : t.size = 1 + Zff t.elem + Zdj t.fields := by cases t; simp [Ty.size, Ty.elem, Ty.fields]
theorem Zkn : ∀ (l : List Ty) (v : Ty), v ∈ l → v.size ≤ Zff l
 | [], _, h => by simp at h
 | a :: r, v, h => by
  rcases List.mem_cons.1 h with rfl | h
  ·
   simp [Zff]
  ·
   have := Zkn r v h
   simp [Zff]; omega
theorem ZjN : ∀ (l : List (Int × ByteArray × Int × Ty × List Vl)) (p : Int × ByteArray × Int × Ty × List Vl), p ∈ l → p.2.2.2.1.size ≤ Zdj l
 | [], _, h => by simp at h
 | (a, b, c, t, d) :: r, p, h => by
  rcases List.mem_cons.1 h with rfl | h
  ·
   simp [Zdj]
  ·
   have := ZjN r p h
   simp [Zdj]; omega
theorem ZkF : ∀ l : List Ty, l.length ≤ Zff l
 | [] => Nat.le_refl _
 | v :: r => by have := ZkF r; have := v.size_pos; simp [Zff]; omega
theorem Zj3 : ∀ l : List (Int × ByteArray × Int × Ty × List Vl), l.length ≤ Zdj l
 | [] => Nat.le_refl _
 | (_, _, _, t, _) :: r => by have := Zj3 r; have := t.size_pos; simp [Zdj]; omega
theorem Ty.elem_size (t x : Ty) (h : x ∈ t.elem) : x.size < t.size := by have := Zkn _ _ h; have := t.size_eq; omega
theorem Ty.field_size (t : Ty) (p) (h : p ∈ t.fields) : p.2.2.2.1.size < t.size := by have := ZjN _ _ h; have := t.size_eq; omega
theorem Ty.lens (t : Ty) : t.elem.length < t.size ∧ t.fields.length < t.size := by have := ZkF t.elem; have := Zj3 t.fields; have := t.size_eq; omega
theorem Vl.list_size (v x : Vl) (h : x ∈ v.list) : x.size < v.size := by have := ZiH _ _ h; have := v.size_eq; omega
theorem Vl.field_size (v : Vl) (p) (h : p ∈ v.fields) : p.2.size < v.size := by have := ZiP _ _ h; have := v.size_eq; omega
mutual
def Ty.depth : Ty → Nat
 | .mk _ _ _ _ _ e f => 1 + max (Zfm e) (ZdV f)
def Zfm : List Ty → Nat
 | [] => 0
 | t :: r => max t.depth (Zfm r)
def ZdV : List (Int × ByteArray × Int × Ty × List Vl) → Nat
 | [] => 0
 | (_, _, _, t, _) :: r => max t.depth (ZdV r)
end
mutual
def Vl.depth : Vl → Nat
 | .mk _ _ _ _ l f => 1 + max (ZiA l) (Zix f)
def ZiA : List Vl → Nat
 | [] => 0
 | t :: r => max t.depth (ZiA r)
def Zix : List (ByteArray × Vl) → Nat
 | [] => 0
 | (_, t) :: r => max t.depth (Zix r)
end
mutual
def Vl.ok : Vl → Prop
 | .mk _ _ _ t l f => t.size ≤ 2000 ∧ ZvG l ∧ ZvQ f
def ZvG : List Vl → Prop
 | [] => True
 | v :: r => v.ok ∧ ZvG r
def ZvQ : List (ByteArray × Vl) → Prop
 | [] => True
 | (n, v) :: r => n.size ≤ 100 ∧ v.ok ∧ ZvQ r
end
theorem ZnZ : ∀ l, ZvG l ↔ ∀ v ∈ l, v.ok
 | [] => by simp [ZvG]
 | v :: r => by simp [ZvG, ZnZ r]
theorem Zn6 : ∀ l, ZvQ l ↔ ∀ p ∈ l, p.1.size ≤ 100 ∧ p.2.ok
 | [] => by simp [ZvQ]
 | (n, v) :: r => by simp [ZvQ, Zn6 r, and_assoc]
def Vl.small (v : Vl) : Prop := v.size ≤ 300 ∧ v.depth ≤ 12 ∧ v.ok
mutual
def Ty.ok : Ty → Prop
 | .mk _ _ _ _ w e f => w.length ≤ 70 ∧ (∀ x ∈ w, x.size ≤ 2000) ∧ Zv1 e ∧ Zpt f
def Zv1 : List Ty → Prop
 | [] => True
 | v :: r => v.ok ∧ Zv1 r
def Zpt : List (Int × ByteArray × Int × Ty × List Vl) → Prop
 | [] => True
 | (_, n, _, t, d) :: r => (n.size ≤ 100 ∧ t.ok ∧ d.length ≤ 3 ∧ ∀ v ∈ d, v.small) ∧ Zpt r
end
theorem Zn3 : ∀ l, Zv1 l ↔ ∀ v ∈ l, v.ok
 | [] => by simp [Zv1]
 | v :: r => by simp [Zv1, Zn3 r]
theorem ZlP : ∀ l, Zpt l ↔ ∀ p ∈ l, p.2.1.size ≤ 100 ∧ p.2.2.2.1.ok ∧ p.2.2.2.2.length ≤ 3 ∧ ∀ v ∈ p.2.2.2.2, v.small
 | [] => by simp [Zpt]
 | (_, n, _, t, d) :: r => by simp [Zpt, ZlP r]
theorem Ty.ok_eq (t : Ty) : t.ok ↔ t.words.length ≤ 70 ∧ (∀ x ∈ t.words, x.size ≤ 2000) ∧ (∀ v ∈ t.elem, v.ok) ∧ ∀ p ∈ t.fields, p.2.1.size ≤ 100 ∧ p.2.2.2.1.ok ∧ p.2.2.2.2.length ≤ 3 ∧ ∀ v ∈ p.2.2.2.2, v.small := by
 cases t; simp only [Ty.ok, Ty.words, Ty.elem, Ty.fields, Zn3, ZlP]
theorem Vl.ok_eq (v : Vl) : v.ok ↔ v.text.size ≤ 2000 ∧ (∀ x ∈ v.list, x.ok) ∧ ∀ p ∈ v.fields, p.1.size ≤ 100 ∧ p.2.ok := by
 cases v; simp only [Vl.ok, Vl.text, Vl.list, Vl.fields, ZnZ, Zn6]
theorem ZiL : ∀ (l : List Ty) (d : Nat), Zfm l ≤ d ↔ ∀ v ∈ l, v.depth ≤ d
 | [], d => by simp [Zfm]
 | v :: r, d => by simp [Zfm, Nat.max_le, ZiL r d]
theorem ZhE : ∀ (l : List (Int × ByteArray × Int × Ty × List Vl)) (d : Nat), ZdV l ≤ d ↔ ∀ v ∈ l, v.2.2.2.1.depth ≤ d
 | [], d => by simp [ZdV]
 | (_, _, _, t, _) :: r, d => by simp [ZdV, Nat.max_le, ZhE r d]
theorem ZkT : ∀ (l : List Vl) (d : Nat), ZiA l ≤ d ↔ ∀ v ∈ l, v.depth ≤ d
 | [], d => by simp [ZiA]
 | v :: r, d => by simp [ZiA, Nat.max_le, ZkT r d]
theorem ZkS : ∀ (l : List (ByteArray × Vl)) (d : Nat), Zix l ≤ d ↔ ∀ v ∈ l, v.2.depth ≤ d
 | [], d => by simp [Zix]
 | (_, t) :: r, d => by simp [Zix, Nat.max_le, ZkS r d]
theorem Ty.depth_eq (t : Ty) : t.depth = 1 + Max.max (Zfm t.elem) (ZdV t.fields) := by cases t; simp [Ty.depth, Ty.elem, Ty.fields]
theorem Vl.depth_eq (v : Vl) : v.depth = 1 + Max.max (ZiA v.list) (Zix v.fields) := by cases v; simp [Vl.depth, Vl.list, Vl.fields]
theorem Vl.eta (v : Vl) : Vl.mk v.kind v.int v.scale v.text v.list v.fields = v := by cases v; rfl
theorem Ty.eta (v : Ty) : Ty.mk v.kind v.min v.max v.scale v.words v.elem v.fields = v := by cases v; rfl
theorem Zkr (rec : Vl → Option Vl) (n : Nat) (v : Vl) (hs : v.fields.length ≤ 1000000000) (hr : ∀ p ∈ v.fields, rec p.2 = some p.2) (b : List Vl) : ∀ (k m i : Nat), i + k = v.fields.length → k < m → Zc0 rec n v m i b (v.fields.take i) = some (Vl.mk v.kind v.int v.scale v.text b v.fields)
 | k, 0, i, _, h => absurd h (Nat.not_lt_zero _)
 | 0, m + 1, i, hi, _ => by
  rw [Zc0, Zao, decide_eq_false (by omega)]
  simp only [Bool.false_eq_true, if_false, ZfN]
  rw [List.take_of_length_le (by omega)]
 | k + 1, m + 1, i, hi, hm => by
  have hlt : i < v.fields.length := by omega
  rw [Zc0, Zao, decide_eq_true hlt]
  simp only [if_true, Zan hlt, Option.bind_some, hr _ (List.getElem_mem hlt)]
  rw [if_pos (by rw [List.length_take]; omega), if_pos (Zaq (by omega))]
  have e : v.fields.take i ++ [(v.fields[i].1, v.fields[i].2)] = v.fields.take (i + 1) := by rw [List.take_succ_eq_append_getElem hlt]
  rw [e]
  exact Zkr rec n v hs hr b k m (i + 1) (by omega) (by omega)
theorem ZmT (rec : Vl → Option Vl) (n : Nat) (v : Vl) (hs : v.fields.length ≤ 1000000000 ∧ v.list.length ≤ 1000000000) (hn : v.fields.length < n) (hr : (∀ x ∈ v.list, rec x = some x) ∧ ∀ p ∈ v.fields, rec p.2 = some p.2) : ∀ (k m i : Nat), i + k = v.list.length → k < m → ZdF rec n v m i (v.list.take i) = some v
 | k, 0, i, _, h => absurd h (Nat.not_lt_zero _)
 | 0, m + 1, i, hi, _ => by
  rw [ZdF, Zao, decide_eq_false (by omega)]
  simp only [Bool.false_eq_true, if_false, ZgT]
  rw [List.take_of_length_le (by omega)]
  have := Zkr rec n v hs.1 hr.2 v.list v.fields.length n 0 (by omega) hn
  rw [List.take_zero] at this
  exact this.trans (by rw [Vl.eta])
 | k + 1, m + 1, i, hi, hm => by
  have hlt : i < v.list.length := by omega
  rw [ZdF, Zao, decide_eq_true hlt]
  simp only [if_true, Zan hlt, Option.bind_some, hr.1 _ (List.getElem_mem hlt)]
  rw [if_pos (by rw [List.length_take]; omega), if_pos (Zaq (by omega))]
  have e : v.list.take i ++ [v.list[i]] = v.list.take (i + 1) := by rw [List.take_succ_eq_append_getElem hlt]
  rw [e]
  exact ZmT rec n v hs hn hr k m (i + 1) (by omega) (by omega)
theorem Zgr : ∀ (n : Nat) (v : Vl), v.size < n → v.size ≤ 1000000000 → ZbI n v = some v
 | 0, v, h, _ => absurd h (Nat.not_lt_zero _)
 | n + 1, v, h, hs => by
  have hl := Zfy v
  rw [ZbI, ZhZ]
  have := ZmT (ZbI n) n v ⟨by omega, by omega⟩ (by omega) ⟨fun x hx => Zgr n x (by have := v.list_size x hx; omega) (by have := v.list_size x hx; omega), fun p hp => Zgr n p.2 (by have := v.field_size p hp; omega) (by have := v.field_size p hp; omega)⟩ v.list.length n 0 (by omega) (by omega)
  rw [List.take_zero] at this
  exact this
abbrev TF := Int × ByteArray × Int × Ty × List Vl
theorem Zra (rec : Ty → Option Ty) (n : Nat) (p : TF) (y : Ty) (hs : p.2.2.2.2.length ≤ 1000000000) (hr : ∀ v ∈ p.2.2.2.2, ZbI n v = some v) : ∀ (k m i : Nat), i + k = p.2.2.2.2.length → k < m → Zbk rec n p y m (p.2.2.2.2.take i) i = some (p.1, p.2.1, p.2.2.1, y, p.2.2.2.2)
 | k, 0, i, _, h => absurd h (Nat.not_lt_zero _)
 | 0, m + 1, i, hi, _ => by
  rw [Zbk, Zao, decide_eq_false (by omega)]
  simp only [Bool.false_eq_true, if_false, Zdk]
  rw [List.take_of_length_le (by omega)]
 | k + 1, m + 1, i, hi, hm => by
  have hlt : i < p.2.2.2.2.length := by omega
  rw [Zbk, Zao, decide_eq_true hlt]
  simp only [if_true, Zan hlt, Option.bind_some, hr _ (List.getElem_mem hlt)]
  rw [if_pos (by rw [List.length_take]; omega), if_pos (Zaq (by omega))]
  have e : p.2.2.2.2.take i ++ [p.2.2.2.2[i]] = p.2.2.2.2.take (i + 1) := by rw [List.take_succ_eq_append_getElem hlt]
  rw [e]
  exact Zra rec n p y hs hr k m (i + 1) (by omega) (by omega)
theorem ZtO (rec : Ty → Option Ty) (n : Nat) (p : TF) (hs : p.2.2.2.2.length ≤ 1000000000) (hn : p.2.2.2.2.length < n) (hr : ∀ v ∈ p.2.2.2.2, ZbI n v = some v) (ht : rec p.2.2.2.1 = some p.2.2.2.1) : Zbp rec n p = some p := by
 rw [Zbp, ht]
 simp only [Option.bind_some]
 rw [if_pos (by omega)]
 have := Zra rec n p p.2.2.2.1 hs hr p.2.2.2.2.length n 0 (by omega) hn
 rw [List.take_zero] at this
 exact this
theorem ZkI (rec : Ty → Option Ty) (n : Nat) (t : Ty) (hw : t.words.length ≤ 1000000000) (hs : t.fields.length ≤ 1000000000) (hr : ∀ p ∈ t.fields, Zbp rec n p = some p) (e : List Ty) : ∀ (k m i : Nat), i + k = t.fields.length → k < m → Zc2 rec n t m e (t.fields.take i) i = some (Ty.mk t.kind t.min t.max t.scale t.words e t.fields)
 | k, 0, i, _, h => absurd h (Nat.not_lt_zero _)
 | 0, m + 1, i, hi, _ => by
  rw [Zc2, Zao, decide_eq_false (by omega)]
  simp only [Bool.false_eq_true, if_false, Zf6]
  rw [List.take_of_length_le (by omega), if_pos (by omega)]
 | k + 1, m + 1, i, hi, hm => by
  have hlt : i < t.fields.length := by omega
  rw [Zc2, Zao, decide_eq_true hlt]
  simp only [if_true, Zan hlt, Option.bind_some, hr _ (List.getElem_mem hlt)]
  rw [if_pos (by rw [List.length_take]; omega), if_pos (Zaq (by omega))]
  have e' : t.fields.take i ++ [t.fields[i]] = t.fields.take (i + 1) := by rw [List.take_succ_eq_append_getElem hlt]
  rw [e']
  exact ZkI rec n t hw hs hr e k m (i + 1) (by omega) (by omega)
theorem ZlY (rec : Ty → Option Ty) (n : Nat) (t : Ty) (hw : t.words.length ≤ 1000000000) (hs : t.fields.length ≤ 1000000000 ∧ t.elem.length ≤ 1000000000) (hn : t.fields.length < n) (hr : (∀ x ∈ t.elem, rec x = some x) ∧ ∀ p ∈ t.fields, Zbp rec n p = some p) : ∀ (k m i : Nat), i + k = t.elem.length → k < m → ZdE rec n t m (t.elem.take i) i = some t
 | k, 0, i, _, h => absurd h (Nat.not_lt_zero _)
 | 0, m + 1, i, hi, _ => by
  rw [ZdE, Zao, decide_eq_false (by omega)]
  simp only [Bool.false_eq_true, if_false, Zg5]
  rw [List.take_of_length_le (by omega), if_pos (by omega)]
  have := ZkI rec n t hw hs.1 hr.2 t.elem t.fields.length n 0 (by omega) hn
  rw [List.take_zero] at this
  exact this.trans (by rw [Ty.eta])
 | k + 1, m + 1, i, hi, hm => by
  have hlt : i < t.elem.length := by omega
  rw [ZdE, Zao, decide_eq_true hlt]
  simp only [if_true, Zan hlt, Option.bind_some, hr.1 _ (List.getElem_mem hlt)]
  rw [if_pos (by rw [List.length_take]; omega), if_pos (Zaq (by omega))]
  have e : t.elem.take i ++ [t.elem[i]] = t.elem.take (i + 1) := by rw [List.take_succ_eq_append_getElem hlt]
  rw [e]
  exact ZlY rec n t hw hs hn hr k m (i + 1) (by omega) (by omega)
theorem Zh0 : ∀ (n : Nat) (t : Ty), t.size + 400 < n → t.size ≤ 1000000000 → t.ok → ZcT n t = some t
 | 0, t, h, _, _ => absurd h (Nat.not_lt_zero _)
 | n + 1, t, h, hs, hok => by
  have hl := t.lens
  obtain ⟨o1, o2, o3, o4⟩ := t.ok_eq.1 hok
  rw [ZcT, ZhJ, if_pos (by omega)]
  have := ZlY (ZcT n) n t (by omega) ⟨by omega, by omega⟩ (by omega) ⟨fun x hx => Zh0 n x (by have := t.elem_size x hx; omega) (by have := t.elem_size x hx; omega) (o3 x hx), fun p hp => by
   obtain ⟨_, q2, q3, q4⟩ := o4 p hp
   have := t.field_size p hp
   exact ZtO _ n p (by omega) (by omega) (fun v hv => Zgr n v (by have := (q4 v hv).1; omega) (by have := (q4 v hv).1; omega)) (Zh0 n _ (by omega) (by omega) q2)⟩ t.elem.length n 0 (by omega) (by omega)
  rw [List.take_zero] at this
  exact this
def Zgc (n : Nat)  (x3_k19 : List Ty) : Option ((List Ty)) :=
 some (x3_k19)
def ZiB (n : Nat)  : Option ((List Ty)) :=
 some ([])
def Zc3 (n : Nat) (a0 : Ty) : Nat → (List Ty) → Int → Option ((List Ty))
 | 0, _, _ => none
 | m + 1, x3_l22, x22_l22 =>
  if decide (x22_l22 < ((a0.fields.length : Int))) then
   (idx a0.fields x22_l22).bind fun x28 =>
   if (x3_l22.length + 1) * 104 ≤ 140737488355328 ∧ x3_l22.length + 1 ≤ 4611686018427387904 then
    if I64 (x22_l22 + 1) then
     (Zc3 n a0 m) (x3_l22 ++ ([x28.2.2.2.1])) (x22_l22 + 1)
    else none
   else none
  else
   Zgc n x3_l22
def ZdO (n : Nat) (a0 : Ty) (x12_k10 : Bool) : Option ((List Ty)) :=
 if x12_k10 then
  if 0 ≤ (a0.fields.length : Int) ∧ ((a0.fields.length : Int)) * 104 ≤ 140737488355328 ∧ (a0.fields.length : Int) ≤ 4611686018427387904 then
   Zc3 n a0 n ([]) 0
  else none
 else
  ZiB n 
def Zgu (n : Nat) (a0 : Ty) : Option ((List Ty)) :=
 if decide (a0.kind = 8) then
  some (a0.elem)
 else
  if decide (a0.kind = 9) then
   ZdO n a0 true
  else
   ZdO n a0 (decide (a0.kind = 10))
theorem ZoY (w0 : World) (n : Nat) (B : List (List AV)) (Rw : List RowA) (L : List LoopA) (a0 : Ty) (r : (List Ty)) (h : Zgu n a0 = some r) :
  ACalls Tryz.prog w0 77 [.agg (a0.cs)] ⟨B, Rw, L⟩ fun x st => x = .list (r.map avT) .none ∧ st = ⟨B, Rw, L⟩ := by
 rw [Zgu] at h
 refine hd [.tmp 2] Tryz.func77 Tryz.ntmps77 fun M0 W0 hN hNR hNL hcalm hu hO hs => ?_
 simp only [Zas]
 refine rg [1] hs ?_
 refine Zah (fun e st => Ck e st B Rw L [] [a0.cs] [] (ZiB n  = some r)) ?_ ?_
 ·
  intro K4 hK4
  refine rg [1, 7] hs ?_
  apply Zae
  refine rg [1, 7, 8] hs ?_
  refine cnd h hs (fun hs h => ?_) (fun hs h => ?_)
  ·
   refine rg [2] hs ?_
   exact rt h hs hcalm hO
  refine Zah (fun e st => ∃ (x12_k10 : Bool), Ck e st B Rw L [(1, true, .box B.length 0), (12, true, .val (.bool x12_k10))] [a0.cs] [] (ZdO n a0 x12_k10 = some r)) ?_ ?_
  ·
   intro K11 hK11
   refine rg [1, 7, 12] hs ?_
   refine cnd h hs (fun hs h => ?_) (fun hs h => ?_)
   ·
    refine sk [1, 12] hs hK11 ?_
    exact ⟨true, ([]), Rw, ef hs, ef hs, hO, h⟩
   refine rl [1, 12] hs hK11 ?_
   exact ⟨(decide (a0.kind = 10)), ([]), Rw, ef hs, ef hs, hO, h⟩
  ·
   clear h; rintro e st ⟨x12_k10, Xk10, Rk10, rfl, rfl, hO, h⟩
   rw [ZdO] at h
   refine td hN hNR hNL hcalm hO ?_
   refine cnd h hs (fun hs h => ?_) (fun hs h => ?_)
   ·
    obtain ⟨hg16, h⟩ := Zac h
    have hO := hO.make 7 0
    refine rg [1, 3] hs ?_
    refine Zah (fun e st => ∃ (x3_k19 : List Ty) (ox3_k19 : Ev.Own), Ck e st B Rw L [(3, true, .list (x3_k19.map avT) ox3_k19)] [a0.cs] [(7, x3_k19.length, ox3_k19)] (Zgc n x3_k19 = some r)) ?_ ?_
    ·
     intro K20 hK20
     refine rg [3, 20, 21, 22] hs ?_
     apply Zae
     refine Zai (fun m e st => ∃ (x3_l22 : List Ty) (x22_l22 : Int) (ox3_l22 : Ev.Own), Ck e st B Rw L [(3, true, .list (x3_l22.map avT) ox3_l22), (20, true, .list (a0.fields.map Zek) .none), (21, true, .val (.int .i64 ((a0.fields.length : Int)))), (22, true, .val (.int .i64 x22_l22))] [a0.cs] [(7, x3_l22.length, ox3_l22)] (Zc3 n a0 m x3_l22 x22_l22 = some r)) n ⟨([]), 0, ((.row Rk10.length)), ([]), ((Rk10 ++ [.grow 0 7])), ef hs, ef hs, Owns.of_eq (hO) (by first | rfl | simp only [List.length_append, List.length_cons, List.length_nil, List.length_map, Nat.zero_add, Nat.add_zero]), h⟩ ?_
     rintro ml22 e st ⟨x3_l22, x22_l22, ox3_l22, Xl22, Rl22, rfl, rfl, hO, h⟩ Ul22 Vl22
     cases ml22 with
     | zero => cases h
     | succ ml22 =>
     rw [Zc3] at h
     have hU := hO.unders
     simp only [List.mem_cons, List.not_mem_nil, or_false, forall_eq_or_imp, forall_eq] at hU
     refine td hN hNR hNL hcalm hO ?_
     refine rg [3, 20, 21, 22, 23] hs ?_
     apply Zab; intro K24 hK24
     refine cnd h hs (fun hs h => ?_) (fun hs h => ?_)
     rotate_left
     ·
      refine sx [3] hs hK20 ?_
      exact ⟨x3_l22, ox3_l22, ([]), Rl22, ef hs, ef hs, Owns.of_eq (hO) (by first | rfl | simp only [List.length_append, List.length_cons, List.length_nil, List.length_map, Nat.zero_add, Nat.add_zero]), h⟩
     refine sk [3, 20, 21, 22] hs hK24 ?_
     clear hK24
     apply Zab; intro K26 hK26
     apply Zae
     obtain ⟨x28, hx28, h⟩ := bind_some h
     obtain ⟨hx28a, hx28b, hx28c⟩ := Zar hx28
     have hx28d := Zau (f := Zek) hx28c
     have hs := And.intro hx28d hs
     refine rg [3, 5, 20, 21, 22] hs ?_
     obtain ⟨hg29, h⟩ := Zac h
     obtain ⟨o30, rows31, hO, hap32⟩ := hO.append (P := Tryz.prog) ZtW (by rw [ZnT]; rfl) (by decide) 1 hg29.1 hg29.2
     replace hap32 := fun (ys : List AV) B L o2 => hap32 (x3_l22.map avT) ys B L o2 (by first | rfl | simp only [List.length_map, List.length_nil, List.length_append, List.length_cons, Nat.zero_add])
     replace hap32 := fun (y : AV) B L o2 => hap32 [y] B L o2 (by first | rfl | simp only [List.length_map, List.length_nil, List.length_cons]) ev
     try simp only [List.mem_singleton, List.mem_cons, List.not_mem_nil, or_false, forall_eq_or_imp, forall_eq, List.map_append, List.map_cons, List.map_nil, Zeo, ZeZ, ZeI, ZeW, Ze2, Zen, ZcY, Zc1, ZeL, ZbO, ZbP, Zc5] at hap32
     have hs := And.intro hap32 hs
     refine rl [3, 20, 21, 22] hs hK26 ?_
     clear hK26
     obtain ⟨hg33, h⟩ := Zac h
     refine rl [3, 20, 21, 22] hs (fun e s => Vl22 ml22 e s (Nat.lt_succ_self _)) ?_
     exact ⟨(x3_l22 ++ ([x28.2.2.2.1])), (x22_l22 + 1), o30, ([.val (.int .i64 x28.1) :: (.val (.string x28.2.1) :: (.val (.int .i64 x28.2.2.1) :: ((x28.2.2.2.1.cs) ++ ([.list (x28.2.2.2.2.map avV) .none]))))]), rows31, ef hs, ef hs, Owns.of_eq (hO) (by first | rfl | simp only [List.length_append, List.length_cons, List.length_nil, List.length_map, Nat.zero_add, Nat.add_zero]), h⟩
    ·
     clear h; rintro e st ⟨x3_k19, ox3_k19, Xk19, Rk19, rfl, rfl, hO, h⟩
     rw [Zgc] at h
     have hU := hO.unders
     simp only [List.mem_cons, List.not_mem_nil, or_false, forall_eq_or_imp, forall_eq] at hU
     refine td hN hNR hNL hcalm hO ?_
     refine rg [2] hs ?_
     exact rt h hs hcalm hO
   refine sk [] hs hK4 ?_
   exact ⟨([]), Rk10, ef hs, ef hs, hO, h⟩
 ·
  clear h; rintro e st ⟨Xk3, Rk3, rfl, rfl, hO, h⟩
  rw [ZiB] at h
  refine td hN hNR hNL hcalm hO ?_
  refine rg [2] hs ?_
  exact rt h hs hcalm hO
def Zom (t : Ty) : List Ty := if t.kind = 8 then t.elem else if t.kind = 9 ∨ t.kind = 10 then t.fields.map fun p => p.2.2.2.1 else []
theorem Ztz (n : Nat) (t : Ty) (hs : t.fields.length ≤ 1000000000) : ∀ (k m i : Nat) (x : List Ty), i + k = t.fields.length → k < m → x.length = i → Zc3 n t m x i = some (x ++ (t.fields.drop i).map fun p => p.2.2.2.1)
 | k, 0, i, _, _, h, _ => absurd h (Nat.not_lt_zero _)
 | 0, m + 1, i, x, hi, _, _ => by
  rw [Zc3, Zao, decide_eq_false (by omega)]
  simp only [Bool.false_eq_true, if_false, Zgc]
  rw [List.drop_eq_nil_of_le (by omega), List.map_nil, List.append_nil]
 | k + 1, m + 1, i, x, hi, hm, hx => by
  have hlt : i < t.fields.length := by omega
  rw [Zc3, Zao, decide_eq_true hlt]
  simp only [if_true, Zan hlt, Option.bind_some]
  rw [if_pos (by omega), if_pos (Zaq (by omega))]
  have ih := Ztz n t hs k m (i + 1) (x ++ [t.fields[i].2.2.2.1]) (by omega) (by omega) (by simp [hx])
  rw [List.drop_eq_getElem_cons hlt, List.map_cons]
  rw [List.append_assoc] at ih
  exact ih
theorem Zp8 (n : Nat) (t : Ty) (hn : t.fields.length < n) (hs : t.fields.length ≤ 1000000000) : Zgu n t = some (Zom t) := by
 have h9 : ZdO n t true = some (t.fields.map fun p => p.2.2.2.1) := by
  rw [ZdO, if_pos rfl, if_pos (by omega)]
  have := Ztz n t hs t.fields.length n 0 [] (by omega) hn rfl
  rw [List.drop_zero, List.nil_append] at this
  exact this
 rw [Zgu, Zom]
 by_cases h1 : t.kind = 8
 ·
  rw [if_pos (decide_eq_true h1), if_pos h1]
 rw [if_neg (by rw [decide_eq_true_eq]; exact h1), if_neg h1]
 by_cases h2 : t.kind = 9
 ·
  rw [if_pos (decide_eq_true h2), h9, if_pos (.inl h2)]
 rw [if_neg (by rw [decide_eq_true_eq]; exact h2)]
 by_cases h3 : t.kind = 10
 ·
  rw [decide_eq_true h3, h9, if_pos (.inr h3)]
 ·
  rw [decide_eq_false h3, if_neg (by omega)]; rfl
def Zca (a0 : Int) (a1 : Int) : Int :=
 if decide (a0 < a1) then
  (-1)
 else
  if decide (a1 < a0) then
   1
  else
   0
theorem Zpl (w0 : World) (B : List (List AV)) (Rw : List RowA) (L : List LoopA) (a0 : Int) (a1 : Int) (r : Int) (h : Zca a0 a1 = r) :
  ACalls Tryz.prog w0 111 [.val (.int .i64 a0), .val (.int .i64 a1)] ⟨B, Rw, L⟩ fun x st => x = .val (.int .i64 r) ∧ st = ⟨B, Rw, L⟩ := by
 rw [Zca] at h
 refine hd [.tmp 4] Tryz.func111 Tryz.ntmps111 fun M0 W0 hN hNR hNL hcalm hu hO hs => ?_
 simp only [Zas]
 refine rg [0, 1] hs ?_
 apply Zab; intro K2 hK2
 apply Zae
 refine rg [0, 1, 5] hs ?_
 refine cnd h hs (fun hs h => ?_) (fun hs h => ?_)
 ·
  have hb4 := hs.1
  refine rg [4] hs ?_
  apply Zag; simp +decide only [go_sem, Nat.reduceAdd, hb4]
  subst h
  first | refine ZaD hcalm rfl hO.pre ev ⟨?_, rfl⟩ | refine Za4 hcalm rfl hO.pre ev ⟨?_, rfl⟩
  first | rfl | (simp +decide only [go_sem, Nat.reduceAdd, hb4]; done) | (simp +decide only [go_sem, Nat.reduceAdd, Vl.cs, Ty.cs, hb4]; done)
 have hb4 := hs.1
 refine rg [9] hs ?_
 refine cnd h hs (fun hs h => ?_) (fun hs h => ?_)
 ·
  have hb7 := hs.1
  refine rg [4] hs ?_
  apply Zag; simp +decide only [go_sem, Nat.reduceAdd, hb4, hb7]
  subst h
  first | refine ZaD hcalm rfl hO.pre ev ⟨?_, rfl⟩ | refine Za4 hcalm rfl hO.pre ev ⟨?_, rfl⟩
  first | rfl | (simp +decide only [go_sem, Nat.reduceAdd, hb4, hb7]; done) | (simp +decide only [go_sem, Nat.reduceAdd, Vl.cs, Ty.cs, hb4, hb7]; done)
 have hb7 := hs.1
 refine sk [] hs hK2 ?_
 clear hK2
 refine rg [4] hs ?_
 apply Zag; simp +decide only [go_sem, Nat.reduceAdd, hb4, hb7]
 subst h
 first | refine ZaD hcalm rfl hO.pre ev ⟨?_, rfl⟩ | refine Za4 hcalm rfl hO.pre ev ⟨?_, rfl⟩
 first | rfl | (simp +decide only [go_sem, Nat.reduceAdd, hb4, hb7]; done) | (simp +decide only [go_sem, Nat.reduceAdd, Vl.cs, Ty.cs, hb4, hb7]; done)
theorem ZeX (w0 : World) (B : List (List AV)) (Rw : List RowA) (L : List LoopA) (a0 : Int) (a1 : Int) :
  ACalls Tryz.prog w0 111 [.val (.int .i64 a0), .val (.int .i64 a1)] ⟨B, Rw, L⟩ fun x st => x = .val (.int .i64 (Zca a0 a1)) ∧ st = ⟨B, Rw, L⟩ := Zpl w0 B Rw L a0 a1 _ rfl
def ZdT (rec : Vl → Vl → Option Int) (n : Nat) (a0 : Vl) (a1 : Vl) : Option Int :=
 some (Zca ((a0.fields.length : Int)) ((a1.fields.length : Int)))
def Zcc (rec : Vl → Vl → Option Int) (n : Nat) (a0 : Vl) (a1 : Vl) : Nat → Int → Option Int
 | 0, _ => none
 | m + 1, x8_l46 =>
  if (decide (x8_l46 < ((a0.fields.length : Int)))) && (decide (x8_l46 < ((a1.fields.length : Int)))) then
   (idx a0.fields x8_l46).bind fun x53 =>
   (idx a1.fields x8_l46).bind fun x54 =>
   if x53.1.size ≤ maxLen then
    if x54.1.size ≤ maxLen then
     if !(decide ((Zrq x53.1 x54.1) = 0)) then
      some (Zrq x53.1 x54.1)
     else
      (rec x53.2 x54.2).bind fun y61 =>
      if !(decide (y61 = 0)) then
       some (y61)
      else
       if I64 (x8_l46 + 1) then
        (Zcc rec n a0 a1 m) (x8_l46 + 1)
       else none
    else none
   else none
  else
   ZdT rec n a0 a1 
def ZdU (rec : Vl → Vl → Option Int) (n : Nat) (a0 : Vl) (a1 : Vl) : Option Int :=
 if !(decide (((a0.list.length : Int)) = ((a1.list.length : Int)))) then
  some (Zca ((a0.list.length : Int)) ((a1.list.length : Int)))
 else
  Zcc rec n a0 a1 n 0
def Zcd (rec : Vl → Vl → Option Int) (n : Nat) (a0 : Vl) (a1 : Vl) : Nat → Int → Option Int
 | 0, _ => none
 | m + 1, x6_l25 =>
  if (decide (x6_l25 < ((a0.list.length : Int)))) && (decide (x6_l25 < ((a1.list.length : Int)))) then
   (idx a0.list x6_l25).bind fun x31 =>
   (idx a1.list x6_l25).bind fun x32 =>
   (rec x31 x32).bind fun y33 =>
   if !(decide (y33 = 0)) then
    some (y33)
   else
    if I64 (x6_l25 + 1) then
     (Zcd rec n a0 a1 m) (x6_l25 + 1)
    else none
  else
   ZdU rec n a0 a1 
def Ze6 (rec : Vl → Vl → Option Int) (n : Nat) (a0 : Vl) (a1 : Vl) : Option Int :=
 if !(decide (a0.kind = a1.kind)) then
  some (Zca a0.kind a1.kind)
 else
  if !(decide (a0.int = a1.int)) then
   some (Zca a0.int a1.int)
  else
   if !(decide (a0.scale = a1.scale)) then
    some (Zca a0.scale a1.scale)
   else
    if a0.text.size ≤ maxLen then
     if a1.text.size ≤ maxLen then
      if !(decide ((Zrq a0.text a1.text) = 0)) then
       some (Zrq a0.text a1.text)
      else
       Zcd rec n a0 a1 n 0
     else none
    else none
def Zcp : Nat → Vl → Vl → Option Int
 | 0, _, _ => none
 | n + 1, a0, a1 => Ze6 (Zcp n) n a0 a1
def Zgt (w0 : World) (F : Vl → Vl → Option Int) : Prop := ∀ (B : List (List AV)) (Rw : List RowA) (L : List LoopA) (a0 : Vl) (a1 : Vl) (r : Int), F a0 a1 = some r → ACalls Tryz.prog w0 62 [.agg (a0.cs), .agg (a1.cs)] ⟨B, Rw, L⟩ fun x st => x = .val (.int .i64 r) ∧ st = ⟨B, Rw, L⟩
theorem Zj6 (w0 : World) (rec : Vl → Vl → Option Int) (ih : Zgt w0 rec) (n : Nat) : Zgt w0 (Ze6 rec n) := by
 intro B Rw L a0 a1 r h
 rw [Ze6] at h
 refine hd [.tmp 4] Tryz.func62 Tryz.ntmps62 fun M0 W0 hN hNR hNL hcalm hu hO hs => ?_
 simp only [Zas]
 refine rg [2, 3] hs ?_
 apply Zab; intro K2 hK2
 refine rg [2, 3, 15] hs ?_
 refine cnd h hs (fun hs h => ?_) (fun hs h => ?_)
 ·
  have hb4 := hs.1
  refine rc 2 [4] hs ?_; intro K5 hK5
  refine Zaf _ (ZeX w0 _ _ _ a0.kind a1.kind) (hv hs) ?_
  refine ne hs hK5 ?_
  clear hK5
  exact rt h hs hcalm hO
 have hb4 := hs.1
 refine sk [2, 3] hs hK2 ?_
 clear hK2
 apply Zab; intro K6 hK6
 refine rg [2, 3, 25] hs ?_
 refine cnd h hs (fun hs h => ?_) (fun hs h => ?_)
 ·
  have hb8 := hs.1
  refine rc 2 [4] hs ?_; intro K9 hK9
  refine Zaf _ (ZeX w0 _ _ _ a0.int a1.int) (hv hs) ?_
  refine ne hs hK9 ?_
  clear hK9
  exact rt h hs hcalm hO
 have hb8 := hs.1
 refine sk [2, 3] hs hK6 ?_
 clear hK6
 apply Zab; intro K10 hK10
 refine rg [2, 3, 35] hs ?_
 refine cnd h hs (fun hs h => ?_) (fun hs h => ?_)
 ·
  have hb12 := hs.1
  refine rc 2 [4] hs ?_; intro K13 hK13
  refine Zaf _ (ZeX w0 _ _ _ a0.scale a1.scale) (hv hs) ?_
  refine ne hs hK13 ?_
  clear hK13
  exact rt h hs hcalm hO
 have hb12 := hs.1
 refine sk [2, 3] hs hK10 ?_
 clear hK10
 apply Zab; intro K14 hK14
 obtain ⟨hg16, h⟩ := Zac h
 obtain ⟨hg17, h⟩ := Zac h
 refine rc 2 [2, 3, 5] hs ?_; intro K15 hK15
 refine Zaf _ (ZpF w0 _ _ _ a0.text a1.text hg16 hg17) (hv hs) ?_
 refine ne hs hK15 ?_
 clear hK15
 refine rg [2, 3, 5, 47] hs ?_
 refine cnd h hs (fun hs h => ?_) (fun hs h => ?_)
 ·
  have hb19 := hs.1
  refine rg [4] hs ?_
  exact rt h hs hcalm hO
 have hb19 := hs.1
 refine sk [2, 3] hs hK14 ?_
 clear hK14
 refine Zah (fun e st => Ck e st B Rw L [(2, true, .box B.length 0), (3, true, .box (B.length + 1) 0)] [a0.cs, a1.cs] [] (ZdU rec n a0 a1  = some r)) ?_ ?_
 ·
  intro K23 hK23
  refine rg [2, 3, 6] hs ?_
  apply Zae
  refine Zai (fun m e st => ∃ (x6_l25 : Int), Ck e st B Rw L [(2, true, .box B.length 0), (3, true, .box (B.length + 1) 0), (6, true, .val (.int .i64 x6_l25))] [a0.cs, a1.cs] [] (Zcd rec n a0 a1 m x6_l25 = some r)) n ⟨0, ([]), Rw, ef hs, ef hs, hO, h⟩ ?_
  rintro ml25 e st ⟨x6_l25, Xl25, Rl25, rfl, rfl, hO, h⟩ Ul25 Vl25
  cases ml25 with
  | zero => cases h
  | succ ml25 =>
  rw [Zcd] at h
  refine td hN hNR hNL hcalm hO ?_
  apply Zab; intro K26 hK26
  refine rg [2, 3, 6, 60] hs ?_
  refine cnd h hs (fun hs h => ?_) (fun hs h => ?_)
  rotate_left
  ·
   have hb28 := hs.1
   refine sx [2, 3] hs hK23 ?_
   exact ⟨([]), Rl25, ef hs, ef hs, hO, h⟩
  have hb28 := hs.1
  refine sk [2, 3, 6] hs hK26 ?_
  clear hK26
  apply Zab; intro K29 hK29
  apply Zae
  apply Zab; intro K30 hK30
  obtain ⟨x31, hx31a, hx31b, hx31d, h⟩ := ix avV h
  obtain ⟨x32, hx32a, hx32b, hx32d, h⟩ := ix avV h
  obtain ⟨y33, hy33, h⟩ := bind_some h
  apply Zak mix 12 2 1 [2, 3, 6, 7] (by kernel_rfl)
  rw [Zaa]; simp +decide only [go_sem, Nat.reduceAdd, hb4, hb8, hb12, hb19, hb28, hx31d, hx32d]
  have hs := And.intro hx31d hs
  have hs := And.intro hx32d hs
  (repeat' apply And.intro) <;> first | refine Zaf _ (ih _ _ _ x31 x32 _ hy33) (hv hs) ?_ | exact cl
  rw [Zaa]; simp +decide only [go_sem, Nat.reduceAdd, hb4, hb8, hb12, hb19, hb28, hx31d, hx32d]
  (repeat' with_reducible apply And.intro) <;> first | (rw [Zaa]; simp +decide only [go_sem, Nat.reduceAdd, hb4, hb8, hb12, hb19, hb28, hx31d, hx32d]) | exact cl
  (repeat' apply And.intro) <;> first | refine hK30 _ _ ?_ | exact cl
  clear hK30
  refine rg [2, 3, 6, 7, 75] hs ?_
  refine cnd h hs (fun hs h => ?_) (fun hs h => ?_)
  ·
   refine rg [4] hs ?_
   exact rt h hs hcalm hO
  refine sk [2, 3, 6] hs hK29 ?_
  clear hK29
  obtain ⟨hg37, h⟩ := Zac h
  refine rl [2, 3, 6] hs (fun e s => Vl25 ml25 e s (Nat.lt_succ_self _)) ?_
  exact ⟨(x6_l25 + 1), ([]), Rl25, ef hs, ef hs, hO, h⟩
 ·
  clear h; rintro e st ⟨Xk22, Rk22, rfl, rfl, hO, h⟩
  rw [ZdU] at h
  refine td hN hNR hNL hcalm hO ?_
  apply Zab; intro K38 hK38
  refine rg [2, 3, 83] hs ?_
  refine cnd h hs (fun hs h => ?_) (fun hs h => ?_)
  ·
   have hb40 := hs.1
   refine rc 2 [4] hs ?_; intro K41 hK41
   refine Zaf _ (ZeX w0 _ _ _ ((a0.list.length : Int)) ((a1.list.length : Int))) (hv hs) ?_
   refine ne hs hK41 ?_
   clear hK41
   exact rt h hs hcalm hO
  have hb40 := hs.1
  refine sk [2, 3] hs hK38 ?_
  clear hK38
  refine Zah (fun e st => Ck e st B Rw L [(2, true, .box B.length 0), (3, true, .box (B.length + 1) 0)] [a0.cs, a1.cs] [] (ZdT rec n a0 a1  = some r)) ?_ ?_
  ·
   intro K44 hK44
   refine rg [2, 3, 8] hs ?_
   apply Zae
   refine Zai (fun m e st => ∃ (x8_l46 : Int), Ck e st B Rw L [(2, true, .box B.length 0), (3, true, .box (B.length + 1) 0), (8, true, .val (.int .i64 x8_l46))] [a0.cs, a1.cs] [] (Zcc rec n a0 a1 m x8_l46 = some r)) n ⟨0, ([]), Rk22, ef hs, ef hs, hO, h⟩ ?_
   rintro ml46 e st ⟨x8_l46, Xl46, Rl46, rfl, rfl, hO, h⟩ Ul46 Vl46
   cases ml46 with
   | zero => cases h
   | succ ml46 =>
   rw [Zcc] at h
   refine td hN hNR hNL hcalm hO ?_
   apply Zab; intro K47 hK47
   refine rg [2, 3, 8, 102] hs ?_
   refine cnd h hs (fun hs h => ?_) (fun hs h => ?_)
   rotate_left
   ·
    have hb49 := hs.1
    refine sx [2, 3] hs hK44 ?_
    exact ⟨([]), Rl46, ef hs, ef hs, hO, h⟩
   have hb49 := hs.1
   refine sk [2, 3, 8] hs hK47 ?_
   clear hK47
   apply Zab; intro K50 hK50
   apply Zae
   apply Zab; intro K51 hK51
   apply Zab; intro K52 hK52
   obtain ⟨x53, hx53a, hx53b, hx53d, h⟩ := ix avF h
   obtain ⟨x54, hx54a, hx54b, hx54d, h⟩ := ix avF h
   obtain ⟨hg55, h⟩ := Zac h
   obtain ⟨hg56, h⟩ := Zac h
   apply Zak mix 14 2 1 [2, 3, 8, 9] (by kernel_rfl)
   rw [Zaa]; simp +decide only [go_sem, Nat.reduceAdd, hb4, hb8, hb12, hb19, hb40, hb49, hx53d, hx54d]
   have hs := And.intro hx53d hs
   have hs := And.intro hx54d hs
   (repeat' apply And.intro) <;> first | refine Zaf _ (ZpF w0 _ _ _ x53.1 x54.1 hg55 hg56) (hv hs) ?_ | exact cl
   rw [Zaa]; simp +decide only [go_sem, Nat.reduceAdd, hb4, hb8, hb12, hb19, hb40, hb49, hx53d, hx54d]
   (repeat' with_reducible apply And.intro) <;> first | (rw [Zaa]; simp +decide only [go_sem, Nat.reduceAdd, hb4, hb8, hb12, hb19, hb40, hb49, hx53d, hx54d]) | exact cl
   (repeat' apply And.intro) <;> first | refine hK52 _ _ ?_ | exact cl
   clear hK52
   refine rg [2, 3, 8, 9, 119] hs ?_
   refine cnd h hs (fun hs h => ?_) (fun hs h => ?_)
   ·
    have hb58 := hs.1
    refine rg [4] hs ?_
    exact rt h hs hcalm hO
   have hb58 := hs.1
   refine sk [2, 3, 8] hs hK51 ?_
   clear hK51
   apply Zab; intro K60 hK60
   obtain ⟨y61, hy61, h⟩ := bind_some h
   apply Zak mix 14 2 1 [2, 3, 8, 10] (by kernel_rfl)
   rw [Zaa]; simp +decide only [go_sem, Nat.reduceAdd, hb4, hb8, hb12, hb19, hb40, hb49, hx53d, hx54d, hb58]
   (repeat' apply And.intro) <;> first | refine Zaf _ (ih _ _ _ x53.2 x54.2 _ hy61) (hv hs) ?_ | exact cl
   rw [Zaa]; simp +decide only [go_sem, Nat.reduceAdd, hb4, hb8, hb12, hb19, hb40, hb49, hx53d, hx54d, hb58]
   (repeat' with_reducible apply And.intro) <;> first | (rw [Zaa]; simp +decide only [go_sem, Nat.reduceAdd, hb4, hb8, hb12, hb19, hb40, hb49, hx53d, hx54d, hb58]) | exact cl
   (repeat' apply And.intro) <;> first | refine hK60 _ _ ?_ | exact cl
   clear hK60
   refine rg [2, 3, 8, 10, 135] hs ?_
   refine cnd h hs (fun hs h => ?_) (fun hs h => ?_)
   ·
    refine rg [4] hs ?_
    exact rt h hs hcalm hO
   refine sk [2, 3, 8] hs hK50 ?_
   clear hK50
   obtain ⟨hg65, h⟩ := Zac h
   refine rl [2, 3, 8] hs (fun e s => Vl46 ml46 e s (Nat.lt_succ_self _)) ?_
   exact ⟨(x8_l46 + 1), ([]), Rl46, ef hs, ef hs, hO, h⟩
  ·
   clear h; rintro e st ⟨Xk43, Rk43, rfl, rfl, hO, h⟩
   rw [ZdT] at h
   refine td hN hNR hNL hcalm hO ?_
   refine rc 2 [4] hs ?_; intro K66 hK66
   refine Zaf _ (ZeX w0 _ _ _ ((a0.fields.length : Int)) ((a1.fields.length : Int))) (hv hs) ?_
   refine ne hs hK66 ?_
   clear hK66
   exact rt h hs hcalm hO
theorem Zh7 (w0 : World) : ∀ n : Nat, Zgt w0 (Zcp n)
 | 0 => fun _ _ _ _ _ _ h => (nomatch h)
 | n + 1 => Zj6 w0 (Zcp n) (Zh7 w0 n) n
def Zex (n : Nat) (a0 : Vl) (a1 : Vl) : Option Bool :=
 (Zcp n a0 a1).bind fun y3 =>
 some (decide (y3 = 0))
theorem Zng (w0 : World) (n : Nat) (B : List (List AV)) (Rw : List RowA) (L : List LoopA) (a0 : Vl) (a1 : Vl) (r : Bool) (h : Zex n a0 a1 = some r) :
  ACalls Tryz.prog w0 24 [.agg (a0.cs), .agg (a1.cs)] ⟨B, Rw, L⟩ fun x st => x = .val (.bool r) ∧ st = ⟨B, Rw, L⟩ := by
 rw [Zex] at h
 refine hd [.tmp 4] Tryz.func24 Tryz.ntmps24 fun M0 W0 hN hNR hNL hcalm hu hO hs => ?_
 simp only [Zas]
 refine rg [2, 3] hs ?_
 obtain ⟨y3, hy3, h⟩ := bind_some h
 refine rc 2 [4] hs ?_; intro K2 hK2
 refine Zaf _ (Zh7 w0 n _ _ _ a0 a1 _ hy3) (hv hs) ?_
 refine ne hs hK2 ?_
 clear hK2
 exact rt h hs hcalm hO
def Zd5 (rec : Ty → Ty → Option Bool) (n : Nat) (again_l41 : Int → Option Bool) (x7_l41 : Int) : Option Bool :=
 if I64 (x7_l41 + 1) then
  again_l41 (x7_l41 + 1)
 else none
def Ze7 (rec : Ty → Ty → Option Bool) (n : Nat)  : Option Bool :=
 some (true)
def ZbW (rec : Ty → Ty → Option Bool) (n : Nat) (again_l41 : Int → Option Bool) (x7_l41 : Int) (x49 : Int × ByteArray × Int × Ty × List Vl) (x50 : Int × ByteArray × Int × Ty × List Vl) : Nat → Int → Option Bool
 | 0, _ => none
 | m + 1, x10_l60 =>
  if decide (x10_l60 < ((x49.2.2.2.2.length : Int))) then
   (idx x49.2.2.2.2 x10_l60).bind fun x66 =>
   (idx x50.2.2.2.2 x10_l60).bind fun x67 =>
   (Zex n x66 x67).bind fun y68 =>
   if !y68 then
    some (false)
   else
    if I64 (x10_l60 + 1) then
     (ZbW rec n again_l41 x7_l41 x49 x50 m) (x10_l60 + 1)
    else none
  else
   Zd5 rec n again_l41 x7_l41 
def Zbr (rec : Ty → Ty → Option Bool) (n : Nat) (a0 : Ty) (a1 : Ty) : Nat → Int → Option Bool
 | 0, _ => none
 | m + 1, x7_l41 =>
  if decide (x7_l41 < ((a0.fields.length : Int))) then
   (idx a0.fields x7_l41).bind fun x49 =>
   (idx a1.fields x7_l41).bind fun x50 =>
   if (((!(decide (x49.1 = x50.1))) || (!(sEq x49.2.1 x50.2.1))) || (!(decide (x49.2.2.1 = x50.2.2.1)))) || (!(decide (((x49.2.2.2.2.length : Int)) = ((x50.2.2.2.2.length : Int))))) then
    some (false)
   else
    (rec x49.2.2.2.1 x50.2.2.2.1).bind fun y56 =>
    if !y56 then
     some (false)
    else
     ZbW rec n (Zbr rec n a0 a1 m) x7_l41 x49 x50 n 0
  else
   Ze7 rec n 
def Zee (rec : Ty → Ty → Option Bool) (n : Nat) (a0 : Ty) (a1 : Ty) : Option Bool :=
 Zbr rec n a0 a1 n 0
def Zb0 (rec : Ty → Ty → Option Bool) (n : Nat) (a0 : Ty) (a1 : Ty) : Nat → Int → Option Bool
 | 0, _ => none
 | m + 1, x6_l25 =>
  if decide (x6_l25 < ((a0.elem.length : Int))) then
   (idx a0.elem x6_l25).bind fun x31 =>
   (idx a1.elem x6_l25).bind fun x32 =>
   (rec x31 x32).bind fun y33 =>
   if !y33 then
    some (false)
   else
    if I64 (x6_l25 + 1) then
     (Zb0 rec n a0 a1 m) (x6_l25 + 1)
    else none
  else
   Zee rec n a0 a1 
def ZdC (rec : Ty → Ty → Option Bool) (n : Nat) (a0 : Ty) (a1 : Ty) : Option Bool :=
 Zb0 rec n a0 a1 n 0
def ZbU (rec : Ty → Ty → Option Bool) (n : Nat) (a0 : Ty) (a1 : Ty) : Nat → Int → Option Bool
 | 0, _ => none
 | m + 1, x5_l10 =>
  if decide (x5_l10 < ((a0.words.length : Int))) then
   (idx a0.words x5_l10).bind fun x16 =>
   (idx a1.words x5_l10).bind fun x17 =>
   if !(sEq x16 x17) then
    some (false)
   else
    if I64 (x5_l10 + 1) then
     (ZbU rec n a0 a1 m) (x5_l10 + 1)
    else none
  else
   ZdC rec n a0 a1 
def Zhd (rec : Ty → Ty → Option Bool) (n : Nat) (a0 : Ty) (a1 : Ty) : Option Bool :=
 if ((((((!(decide (a0.kind = a1.kind))) || (!(decide (a0.min = a1.min)))) || (!(decide (a0.max = a1.max)))) || (!(decide (a0.scale = a1.scale)))) || (!(decide (((a0.words.length : Int)) = ((a1.words.length : Int)))))) || (!(decide (((a0.elem.length : Int)) = ((a1.elem.length : Int)))))) || (!(decide (((a0.fields.length : Int)) = ((a1.fields.length : Int))))) then
  some (false)
 else
  ZbU rec n a0 a1 n 0
def Zce : Nat → Ty → Ty → Option Bool
 | 0, _, _ => none
 | n + 1, a0, a1 => Zhd (Zce n) n a0 a1
def ZiQ (w0 : World) (F : Ty → Ty → Option Bool) : Prop := ∀ (B : List (List AV)) (Rw : List RowA) (L : List LoopA) (a0 : Ty) (a1 : Ty) (r : Bool), F a0 a1 = some r → ACalls Tryz.prog w0 30 [.agg (a0.cs), .agg (a1.cs)] ⟨B, Rw, L⟩ fun x st => x = .val (.bool r) ∧ st = ⟨B, Rw, L⟩
theorem ZkW (w0 : World) (rec : Ty → Ty → Option Bool) (ih : ZiQ w0 rec) (n : Nat) : ZiQ w0 (Zhd rec n) := by
 intro B Rw L a0 a1 r h
 rw [Zhd] at h
 refine hd [.tmp 4] Tryz.func30 Tryz.ntmps30 fun M0 W0 hN hNR hNL hcalm hu hO hs => ?_
 simp only [Zas]
 refine rg [2, 3] hs ?_
 apply Zab; intro K2 hK2
 refine rg [2, 3, 63] hs ?_
 refine cnd h hs (fun hs h => ?_) (fun hs h => ?_)
 ·
  have hb4 := hs.1
  refine rg [4] hs ?_
  exact rt h hs hcalm hO
 have hb4 := hs.1
 refine sk [2, 3] hs hK2 ?_
 clear hK2
 refine Zah (fun e st => Ck e st B Rw L [(2, true, .box B.length 0), (3, true, .box (B.length + 1) 0)] [a0.cs, a1.cs] [] (ZdC rec n a0 a1  = some r)) ?_ ?_
 ·
  intro K8 hK8
  refine rg [2, 3, 5] hs ?_
  apply Zae
  refine Zai (fun m e st => ∃ (x5_l10 : Int), Ck e st B Rw L [(2, true, .box B.length 0), (3, true, .box (B.length + 1) 0), (5, true, .val (.int .i64 x5_l10))] [a0.cs, a1.cs] [] (ZbU rec n a0 a1 m x5_l10 = some r)) n ⟨0, ([]), Rw, ef hs, ef hs, hO, h⟩ ?_
  rintro ml10 e st ⟨x5_l10, Xl10, Rl10, rfl, rfl, hO, h⟩ Ul10 Vl10
  cases ml10 with
  | zero => cases h
  | succ ml10 =>
  rw [ZbU] at h
  refine td hN hNR hNL hcalm hO ?_
  apply Zab; intro K11 hK11
  refine rg [2, 3, 5, 68] hs ?_
  refine cnd h hs (fun hs h => ?_) (fun hs h => ?_)
  rotate_left
  ·
   refine sx [2, 3] hs hK8 ?_
   exact ⟨([]), Rl10, ef hs, ef hs, hO, h⟩
  refine sk [2, 3, 5] hs hK11 ?_
  clear hK11
  apply Zab; intro K14 hK14
  apply Zae
  obtain ⟨x16, hx16, h⟩ := bind_some h
  obtain ⟨hx16a, hx16b, hx16c⟩ := Zar hx16
  have hx16d := Zau (f := avS) hx16c
  obtain ⟨x17, hx17, h⟩ := bind_some h
  obtain ⟨hx17a, hx17b, hx17c⟩ := Zar hx17
  have hx17d := Zau (f := avS) hx17c
  have hs := And.intro hx16d hs
  have hs := And.intro hx17d hs
  refine dg 11 1 1 [2, 3, 5, 81] hs mix ?_
  refine cnd h hs (fun hs h => ?_) (fun hs h => ?_)
  ·
   refine rg [4] hs ?_
   exact rt h hs hcalm hO
  refine sk [2, 3, 5] hs hK14 ?_
  clear hK14
  obtain ⟨hg20, h⟩ := Zac h
  refine rl [2, 3, 5] hs (fun e s => Vl10 ml10 e s (Nat.lt_succ_self _)) ?_
  exact ⟨(x5_l10 + 1), ([]), Rl10, ef hs, ef hs, hO, h⟩
 ·
  clear h; rintro e st ⟨Xk7, Rk7, rfl, rfl, hO, h⟩
  rw [ZdC] at h
  refine td hN hNR hNL hcalm hO ?_
  refine Zah (fun e st => Ck e st B Rw L [(2, true, .box B.length 0), (3, true, .box (B.length + 1) 0)] [a0.cs, a1.cs] [] (Zee rec n a0 a1  = some r)) ?_ ?_
  ·
   intro K23 hK23
   refine rg [2, 3, 6] hs ?_
   apply Zae
   refine Zai (fun m e st => ∃ (x6_l25 : Int), Ck e st B Rw L [(2, true, .box B.length 0), (3, true, .box (B.length + 1) 0), (6, true, .val (.int .i64 x6_l25))] [a0.cs, a1.cs] [] (Zb0 rec n a0 a1 m x6_l25 = some r)) n ⟨0, ([]), Rk7, ef hs, ef hs, hO, h⟩ ?_
   rintro ml25 e st ⟨x6_l25, Xl25, Rl25, rfl, rfl, hO, h⟩ Ul25 Vl25
   cases ml25 with
   | zero => cases h
   | succ ml25 =>
   rw [Zb0] at h
   refine td hN hNR hNL hcalm hO ?_
   apply Zab; intro K26 hK26
   refine rg [2, 3, 6, 86] hs ?_
   refine cnd h hs (fun hs h => ?_) (fun hs h => ?_)
   rotate_left
   ·
    have hb28 := hs.1
    refine sx [2, 3] hs hK23 ?_
    exact ⟨([]), Rl25, ef hs, ef hs, hO, h⟩
   have hb28 := hs.1
   refine sk [2, 3, 6] hs hK26 ?_
   clear hK26
   apply Zab; intro K29 hK29
   apply Zae
   apply Zab; intro K30 hK30
   obtain ⟨x31, hx31a, hx31b, hx31d, h⟩ := ix avT h
   obtain ⟨x32, hx32a, hx32b, hx32d, h⟩ := ix avT h
   obtain ⟨y33, hy33, h⟩ := bind_some h
   apply Zak mix 12 2 1 [2, 3, 6, 100] (by kernel_rfl)
   rw [Zaa]; simp +decide only [go_sem, Nat.reduceAdd, hb4, hb28, hx31d, hx32d]
   have hs := And.intro hx31d hs
   have hs := And.intro hx32d hs
   (repeat' apply And.intro) <;> first | refine Zaf _ (ih _ _ _ x31 x32 _ hy33) (hv hs) ?_ | exact cl
   rw [Zaa]; simp +decide only [go_sem, Nat.reduceAdd, hb4, hb28, hx31d, hx32d]
   (repeat' with_reducible apply And.intro) <;> first | (rw [Zaa]; simp +decide only [go_sem, Nat.reduceAdd, hb4, hb28, hx31d, hx32d]) | exact cl
   (repeat' apply And.intro) <;> first | refine hK30 _ _ ?_ | exact cl
   clear hK30
   refine cnd h hs (fun hs h => ?_) (fun hs h => ?_)
   ·
    refine rg [4] hs ?_
    exact rt h hs hcalm hO
   refine sk [2, 3, 6] hs hK29 ?_
   clear hK29
   obtain ⟨hg36, h⟩ := Zac h
   refine rl [2, 3, 6] hs (fun e s => Vl25 ml25 e s (Nat.lt_succ_self _)) ?_
   exact ⟨(x6_l25 + 1), ([]), Rl25, ef hs, ef hs, hO, h⟩
  ·
   clear h; rintro e st ⟨Xk22, Rk22, rfl, rfl, hO, h⟩
   rw [Zee] at h
   refine td hN hNR hNL hcalm hO ?_
   refine Zah (fun e st => Ck e st B Rw L [] [a0.cs, a1.cs] [] (Ze7 rec n  = some r)) ?_ ?_
   ·
    intro K39 hK39
    refine rg [2, 3, 7] hs ?_
    apply Zae
    refine Zai (fun m e st => ∃ (x7_l41 : Int), Ck e st B Rw L [(2, true, .box B.length 0), (3, true, .box (B.length + 1) 0), (7, true, .val (.int .i64 x7_l41))] [a0.cs, a1.cs] [] (Zbr rec n a0 a1 m x7_l41 = some r)) n ⟨0, ([]), Rk22, ef hs, ef hs, hO, h⟩ ?_
    rintro ml41 e st ⟨x7_l41, Xl41, Rl41, rfl, rfl, hO, h⟩ Ul41 Vl41
    cases ml41 with
    | zero => cases h
    | succ ml41 =>
    rw [Zbr] at h
    refine td hN hNR hNL hcalm hO ?_
    apply Zab; intro K42 hK42
    refine rg [2, 3, 7, 105] hs ?_
    refine cnd h hs (fun hs h => ?_) (fun hs h => ?_)
    rotate_left
    ·
     have hb44 := hs.1
     refine sx [] hs hK39 ?_
     exact ⟨([]), Rl41, ef hs, ef hs, hO, h⟩
    have hb44 := hs.1
    refine sk [2, 3, 7] hs hK42 ?_
    clear hK42
    refine Zah (fun e st => Ck e st B Rw L [(2, true, .box B.length 0), (3, true, .box (B.length + 1) 0), (7, true, .val (.int .i64 x7_l41))] [a0.cs, a1.cs] [] (Zd5 rec n (Zbr rec n a0 a1 ml41) x7_l41  = some r)) ?_ ?_
    ·
     intro K47 hK47
     apply Zae
     apply Zab; intro K48 hK48
     obtain ⟨x49, hx49a, hx49b, hx49d, h⟩ := ix Zek h
     obtain ⟨x50, hx50a, hx50b, hx50d, h⟩ := ix Zek h
     apply Zhu mix [10, 11, 12, 13] [2, 3, 7, 8, 9] (by kernel_rfl) (fun s => ∃ (X : List (List AV)) (rows : List RowA), s = ⟨B ++ ([a0.cs, a1.cs] ++ X), rows, L⟩) 5 (B.length + 2)
     ·
      simp +decide only [go_sem, Nat.reduceAdd]
     ·
      rintro s ⟨X, rows, rfl⟩
      refine ⟨1, ?_⟩
      rw [Zaa]; simp +decide only [go_sem, Nat.reduceAdd, Zfp, hb4, hb44, hx49d, hx50d]
      (repeat' apply And.intro) <;> first | rfl | exact cl
     ·
      refine Good.mk [10, 11] (by kernel_rfl) ⟨[], _, by first | rfl | simp only [List.append_nil, List.nil_append]⟩ ?_ ?_
      ·
       intro h; exact absurd h (by decide)
      ·
       intro i hi; simp only [List.mem_cons, List.not_mem_nil, or_false] at hi
       rcases hi with rfl | rfl
       ·
        apply Zby rfl rfl ev
        ·
         simp +decide only [go_sem, Nat.reduceAdd, ZcR, hb4, hb44, hx49d, hx50d]
         (repeat' apply And.intro) <;> first | rfl | exact cl
        ·
         simp +decide only [go_sem, Nat.reduceAdd, hb4, hb44, hx49d, hx50d]
         refine Good.mk [11] (by kernel_rfl) ⟨_, _, by first | rfl | simp only [List.append_nil, List.nil_append]⟩ ?_ ?_
         ·
          intro h; exact absurd h (by decide)
         ·
          intro i hi; simp only [List.mem_cons, List.not_mem_nil, or_false] at hi
          subst hi
          ·
           apply Zby rfl rfl ev
           ·
            simp +decide only [go_sem, Nat.reduceAdd, ZcR, hb4, hb44, hx49d, hx50d]
            (repeat' apply And.intro) <;> first | rfl | exact cl
           ·
            simp +decide only [go_sem, Nat.reduceAdd, hb4, hb44, hx49d, hx50d]
            refine Good.mk [12] (by kernel_rfl) ⟨_, _, by first | rfl | simp only [List.append_nil, List.nil_append]⟩ ?_ ?_
            ·
             intro h; exact absurd h (by decide)
            ·
             intro i hi; simp only [List.mem_cons, List.not_mem_nil, or_false] at hi
             subst hi
             ·
              apply Zby rfl rfl ev
              ·
               simp +decide only [go_sem, Nat.reduceAdd, ZcR, hb4, hb44, hx49d, hx50d]
               (repeat' apply And.intro) <;> first | rfl | exact cl
              ·
               simp +decide only [go_sem, Nat.reduceAdd, hb4, hb44, hx49d, hx50d]
               refine Good.mk [13] (by kernel_rfl) ⟨_, _, by first | rfl | simp only [List.append_nil, List.nil_append]⟩ ?_ ?_
               ·
                intro h; exact absurd h (by decide)
               ·
                intro i hi; simp only [List.mem_cons, List.not_mem_nil, or_false] at hi
                subst hi
                ·
                 apply Zby rfl rfl ev
                 ·
                  simp +decide only [go_sem, Nat.reduceAdd, ZcR, hb4, hb44, hx49d, hx50d]
                  (repeat' apply And.intro) <;> first | rfl | exact cl
                 ·
                  simp +decide only [go_sem, Nat.reduceAdd, hb4, hb44, hx49d, hx50d]
                  refine Good.mk [] (by kernel_rfl) ⟨_, _, by first | rfl | simp only [List.append_nil, List.nil_append]⟩ ?_ ?_
                  ·
                   intro _; apply ZeN [2, 3, 7, 8, 9]; first | (simp +decide only [go_sem, Nat.reduceAdd, hb4, hb44, hx49d, hx50d]; done) | (simp +decide only [go_sem, Nat.reduceAdd, hb4, hb44, hx49d, hx50d]; rfl)
                  ·
                   intro i hi; cases hi
       ·
        apply Zby rfl rfl ev
        ·
         simp +decide only [go_sem, Nat.reduceAdd, ZcR, hb4, hb44, hx49d, hx50d]
         (repeat' apply And.intro) <;> first | rfl | exact cl
        ·
         simp +decide only [go_sem, Nat.reduceAdd, hb4, hb44, hx49d, hx50d]
         refine Good.mk [10] (by kernel_rfl) ⟨_, _, by first | rfl | simp only [List.append_nil, List.nil_append]⟩ ?_ ?_
         ·
          intro h; exact absurd h (by decide)
         ·
          intro i hi; simp only [List.mem_cons, List.not_mem_nil, or_false] at hi
          subst hi
          ·
           apply Zby rfl rfl ev
           ·
            simp +decide only [go_sem, Nat.reduceAdd, ZcR, hb4, hb44, hx49d, hx50d]
            (repeat' apply And.intro) <;> first | rfl | exact cl
           ·
            simp +decide only [go_sem, Nat.reduceAdd, hb4, hb44, hx49d, hx50d]
            refine Good.mk [12] (by kernel_rfl) ⟨_, _, by first | rfl | simp only [List.append_nil, List.nil_append]⟩ ?_ ?_
            ·
             intro h; exact absurd h (by decide)
            ·
             intro i hi; simp only [List.mem_cons, List.not_mem_nil, or_false] at hi
             subst hi
             ·
              apply Zby rfl rfl ev
              ·
               simp +decide only [go_sem, Nat.reduceAdd, ZcR, hb4, hb44, hx49d, hx50d]
               (repeat' apply And.intro) <;> first | rfl | exact cl
              ·
               simp +decide only [go_sem, Nat.reduceAdd, hb4, hb44, hx49d, hx50d]
               refine Good.mk [13] (by kernel_rfl) ⟨_, _, by first | rfl | simp only [List.append_nil, List.nil_append]⟩ ?_ ?_
               ·
                intro h; exact absurd h (by decide)
               ·
                intro i hi; simp only [List.mem_cons, List.not_mem_nil, or_false] at hi
                subst hi
                ·
                 apply Zby rfl rfl ev
                 ·
                  simp +decide only [go_sem, Nat.reduceAdd, ZcR, hb4, hb44, hx49d, hx50d]
                  (repeat' apply And.intro) <;> first | rfl | exact cl
                 ·
                  simp +decide only [go_sem, Nat.reduceAdd, hb4, hb44, hx49d, hx50d]
                  refine Good.mk [] (by kernel_rfl) ⟨_, _, by first | rfl | simp only [List.append_nil, List.nil_append]⟩ ?_ ?_
                  ·
                   intro _; refine ZoQ (own := [a0.cs, a1.cs]) rfl (Zsi rfl hcalm hO (by (simp +decide only [go_sem, Nat.reduceAdd]) <;> (try (repeat' apply And.intro)) <;> first | omega | assumption)) (by (simp +decide only [go_sem, Nat.reduceAdd]) <;> (try (repeat' apply And.intro)) <;> first | omega | assumption) (by (simp +decide only [go_sem, Nat.reduceAdd]) <;> (try (repeat' apply And.intro)) <;> first | omega | assumption) ?_
                   refine Ze1 (by first | exact .inl ⟨rfl, rfl, rfl⟩ | exact .inr (.inl ⟨rfl, rfl, rfl⟩) | (refine .inr (.inr ⟨rfl, ?_⟩); (simp +decide only [go_sem, Nat.reduceAdd]) <;> (try (repeat' apply And.intro)) <;> first | omega | assumption)) ?_
                   refine Ze1 (by first | exact .inl ⟨rfl, rfl, rfl⟩ | exact .inr (.inl ⟨rfl, rfl, rfl⟩) | (refine .inr (.inr ⟨rfl, ?_⟩); (simp +decide only [go_sem, Nat.reduceAdd]) <;> (try (repeat' apply And.intro)) <;> first | omega | assumption)) ?_
                   refine Ze1 (by first | exact .inl ⟨rfl, rfl, rfl⟩ | exact .inr (.inl ⟨rfl, rfl, rfl⟩) | (refine .inr (.inr ⟨rfl, ?_⟩); (simp +decide only [go_sem, Nat.reduceAdd]) <;> (try (repeat' apply And.intro)) <;> first | omega | assumption)) ?_
                   refine Ze1 (by first | exact .inl ⟨rfl, rfl, rfl⟩ | exact .inr (.inl ⟨rfl, rfl, rfl⟩) | (refine .inr (.inr ⟨rfl, ?_⟩); (simp +decide only [go_sem, Nat.reduceAdd]) <;> (try (repeat' apply And.intro)) <;> first | omega | assumption)) ?_
                   refine Ze1 (by first | exact .inl ⟨rfl, rfl, rfl⟩ | exact .inr (.inl ⟨rfl, rfl, rfl⟩) | (refine .inr (.inr ⟨rfl, ?_⟩); (simp +decide only [go_sem, Nat.reduceAdd]) <;> (try (repeat' apply And.intro)) <;> first | omega | assumption)) ?_
                   exact trivial
                  ·
                   intro i hi; cases hi
     simp +decide only [go_sem, Nat.reduceAdd, hb4, hb44, hx49d, hx50d]
     (repeat' apply And.intro) <;> first | refine hK48 _ _ ?_ | exact cl
     clear hK48
     apply Zab; intro K51 hK51
     apply Zab; intro K52 hK52
     rcases Bool.eq_false_or_eq_true ((((!(decide (x49.1 = x50.1))) || (!(sEq x49.2.1 x50.2.1))) || (!(decide (x49.2.2.1 = x50.2.2.1)))) || (!(decide (((x49.2.2.2.2.length : Int)) = ((x50.2.2.2.2.length : Int)))))) with hf53 | hf53
     ·
      replace h := ZaN h hf53
      apply Zad 2 [2, 3, 7, 8, 9, 153]
      rw [Zaa]; simp +decide only [go_sem, Nat.reduceAdd, hb4, hb44, hx49d, hx50d, hf53]
      (repeat' apply And.intro) <;> first | refine ZaE ?_ | exact cl
      rw [Zaa]; simp +decide only [go_sem, Nat.reduceAdd, hb4, hb44, hx49d, hx50d, hf53]
      (repeat' apply And.intro) <;> first | refine hK52 _ _ ?_ | exact cl
      clear hK52
      have hs := And.intro hx49d hs
      have hs := And.intro hx50d hs
      have hs := And.intro hf53 hs
      refine Zap true ev (ef hs) (fun hb54 => ?_) (fun hb54 => by cases hb54)
      refine rg [4] hs ?_
      exact rt h hs hcalm hO
     ·
      replace h := ZaM h hf53
      obtain ⟨y56, hy56, h⟩ := bind_some h
      have hs := And.intro hx49d hs
      have hs := And.intro hx50d hs
      have hs := And.intro hf53 hs
      refine rk 2 [2, 3, 7, 8, 9, 153] hs ?_
      refine Zaf _ (ih _ _ _ x49.2.2.2.1 x50.2.2.2.1 _ hy56) (hv hs) ?_
      refine ne hs hK52 ?_
      clear hK52
      refine cnd h hs (fun hs h => ?_) (fun hs h => ?_)
      ·
       have hb57 := hs.1
       refine rg [4] hs ?_
       exact rt h hs hcalm hO
      have hb57 := hs.1
      refine sk [2, 3, 7, 8, 9] hs hK51 ?_
      clear hK51
      refine rg [2, 3, 7, 8, 9, 10] hs ?_
      apply Zae
      refine Zai (fun m e st => ∃ (x10_l60 : Int), Ck e st B Rw L [(2, true, .box B.length 0), (3, true, .box (B.length + 1) 0), (7, true, .val (.int .i64 x7_l41)), (8, true, .box (B.length + 2) 0), (9, true, .box (B.length + 3) 0), (10, true, .val (.int .i64 x10_l60))] [a0.cs, a1.cs, .val (.int .i64 x49.1) :: (.val (.string x49.2.1) :: (.val (.int .i64 x49.2.2.1) :: ((x49.2.2.2.1.cs) ++ ([.list (x49.2.2.2.2.map avV) .none])))), .val (.int .i64 x50.1) :: (.val (.string x50.2.1) :: (.val (.int .i64 x50.2.2.1) :: ((x50.2.2.2.1.cs) ++ ([.list (x50.2.2.2.2.map avV) .none]))))] [] (ZbW rec n (Zbr rec n a0 a1 ml41) x7_l41 x49 x50 m x10_l60 = some r)) n ⟨0, ([]), Rl41, ef hs, ef hs, hO, h⟩ ?_
      rintro ml60 e st ⟨x10_l60, Xl60, Rl60, rfl, rfl, hO, h⟩ Ul60 Vl60
      cases ml60 with
      | zero => cases h
      | succ ml60 =>
      rw [ZbW] at h
      refine td hN hNR hNL hcalm hO ?_
      apply Zab; intro K61 hK61
      refine rg [2, 3, 7, 8, 9, 10, 158] hs ?_
      refine cnd h hs (fun hs h => ?_) (fun hs h => ?_)
      rotate_left
      ·
       have hb63 := hs.1
       refine sx [2, 3, 7] hs hK47 ?_
       exact ⟨([.val (.int .i64 x49.1) :: (.val (.string x49.2.1) :: (.val (.int .i64 x49.2.2.1) :: ((x49.2.2.2.1.cs) ++ ([.list (x49.2.2.2.2.map avV) .none])))), .val (.int .i64 x50.1) :: (.val (.string x50.2.1) :: (.val (.int .i64 x50.2.2.1) :: ((x50.2.2.2.1.cs) ++ ([.list (x50.2.2.2.2.map avV) .none]))))]), Rl60, ef hs, ef hs, hO, h⟩
      have hb63 := hs.1
      refine sk [2, 3, 7, 8, 9, 10] hs hK61 ?_
      clear hK61
      apply Zab; intro K64 hK64
      apply Zae
      apply Zab; intro K65 hK65
      obtain ⟨x66, hx66a, hx66b, hx66d, h⟩ := ix avV h
      obtain ⟨x67, hx67a, hx67b, hx67d, h⟩ := ix avV h
      obtain ⟨y68, hy68, h⟩ := bind_some h
      apply Zak mix 12 2 1 [2, 3, 7, 8, 9, 10, 172] (by kernel_rfl)
      rw [Zaa]; simp +decide only [go_sem, Nat.reduceAdd, hb4, hb44, hx49d, hx50d, hf53, hb57, hb63, hx66d, hx67d]
      have hs := And.intro hx66d hs
      have hs := And.intro hx67d hs
      (repeat' apply And.intro) <;> first | refine Zaf _ (Zng w0 n _ _ _ x66 x67 _ hy68) (hv hs) ?_ | exact cl
      rw [Zaa]; simp +decide only [go_sem, Nat.reduceAdd, hb4, hb44, hx49d, hx50d, hf53, hb57, hb63, hx66d, hx67d]
      (repeat' with_reducible apply And.intro) <;> first | (rw [Zaa]; simp +decide only [go_sem, Nat.reduceAdd, hb4, hb44, hx49d, hx50d, hf53, hb57, hb63, hx66d, hx67d]) | exact cl
      (repeat' apply And.intro) <;> first | refine hK65 _ _ ?_ | exact cl
      clear hK65
      refine cnd h hs (fun hs h => ?_) (fun hs h => ?_)
      ·
       refine rg [4] hs ?_
       exact rt h hs hcalm hO
      refine sk [2, 3, 7, 8, 9, 10] hs hK64 ?_
      clear hK64
      obtain ⟨hg71, h⟩ := Zac h
      refine rl [2, 3, 7, 8, 9, 10] hs (fun e s => Vl60 ml60 e s (Nat.lt_succ_self _)) ?_
      exact ⟨(x10_l60 + 1), ([]), Rl60, ef hs, ef hs, hO, h⟩
    ·
     clear h; rintro e st ⟨Xk46, Rk46, rfl, rfl, hO, h⟩
     rw [Zd5] at h
     refine td hN hNR hNL hcalm hO ?_
     obtain ⟨hg72, h⟩ := Zac h
     refine rl [2, 3, 7] hs (fun e s => Vl41 ml41 e s (Nat.lt_succ_self _)) ?_
     exact ⟨(x7_l41 + 1), ([]), Rk46, ef hs, ef hs, hO, h⟩
   ·
    clear h; rintro e st ⟨Xk38, Rk38, rfl, rfl, hO, h⟩
    rw [Ze7] at h
    refine td hN hNR hNL hcalm hO ?_
    refine rg [4] hs ?_
    exact rt h hs hcalm hO
theorem Zjw (w0 : World) : ∀ n : Nat, ZiQ w0 (Zce n)
 | 0 => fun _ _ _ _ _ _ h => (nomatch h)
 | n + 1 => ZkW w0 (Zce n) (Zjw w0 n) n
theorem ZtB {a b : ByteArray} (h : a.data.toList = b.data.toList) : a = b := by
 cases a; cases b; simp at h; rw [h]
theorem ZqM : ∀ a b : List UInt8, Lib.compareBytes a b = 0 → a = b
 | [], [], _ => rfl
 | [], _ :: _, h => absurd (show (-1 : Int) = 0 from h) (by decide)
 | _ :: _, [], h => absurd (show (1 : Int) = 0 from h) (by decide)
 | x :: a, y :: b, h => by
  simp only [Lib.compareBytes] at h
  by_cases h1 : x < y
  ·
   simp [h1] at h
  ·
   by_cases h2 : y < x
   ·
    simp [h1, h2] at h
   ·
    simp only [h1, h2, if_false] at h
    rw [ZqM a b h]
    have : x = y := by
     rw [UInt8.lt_iff_toNat_lt] at h1 h2
     exact UInt8.toNat_inj.1 (by omega)
    rw [this]
theorem ZhO (a b : ByteArray) : Zrq a b = 0 ↔ a = b := by
 unfold Zrq
 constructor
 ·
  intro h; exact ZtB (ZqM _ _ h)
 ·
  rintro rfl; exact ZnH _
theorem ZjU (x y : ByteArray) : sEq x y = true ↔ x = y := by
 unfold sEq
 rw [beq_iff_eq]
 exact ⟨ZtB, fun h => by rw [h]⟩
theorem Zot (x : ByteArray) : sEq x x = true := (ZjU x x).2 rfl
theorem ZjK {a b : Int} (h : a ≠ b) : Zca a b ≠ 0 := by
 unfold Zca
 by_cases h1 : a < b
 ·
  simp [h1]
 ·
  by_cases h2 : b < a
  ·
   simp [h1, h2]
  ·
   omega
theorem Zqy (a : Int) : Zca a a = 0 := by simp [Zca]
theorem Zdz {α : Type} (l m : List α) (i : Nat) (h1 : i < l.length) (h2 : i < m.length) : l.drop i = m.drop i ↔ l[i] = m[i] ∧ l.drop (i + 1) = m.drop (i + 1) := by
 rw [List.drop_eq_getElem_cons h1, List.drop_eq_getElem_cons h2, List.cons.injEq]
theorem Zhm {n : Nat} (h : n ≤ 2000) : n ≤ maxLen := by unfold maxLen; omega
theorem Zql (rec : Vl → Vl → Option Int) (n : Nat) (a b : Vl) (hl : a.fields.length ≤ 1000000000) (ha : a.ok) (hb : b.ok)
  (hr : ∀ p ∈ a.fields, ∀ q ∈ b.fields, ∃ c, rec p.2 q.2 = some c ∧ (c = 0 ↔ p.2 = q.2)) : ∀ (k m i : Nat), i + k = a.fields.length → k < m → ∃ c, Zcc rec n a b m i = some c ∧ (c = 0 → a.fields.drop i = b.fields.drop i) ∧ (a.fields.drop i = b.fields.drop i → a.fields.length = b.fields.length → c = 0)
 | k, 0, i, _, h => absurd h (Nat.not_lt_zero _)
 | k, m + 1, i, hi, hm => by
  rw [Zcc, Zao, Zao]
  by_cases h1 : i < a.fields.length ∧ i < b.fields.length
  ·
   obtain ⟨h1, h2⟩ := h1
   rw [decide_eq_true h1, decide_eq_true h2]
   simp only [Bool.and_self, if_true, Zan h1, Zan h2, Option.bind_some]
   have n1 := ((a.ok_eq.1 ha).2.2 _ (List.getElem_mem h1)).1
   have n2 := ((b.ok_eq.1 hb).2.2 _ (List.getElem_mem h2)).1
   rw [if_pos (Zhm (by omega)), if_pos (Zhm (by omega)), Zdz _ _ i h1 h2]
   by_cases hc : Zrq a.fields[i].1 b.fields[i].1 = 0
   ·
    rw [decide_eq_true hc]
    simp only [Bool.not_true, Bool.false_eq_true, if_false]
    obtain ⟨c, e, hce⟩ := hr _ (List.getElem_mem h1) _ (List.getElem_mem h2)
    rw [e]
    simp only [Option.bind_some]
    by_cases hc0 : c = 0
    ·
     rw [decide_eq_true hc0]
     simp only [Bool.not_true, Bool.false_eq_true, if_false]
     rw [if_pos (Zaq (by omega))]
     cases k with
     | zero => omega
     | succ k =>
     obtain ⟨c2, e2, q1, q2⟩ := Zql rec n a b hl ha hb hr k m (i + 1) (by omega) (by omega)
     have e3 : a.fields[i] = b.fields[i] := Prod.ext ((ZhO _ _).1 hc) (hce.1 hc0)
     exact ⟨c2, e2, fun h => ⟨e3, q1 h⟩, fun h1 h2 => q2 h1.2 h2⟩
    ·
     rw [decide_eq_false hc0]
     simp only [Bool.not_false, if_true]
     exact ⟨c, rfl, fun h => absurd h hc0, fun h _ => hce.2 (by rw [h.1])⟩
   ·
    rw [decide_eq_false hc]
    simp only [Bool.not_false, if_true]
    exact ⟨_, rfl, fun h => absurd h hc, fun h _ => (ZhO _ _).2 (by rw [h.1])⟩
  ·
   have e : (decide (i < a.fields.length) && decide (i < b.fields.length)) = false := by
    rw [Bool.and_eq_false_iff, decide_eq_false_iff_not, decide_eq_false_iff_not]; omega
   rw [e]
   simp only [Bool.false_eq_true, if_false, ZdT]
   refine ⟨_, rfl, fun h => ?_, fun h h2 => ?_⟩
   ·
    by_cases hlen : a.fields.length = b.fields.length
    ·
     rw [List.drop_eq_nil_of_le (by omega), List.drop_eq_nil_of_le (by omega)]
    ·
     exact absurd h (ZjK (by omega))
   ·
    rw [h2]; exact Zqy _
theorem Zq5 (rec : Vl → Vl → Option Int) (n : Nat) (a b : Vl) (hl : a.fields.length ≤ 1000000000 ∧ a.list.length ≤ 1000000000) (hn : a.fields.length < n) (ha : a.ok) (hb : b.ok)
  (hr : (∀ p ∈ a.list, ∀ q ∈ b.list, ∃ c, rec p q = some c ∧ (c = 0 ↔ p = q)) ∧ ∀ p ∈ a.fields, ∀ q ∈ b.fields, ∃ c, rec p.2 q.2 = some c ∧ (c = 0 ↔ p.2 = q.2)) : ∀ (k m i : Nat), i + k = a.list.length → k < m →
  ∃ c, Zcd rec n a b m i = some c ∧ (c = 0 → a.list.drop i = b.list.drop i ∧ a.fields = b.fields) ∧ (a.list.drop i = b.list.drop i → a.list.length = b.list.length → a.fields = b.fields → c = 0)
 | k, 0, i, _, h => absurd h (Nat.not_lt_zero _)
 | k, m + 1, i, hi, hm => by
  rw [Zcd, Zao, Zao]
  by_cases h1 : i < a.list.length ∧ i < b.list.length
  ·
   obtain ⟨h1, h2⟩ := h1
   rw [decide_eq_true h1, decide_eq_true h2]
   simp only [Bool.and_self, if_true, Zan h1, Zan h2, Option.bind_some]
   rw [Zdz _ _ i h1 h2]
   obtain ⟨c, e, hce⟩ := hr.1 _ (List.getElem_mem h1) _ (List.getElem_mem h2)
   rw [e]
   simp only [Option.bind_some]
   by_cases hc0 : c = 0
   ·
    rw [decide_eq_true hc0]
    simp only [Bool.not_true, Bool.false_eq_true, if_false]
    rw [if_pos (Zaq (by omega))]
    cases k with
    | zero => omega
    | succ k =>
    obtain ⟨c2, e2, q1, q2⟩ := Zq5 rec n a b hl hn ha hb hr k m (i + 1) (by omega) (by omega)
    exact ⟨c2, e2, fun h => ⟨⟨hce.1 hc0, (q1 h).1⟩, (q1 h).2⟩, fun h1 h2 h3 => q2 h1.2 h2 h3⟩
   ·
    rw [decide_eq_false hc0]
    simp only [Bool.not_false, if_true]
    exact ⟨c, rfl, fun h => absurd h hc0, fun h _ _ => hce.2 h.1⟩
  ·
   have e : (decide (i < a.list.length) && decide (i < b.list.length)) = false := by
    rw [Bool.and_eq_false_iff, decide_eq_false_iff_not, decide_eq_false_iff_not]; omega
   rw [e]
   simp only [Bool.false_eq_true, if_false, ZdU]
   by_cases hlen : a.list.length = b.list.length
   ·
    rw [decide_eq_true (by omega)]
    simp only [Bool.not_true, Bool.false_eq_true, if_false]
    obtain ⟨c, e2, q1, q2⟩ := Zql rec n a b hl.1 ha hb hr.2 a.fields.length n 0 (by omega) hn
    rw [List.drop_zero, List.drop_zero] at q1 q2
    refine ⟨c, e2, fun h => ⟨?_, q1 h⟩, fun _ _ h => q2 h (by rw [h])⟩
    rw [List.drop_eq_nil_of_le (by omega), List.drop_eq_nil_of_le (by omega)]
   ·
    rw [decide_eq_false (by omega)]
    simp only [Bool.not_false, if_true]
    exact ⟨_, rfl, fun h => absurd h (ZjK (by omega)), fun _ h _ => absurd h hlen⟩
theorem Vl.ext' {a b : Vl} (h1 : a.kind = b.kind) (h2 : a.int = b.int) (h3 : a.scale = b.scale) (h4 : a.text = b.text) (h5 : a.list = b.list) (h6 : a.fields = b.fields) : a = b := by
 rw [← a.eta, ← b.eta, h1, h2, h3, h4, h5, h6]
theorem ZgM : ∀ (n : Nat) (a b : Vl), a.size < n → a.size ≤ 1000000000 → a.ok → b.ok → ∃ c, Zcp n a b = some c ∧ (c = 0 ↔ a = b)
 | 0, a, b, h, _, _, _ => absurd h (Nat.not_lt_zero _)
 | n + 1, a, b, h, hs, ha, hb => by
  have hl := Zfy a
  have a1 := a.ok_eq.1 ha
  have b1 := b.ok_eq.1 hb
  rw [Zcp, Ze6]
  by_cases h1 : a.kind = b.kind
  ·
   rw [decide_eq_true h1]; simp only [Bool.not_true, Bool.false_eq_true, if_false]
   by_cases h2 : a.int = b.int
   ·
    rw [decide_eq_true h2]; simp only [Bool.not_true, Bool.false_eq_true, if_false]
    by_cases h3 : a.scale = b.scale
    ·
     rw [decide_eq_true h3]; simp only [Bool.not_true, Bool.false_eq_true, if_false]
     rw [if_pos (Zhm a1.1), if_pos (Zhm b1.1)]
     by_cases h4 : Zrq a.text b.text = 0
     ·
      rw [decide_eq_true h4]; simp only [Bool.not_true, Bool.false_eq_true, if_false]
      obtain ⟨c, e, q1, q2⟩ := Zq5 (Zcp n) n a b ⟨by omega, by omega⟩ (by omega) ha hb
       ⟨fun p hp q hq => ZgM n p q (by have := a.list_size p hp; omega) (by have := a.list_size p hp; omega) (a1.2.1 p hp) (b1.2.1 q hq),
        fun p hp q hq => ZgM n p.2 q.2 (by have := a.field_size p hp; omega) (by have := a.field_size p hp; omega) (a1.2.2 p hp).2 (b1.2.2 q hq).2⟩ a.list.length n 0 (by omega) (by omega)
      rw [List.drop_zero, List.drop_zero] at q1 q2
      refine ⟨c, e, fun h => Vl.ext' h1 h2 h3 ((ZhO _ _).1 h4) (q1 h).1 (q1 h).2, fun h => ?_⟩
      subst h
      exact q2 rfl rfl rfl
     ·
      rw [decide_eq_false h4]; simp only [Bool.not_false, if_true]
      exact ⟨_, rfl, fun h => absurd h h4, fun h => by subst h; exact (ZhO _ _).2 rfl⟩
    ·
     rw [decide_eq_false h3]; simp only [Bool.not_false, if_true]
     exact ⟨_, rfl, fun h => absurd h (ZjK h3), fun h => by subst h; exact absurd rfl h3⟩
   ·
    rw [decide_eq_false h2]; simp only [Bool.not_false, if_true]
    exact ⟨_, rfl, fun h => absurd h (ZjK h2), fun h => by subst h; exact absurd rfl h2⟩
  ·
   rw [decide_eq_false h1]; simp only [Bool.not_false, if_true]
   exact ⟨_, rfl, fun h => absurd h (ZjK h1), fun h => by subst h; exact absurd rfl h1⟩
theorem Zo6 (n : Nat) (a b : Vl) (h : a.size < n) (hs : a.size ≤ 1000000000) (ha : a.ok) (hb : b.ok) : ∃ c, Zex n a b = some c ∧ (c = true ↔ a = b) := by
 obtain ⟨c, e, hc⟩ := ZgM n a b h hs ha hb
 refine ⟨decide (c = 0), ?_, by rw [decide_eq_true_eq]; exact hc⟩
 rw [Zex, e]; rfl
theorem ZpH (rec : Ty → Ty → Option Bool) (n : Nat) (ag : Int → Option Bool) (x7 : Int) (p q : TF) (hl : p.2.2.2.2.length ≤ 1000000000) (hpq : p.2.2.2.2.length = q.2.2.2.2.length)
  (hr : ∀ v ∈ p.2.2.2.2, ∀ w ∈ q.2.2.2.2, ∃ c, Zex n v w = some c ∧ (c = true ↔ v = w)) : ∀ (k m i : Nat), i + k = p.2.2.2.2.length → k < m →
  (ZbW rec n ag x7 p q m i = some false ∧ p.2.2.2.2.drop i ≠ q.2.2.2.2.drop i) ∨ (ZbW rec n ag x7 p q m i = Zd5 rec n ag x7 ∧ p.2.2.2.2.drop i = q.2.2.2.2.drop i)
 | k, 0, i, _, h => absurd h (Nat.not_lt_zero _)
 | 0, m + 1, i, hi, _ => by
  rw [ZbW, Zao, decide_eq_false (by omega)]
  simp only [Bool.false_eq_true, if_false]
  exact .inr ⟨by trivial, by rw [List.drop_eq_nil_of_le (by omega), List.drop_eq_nil_of_le (by omega)]⟩
 | k + 1, m + 1, i, hi, hm => by
  have h1 : i < p.2.2.2.2.length := by omega
  have h2 : i < q.2.2.2.2.length := by omega
  rw [ZbW, Zao, decide_eq_true h1]
  simp only [if_true, Zan h1, Zan h2, Option.bind_some]
  obtain ⟨c, e, hc⟩ := hr _ (List.getElem_mem h1) _ (List.getElem_mem h2)
  rw [e, ne_eq, Zdz _ _ i h1 h2]
  simp only [Option.bind_some]
  cases c with
  | false => simp only [Bool.not_false, if_true]; exact .inl ⟨by trivial, fun h => by simpa using hc.2 h.1⟩
  | true =>
   simp only [Bool.not_true, Bool.false_eq_true, if_false]
   rw [if_pos (Zaq (by omega))]
   rcases ZpH rec n ag x7 p q hl hpq hr k m (i + 1) (by omega) (by omega) with ⟨e1, e2⟩ | ⟨e1, e2⟩
   ·
    exact .inl ⟨e1, fun h => e2 h.2⟩
   ·
    exact .inr ⟨e1, hc.1 rfl, e2⟩
theorem TF.ext' {p q : TF} (h1 : p.1 = q.1) (h2 : p.2.1 = q.2.1) (h3 : p.2.2.1 = q.2.2.1) (h4 : p.2.2.2.1 = q.2.2.2.1) (h5 : p.2.2.2.2 = q.2.2.2.2) : p = q := by
 obtain ⟨a, b, c, d, e⟩ := p
 obtain ⟨a', b', c', d', e'⟩ := q
 simp only at h1 h2 h3 h4 h5
 rw [h1, h2, h3, h4, h5]
theorem Zqd (rec : Ty → Ty → Option Bool) (n : Nat) (hn : 400 ≤ n) (a b : Ty) (hl : a.fields.length ≤ 1000000000) (hab : a.fields.length = b.fields.length) (ha : a.ok) (hb : b.ok)
  (hr : ∀ p ∈ a.fields, ∀ q ∈ b.fields, ∃ c, rec p.2.2.2.1 q.2.2.2.1 = some c ∧ (c = true ↔ p.2.2.2.1 = q.2.2.2.1)) : ∀ (k m i : Nat), i + k = a.fields.length → k < m → ∃ c, Zbr rec n a b m i = some c ∧ (c = true ↔ a.fields.drop i = b.fields.drop i)
 | k, 0, i, _, h => absurd h (Nat.not_lt_zero _)
 | 0, m + 1, i, hi, _ => by
  rw [Zbr, Zao, decide_eq_false (by omega)]
  simp only [Bool.false_eq_true, if_false, Ze7]
  exact ⟨true, rfl, by rw [List.drop_eq_nil_of_le (by omega), List.drop_eq_nil_of_le (by omega)]; simp⟩
 | k + 1, m + 1, i, hi, hm => by
  have h1 : i < a.fields.length := by omega
  have h2 : i < b.fields.length := by omega
  rw [Zbr, Zao, decide_eq_true h1]
  simp only [if_true, Zan h1, Zan h2, Option.bind_some]
  rw [Zdz _ _ i h1 h2]
  obtain ⟨_, _, o3, o4⟩ := (a.ok_eq.1 ha).2.2.2 _ (List.getElem_mem h1)
  obtain ⟨_, _, _, o5⟩ := (b.ok_eq.1 hb).2.2.2 _ (List.getElem_mem h2)
  by_cases hc : a.fields[i].1 = b.fields[i].1 ∧ a.fields[i].2.1 = b.fields[i].2.1 ∧ a.fields[i].2.2.1 = b.fields[i].2.2.1 ∧ a.fields[i].2.2.2.2.length = b.fields[i].2.2.2.2.length
  ·
   obtain ⟨c1, c2, c3, c4⟩ := hc
   rw [if_neg (by rw [c1, c2, c3, c4, Zot]; simp)]
   obtain ⟨c, e, hce⟩ := hr _ (List.getElem_mem h1) _ (List.getElem_mem h2)
   rw [e]
   simp only [Option.bind_some]
   cases c with
   | false => simp only [Bool.not_false, if_true]; exact ⟨false, rfl, by simp only [Bool.false_eq_true, false_iff]; intro h; simpa using hce.2 (by rw [h.1])⟩
   | true =>
    simp only [Bool.not_true, Bool.false_eq_true, if_false]
    rcases ZpH rec n (Zbr rec n a b m) i a.fields[i] b.fields[i] (by omega) c4 (fun v hv w hw => Zo6 n v w (by have := (o4 v hv).1; omega) (by have := (o4 v hv).1; omega) (o4 v hv).2.2 (o5 w hw).2.2) a.fields[i].2.2.2.2.length n 0 (by omega) (by omega) with ⟨e1, e2⟩ | ⟨e1, e2⟩
    ·
     refine ⟨false, e1, ?_⟩
     rw [List.drop_zero, List.drop_zero] at e2
     simp only [Bool.false_eq_true, false_iff]
     exact fun h => e2 (by rw [h.1])
    ·
     rw [List.drop_zero, List.drop_zero] at e2
     obtain ⟨c5, e5, h5⟩ := Zqd rec n hn a b hl hab ha hb hr k m (i + 1) (by omega) (by omega)
     refine ⟨c5, ?_, ?_⟩
     ·
      refine e1.trans ?_
      rw [Zd5, if_pos (Zaq (by omega))]; exact e5
     ·
      rw [h5]
      exact ⟨fun h => ⟨TF.ext' c1 c2 c3 (hce.1 rfl) e2, h⟩, fun h => h.2⟩
  ·
   rw [if_pos]
   ·
    exact ⟨false, rfl, by simp only [Bool.false_eq_true, false_iff]; intro h; exact hc (by rw [h.1]; exact ⟨rfl, rfl, rfl, rfl⟩)⟩
   ·
    have := ZjU a.fields[i].2.1 b.fields[i].2.1
    simp only [Bool.or_eq_true, Bool.not_eq_true', decide_eq_false_iff_not]
    by_cases s : sEq a.fields[i].2.1 b.fields[i].2.1 = true
    ·
     have := this.1 s; by_cases x1 : a.fields[i].1 = b.fields[i].1
     ·
      by_cases x2 : a.fields[i].2.2.1 = b.fields[i].2.2.1
      ·
       exact .inr (fun h => hc ⟨x1, this, x2, by omega⟩)
      ·
       exact .inl (.inr x2)
     ·
      exact .inl (.inl (.inl x1))
    ·
     exact .inl (.inl (.inr (by simpa using s)))
theorem ZqZ (rec : Ty → Ty → Option Bool) (n : Nat) (a b : Ty) (hl : a.elem.length ≤ 1000000000) (hab : a.elem.length = b.elem.length)
  (hr : ∀ p ∈ a.elem, ∀ q ∈ b.elem, ∃ c, rec p q = some c ∧ (c = true ↔ p = q)) : ∀ (k m i : Nat), i + k = a.elem.length → k < m →
  (Zb0 rec n a b m i = some false ∧ a.elem.drop i ≠ b.elem.drop i) ∨ (Zb0 rec n a b m i = Zee rec n a b ∧ a.elem.drop i = b.elem.drop i)
 | k, 0, i, _, h => absurd h (Nat.not_lt_zero _)
 | 0, m + 1, i, hi, _ => by
  rw [Zb0, Zao, decide_eq_false (by omega)]
  simp only [Bool.false_eq_true, if_false]
  exact .inr ⟨by trivial, by rw [List.drop_eq_nil_of_le (by omega), List.drop_eq_nil_of_le (by omega)]⟩
 | k + 1, m + 1, i, hi, hm => by
  have h1 : i < a.elem.length := by omega
  have h2 : i < b.elem.length := by omega
  rw [Zb0, Zao, decide_eq_true h1]
  simp only [if_true, Zan h1, Zan h2, Option.bind_some]
  obtain ⟨c, e, hc⟩ := hr _ (List.getElem_mem h1) _ (List.getElem_mem h2)
  rw [e, ne_eq, Zdz _ _ i h1 h2]
  simp only [Option.bind_some]
  cases c with
  | false => simp only [Bool.not_false, if_true]; exact .inl ⟨by trivial, fun h => by simpa using hc.2 h.1⟩
  | true =>
   simp only [Bool.not_true, Bool.false_eq_true, if_false]
   rw [if_pos (Zaq (by omega))]
   rcases ZqZ rec n a b hl hab hr k m (i + 1) (by omega) (by omega) with ⟨e1, e2⟩ | ⟨e1, e2⟩
   ·
    exact .inl ⟨e1, fun h => e2 h.2⟩
   ·
    exact .inr ⟨e1, hc.1 rfl, e2⟩
theorem Zq7 (rec : Ty → Ty → Option Bool) (n : Nat) (a b : Ty) (hl : a.words.length ≤ 1000000000) (hab : a.words.length = b.words.length) : ∀ (k m i : Nat), i + k = a.words.length → k < m →
  (ZbU rec n a b m i = some false ∧ a.words.drop i ≠ b.words.drop i) ∨ (ZbU rec n a b m i = ZdC rec n a b ∧ a.words.drop i = b.words.drop i)
 | k, 0, i, _, h => absurd h (Nat.not_lt_zero _)
 | 0, m + 1, i, hi, _ => by
  rw [ZbU, Zao, decide_eq_false (by omega)]
  simp only [Bool.false_eq_true, if_false]
  exact .inr ⟨by trivial, by rw [List.drop_eq_nil_of_le (by omega), List.drop_eq_nil_of_le (by omega)]⟩
 | k + 1, m + 1, i, hi, hm => by
  have h1 : i < a.words.length := by omega
  have h2 : i < b.words.length := by omega
  rw [ZbU, Zao, decide_eq_true h1]
  simp only [if_true, Zan h1, Zan h2, Option.bind_some]
  rw [ne_eq, Zdz _ _ i h1 h2]
  by_cases s : a.words[i] = b.words[i]
  ·
   rw [s, Zot]
   simp only [Bool.not_true, Bool.false_eq_true, if_false]
   rw [if_pos (Zaq (by omega))]
   rcases Zq7 rec n a b hl hab k m (i + 1) (by omega) (by omega) with ⟨e1, e2⟩ | ⟨e1, e2⟩
   ·
    exact .inl ⟨e1, fun h => e2 h.2⟩
   ·
    exact .inr ⟨e1, by trivial, e2⟩
  ·
   have : sEq a.words[i] b.words[i] = false := by
    cases h : sEq a.words[i] b.words[i]
    ·
     rfl
    ·
     exact absurd ((ZjU _ _).1 h) s
   rw [this]
   simp only [Bool.not_false, if_true]
   exact .inl ⟨trivial, fun h => s h.1⟩
theorem Ty.ext' {a b : Ty} (h1 : a.kind = b.kind) (h2 : a.min = b.min) (h3 : a.max = b.max) (h4 : a.scale = b.scale) (h5 : a.words = b.words) (h6 : a.elem = b.elem) (h7 : a.fields = b.fields) : a = b := by
 rw [← a.eta, ← b.eta, h1, h2, h3, h4, h5, h6, h7]
theorem Zha : ∀ (n : Nat) (a b : Ty), a.size + 400 < n → a.size ≤ 1000000000 → a.ok → b.ok → ∃ c, Zce n a b = some c ∧ (c = true ↔ a = b)
 | 0, a, b, h, _, _, _ => absurd h (Nat.not_lt_zero _)
 | n + 1, a, b, h, hs, ha, hb => by
  have hl := a.lens
  have a1 := a.ok_eq.1 ha
  have b1 := b.ok_eq.1 hb
  rw [Zce, Zhd]
  by_cases hc : a.kind = b.kind ∧ a.min = b.min ∧ a.max = b.max ∧ a.scale = b.scale ∧ a.words.length = b.words.length ∧ a.elem.length = b.elem.length ∧ a.fields.length = b.fields.length
  ·
   obtain ⟨c1, c2, c3, c4, c5, c6, c7⟩ := hc
   rw [if_neg (by rw [c1, c2, c3, c4, c5, c6, c7]; simp)]
   rcases Zq7 (Zce n) n a b (by omega) c5 a.words.length n 0 (by omega) (by omega) with ⟨e1, e2⟩ | ⟨e1, e2⟩
   ·
    rw [List.drop_zero, List.drop_zero] at e2
    exact ⟨false, e1, by simp only [Bool.false_eq_true, false_iff]; intro h; exact e2 (by rw [h])⟩
   rw [List.drop_zero, List.drop_zero] at e2
   have w := e2
   rcases ZqZ (Zce n) n a b (by omega) c6 (fun p hp q hq => Zha n p q (by have := a.elem_size p hp; omega) (by have := a.elem_size p hp; omega) (a1.2.2.1 p hp) (b1.2.2.1 q hq)) a.elem.length n 0 (by omega) (by omega) with ⟨e3, e4⟩ | ⟨e3, e4⟩
   ·
    rw [List.drop_zero, List.drop_zero] at e4
    refine ⟨false, ?_, by simp only [Bool.false_eq_true, false_iff]; intro h; exact e4 (by rw [h])⟩
    exact e1.trans (by rw [ZdC]; exact e3)
   rw [List.drop_zero, List.drop_zero] at e4
   obtain ⟨c, e5, h5⟩ := Zqd (Zce n) n (by omega) a b (by omega) c7 ha hb (fun p hp q hq => Zha n _ _ (by have := a.field_size p hp; omega) (by have := a.field_size p hp; omega) (a1.2.2.2 p hp).2.1 (b1.2.2.2 q hq).2.1) a.fields.length n 0 (by omega) (by omega)
   rw [List.drop_zero, List.drop_zero] at h5
   refine ⟨c, ?_, h5.trans ⟨fun h => Ty.ext' c1 c2 c3 c4 w e4 h, fun h => by rw [h]⟩⟩
   refine e1.trans ?_
   rw [ZdC]
   refine e3.trans ?_
   rw [Zee]; exact e5
  ·
   rw [if_pos]
   ·
    exact ⟨false, rfl, by simp only [Bool.false_eq_true, false_iff]; intro h; subst h; exact hc ⟨rfl, rfl, rfl, rfl, rfl, rfl, rfl⟩⟩
   ·
    simp only [Bool.or_eq_true, Bool.not_eq_true', decide_eq_false_iff_not]
    have : ∀ x y : Nat, ((x : Int) = (y : Int)) = (x = y) := fun x y => propext ⟨fun h => by omega, fun h => by omega⟩
    simp only [this]
    by_cases x1 : a.kind = b.kind
    ·
     by_cases x2 : a.min = b.min
     ·
      by_cases x3 : a.max = b.max
      ·
       by_cases x4 : a.scale = b.scale
       ·
        by_cases x5 : a.words.length = b.words.length
        ·
         by_cases x6 : a.elem.length = b.elem.length
         ·
          exact .inr fun x7 => hc ⟨x1, x2, x3, x4, x5, x6, x7⟩
         ·
          exact .inl (.inr x6)
        ·
         exact .inl (.inl (.inr x5))
       ·
        exact .inl (.inl (.inl (.inr x4)))
      ·
       exact .inl (.inl (.inl (.inl (.inr x3))))
     ·
      exact .inl (.inl (.inl (.inl (.inl (.inr x2)))))
    ·
     exact .inl (.inl (.inl (.inl (.inl (.inl x1)))))
end Go.Proofs.YtggimoedcamonaaGreatDoor
namespace Go.Ev
open Go
structure VStk (Rw rows : List RowA) (sz : Nat) (xs : List AV) (id ver : Nat) : Prop where
 pre : Rw <+: rows
 calm : ∀ r ∈ rows.drop Rw.length, ∀ y ∈ r.cells, ∀ a b c, Under a b c y
 own : Rw.length ≤ id
 len : ∀ y ∈ xs, y.cells.length = sz
 at_ : ∃ rest, rows[id]? = some (.vec ver sz (xs.flatMap AV.cells ++ rest))
theorem VStk.under {Rw rows : List RowA} {sz : Nat} {xs : List AV} {id ver : Nat} (h : VStk Rw rows sz xs id ver) : id < rows.length := by
 obtain ⟨rest, h⟩ := h.at_
 exact (List.getElem?_eq_some_iff.1 h).1
theorem VStk.read {Rw rows : List RowA} {sz : Nat} {xs : List AV} {id ver : Nat} (h : VStk Rw rows sz xs id ver) :
  ∃ cs, ZfL rows id ver = some (sz, cs) ∧ ∀ i y, xs[i]? = some y → (cs.drop (i * sz)).take sz = y.cells ∧ i * sz + sz ≤ cs.length := by
 obtain ⟨rest, h1⟩ := h.at_
 refine ⟨xs.flatMap AV.cells ++ rest, by simp only [ZfL, h1, if_true], fun i y hy => ?_⟩
 obtain ⟨hi, rfl⟩ := List.getElem?_eq_some_iff.1 hy
 have q := h.len _ (List.getElem_mem hi)
 have hl : (xs.flatMap AV.cells).length = xs.length * sz := Zhx h.len
 have hm : i * sz + sz ≤ xs.length * sz := by rw [← Nat.succ_mul]; exact Nat.mul_le_mul_right _ hi
 refine ⟨List.ext_getElem? fun j => ?_, by rw [List.length_append]; omega⟩
 by_cases hj : j < sz
 ·
  rw [List.getElem?_take_of_lt hj, List.getElem?_drop, List.getElem?_append_left (by omega), Zj8 h.len i hi j hj]
 ·
  rw [List.getElem?_eq_none (by simp; omega), List.getElem?_eq_none (by omega)]
theorem VStk.start (Rw : List RowA) {sz : Nat} {y : AV} {cs : List AV} (hc : cs = y.cells) (hy : y.cells.length = sz) (hu : ∀ c ∈ y.cells, ∀ a b d, Under a b d c) : VStk Rw (Rw ++ [.vec 0 sz cs]) sz [y] Rw.length 0 := by
 subst hc
 refine ⟨List.prefix_append _ _, fun r hr x hx a b c => ?_, Nat.le_refl _, fun x hx => by rw [List.mem_singleton.1 hx]; exact hy, ⟨[], by simp⟩⟩
 rw [List.drop_left] at hr
 rw [List.mem_singleton.1 hr] at hx
 exact hu x hx a b c
theorem VStk.take {Rw rows : List RowA} {sz : Nat} {xs : List AV} {id ver : Nat} (h : VStk Rw rows sz xs id ver) (k : Nat) : VStk Rw rows sz (xs.take k) id ver := by
 obtain ⟨rest, h1⟩ := h.at_
 refine ⟨h.pre, h.calm, h.own, fun y hy => h.len y (List.mem_of_mem_take hy), ⟨(xs.drop k).flatMap AV.cells ++ rest, ?_⟩⟩
 rw [h1, ← List.append_assoc, ← List.flatMap_append, List.take_append_drop]
theorem VStk.of_eq {Rw rows : List RowA} {sz : Nat} {xs ys : List AV} {id ver : Nat} (h : VStk Rw rows sz xs id ver) (he : xs = ys) : VStk Rw rows sz ys id ver := he ▸ h
theorem VStk.append {P : Program} {t el : TypeId} {sz by8 : Nat} {ag : Bool} {Rw rows : List RowA} {xs : List AV} {y : AV} {id ver : Nat} (h : VStk Rw rows sz xs id ver) (he : elT P t = some (el, sz, ag, by8)) (hz : (ZcA P el).isSome = true) (hs : 0 < sz)
  (hb : (xs.length + 1) * by8 ≤ 140737488355328) (hb2 : xs.length + 1 ≤ 4611686018427387904) (hy : y.cells.length = sz ∧ ZaO y = true) (hp : y.pub = y) (hu : ∀ c ∈ y.cells, ∀ a b d, Under a b d c) :
  ∃ rows', VStk Rw rows' sz (xs ++ [y]) id (ver + 1) ∧ ∀ (B : List (List AV)) (L : List LoopA) (o2 : Own), Zbi P ⟨B, rows, L⟩ t (.vec id ver 0 xs.length) (.list [y] o2) = (True, .vec id (ver + 1) 0 (xs.length + 1), ⟨B, rows', L⟩) := by
 have hl := h.pre.length_le
 have h2 := h.own
 obtain ⟨rest, h3⟩ := h.at_
 have hlt := (List.getElem?_eq_some_iff.1 h3).1
 have hcl : (xs.flatMap AV.cells).length = xs.length * sz := Zhx h.len
 have ob : ZbC P el sz by8 xs.length [y] = True := by
  simp only [ZbC, hs, hz, List.length_singleton, hb, hb2, true_and, List.mem_singleton, forall_eq, hy, and_self]
 refine ⟨rows.set id (.vec (ver + 1) sz (xs.flatMap AV.cells ++ y.cells)), ⟨Zeb h.pre h2 _, fun r hr z hz' a b c => ?_, h2, fun z hz => ?_, ⟨[], by simp [hlt, List.flatMap_append]⟩⟩, fun B L o2 => ?_⟩
 ·
  rw [List.drop_set, if_neg (by omega)] at hr
  rcases List.mem_or_eq_of_mem_set hr with hr | rfl
  ·
   exact h.calm r hr z hz' a b c
  ·
   rcases List.mem_append.1 hz' with q | q
   ·
    exact h.calm (.vec ver sz (xs.flatMap AV.cells ++ rest)) (by
     rw [List.mem_iff_getElem?]
     exact ⟨id - Rw.length, by rw [List.getElem?_drop, Nat.add_sub_cancel' h2]; exact h3⟩) z (List.mem_append_left _ q) a b c
   ·
    exact hu z q a b c
 ·
  rcases List.mem_append.1 hz with q | q
  ·
   exact h.len z q
  ·
   rw [List.mem_singleton.1 q]; exact hy.1
 ·
  simp only [Zbi, he, ZaH, Zbs, List.length_singleton, List.flatMap_cons, List.flatMap_nil, List.append_nil, hp, ZfL, h3, if_true]
  rw [ob]
  have e1 : (xs.flatMap AV.cells ++ rest).take (xs.length * sz) = xs.flatMap AV.cells := by rw [← hcl, List.take_left]
  have e2 : xs.length * sz ≤ (xs.flatMap AV.cells ++ rest).length := by rw [List.length_append]; omega
  simp only [true_and, e1, eq_true e2, and_self]
section
variable {P : Program} {w0 : World} {n : Nat} {e : Env} {st : St} {M0 : Mem} {W0 : World} {ro : Option Nat} {Q : AQ} {c : Code}
theorem tdS {B0 B bs X : List (List AV)} {Rw rows : List RowA} {L : List LoopA} {sz : Nat} {xs : List AV} {id ver : Nat} (hN : M0.N = B0.length) (hNR : M0.NR = Rw.length) (hNL : M0.NL = L.length) (hc : Calm B0.length Rw.length L.length ⟨B, Rw, L⟩) (ho : VStk Rw rows sz xs id ver)
  (h : awp P w0 n M0 W0 ro c Q e ⟨B ++ bs, rows, L⟩) (hB : B.length = B0.length := by first | rfl | simp only [List.length_set])
  (hbs : ∀ cs ∈ bs, ∀ x ∈ cs, Under (B0.length + bs.length) rows.length L.length x := by (simp +decide only [go_sem, Nat.reduceAdd]) <;> (try (repeat' apply And.intro)) <;> first | omega | assumption)
  (he : Zcb (B0.length + bs.length) rows.length L.length e := by (simp +decide only [go_sem, Nat.reduceAdd, Zcb]) <;> (try (repeat' apply And.intro)) <;> first | omega | assumption) : awp P w0 n M0 W0 ro c Q e ⟨B ++ (bs ++ X), rows, L⟩ := by
 rw [← hB] at hN hc hbs he
 clear hB B0
 have hl := ho.pre.length_le
 have e1 : St.cut ⟨B ++ (bs ++ X), rows, L⟩ (B.length + bs.length) rows.length L.length = ⟨B ++ bs, rows, L⟩ := by
  simp only [St.cut, List.take_length, ← List.append_assoc]
  rw [List.take_left' (by simp)]
 refine Zlq (B.length + bs.length) rows.length L.length (by simp) (Nat.le_refl _) (Nat.le_refl _) (by omega) (by omega) (by omega) ?_ he (by rw [e1]; exact h)
 rw [e1]
 refine ⟨fun r hr x hx => ?_, fun cs hcs x hx => ?_, fun la hla k x hx ht => ?_⟩
 ·
  obtain ⟨t, rfl⟩ := ho.pre
  rcases List.mem_append.1 hr with hr | hr
  ·
   exact Zbh (by omega) (by omega) (Nat.le_refl _) (hc.rows r hr x hx)
  ·
   exact ho.calm r (by simpa using hr) x hx _ _ _
 ·
  rcases List.mem_append.1 hcs with hcs | hcs
  ·
   exact Zbh (by omega) (by omega) (Nat.le_refl _) (hc.boxes cs hcs x hx)
  ·
   exact hbs cs hcs x hx
 ·
  exact Zbh (by omega) (by omega) (Nat.le_refl _) (hc.loops la hla k x hx ht)
end
end Go.Ev
namespace Go.Proofs.YtggimoedcamonaaGreatDoor
open Go Go.RowKit Go.Ev
def Zfj (n : Nat)  : Option Int :=
 some (0)
def ZbF (n : Nat) (a0 : List (ByteArray × Vl)) : Nat → Int → Option Int
 | 0, _ => none
 | m + 1, x3_l10 =>
  if decide (x3_l10 < ((a0.length : Int))) then
   (idx a0 x3_l10).bind fun x16 =>
   if x16.1.size ≤ maxLen then
    if !(Zcf x16.1) then
     some (12)
    else
     if decide (0 < x3_l10) then
      if I64 (x3_l10 - 1) then
       (idx a0 (x3_l10 - 1)).bind fun x23 =>
       if sEq x16.1 x23.1 then
        some (7)
       else
        if I64 (x3_l10 - 1) then
         if sLt x16.1 x23.1 then
          some (24)
         else
          if I64 (x3_l10 + 1) then
           (ZbF n a0 m) (x3_l10 + 1)
          else none
        else none
      else none
     else
      if I64 (x3_l10 + 1) then
       (ZbF n a0 m) (x3_l10 + 1)
      else none
   else none
  else
   Zfj n 
def ZeH (n : Nat) (a0 : List (ByteArray × Vl)) : Option Int :=
 if decide (64 < ((a0.length : Int))) then
  some (9)
 else
  ZbF n a0 n 0
theorem Zmq (w0 : World) (n : Nat) (B : List (List AV)) (Rw : List RowA) (L : List LoopA) (a0 : List (ByteArray × Vl)) (r : Int) (h : ZeH n a0 = some r) :
  ACalls Tryz.prog w0 159 [.list (a0.map avF) .none] ⟨B, Rw, L⟩ fun x st => x = .val (.int .i64 r) ∧ st = ⟨B, Rw, L⟩ := by
 rw [ZeH] at h
 refine hd [.tmp 2] Tryz.func159 Tryz.ntmps159 fun M0 W0 hN hNR hNL hcalm hu hO hs => ?_
 simp only [Zas]
 refine rg [0] hs ?_
 apply Zab; intro K2 hK2
 refine rg [0, 6] hs ?_
 refine cnd h hs (fun hs h => ?_) (fun hs h => ?_)
 ·
  have hb4 := hs.1
  refine rg [2] hs ?_
  exact rt h hs hcalm hO
 have hb4 := hs.1
 refine sk [0] hs hK2 ?_
 clear hK2
 refine Zah (fun e st => Ck e st B Rw L [] [] [] (Zfj n  = some r)) ?_ ?_
 ·
  intro K8 hK8
  refine rg [0, 3] hs ?_
  apply Zae
  refine Zai (fun m e st => ∃ (x3_l10 : Int), Ck e st B Rw L [(0, true, .list (a0.map avF) .none), (3, true, .val (.int .i64 x3_l10))] [] [] (ZbF n a0 m x3_l10 = some r)) n ⟨0, ([]), Rw, ef hs, ef hs, hO, h⟩ ?_
  rintro ml10 e st ⟨x3_l10, Xl10, Rl10, rfl, rfl, hO, h⟩ Ul10 Vl10
  cases ml10 with
  | zero => cases h
  | succ ml10 =>
  rw [ZbF] at h
  refine td hN hNR hNL hcalm hO ?_
  apply Zab; intro K11 hK11
  refine rg [0, 3, 10] hs ?_
  refine cnd h hs (fun hs h => ?_) (fun hs h => ?_)
  rotate_left
  ·
   have hb13 := hs.1
   refine sx [] hs hK8 ?_
   exact ⟨([]), Rl10, ef hs, ef hs, hO, h⟩
  have hb13 := hs.1
  refine sk [0, 3] hs hK11 ?_
  clear hK11
  apply Zab; intro K14 hK14
  apply Zae
  apply Zae
  obtain ⟨x16, hx16, h⟩ := bind_some h
  obtain ⟨hx16a, hx16b, hx16c⟩ := Zar hx16
  have hx16d := Zau (f := avF) hx16c
  obtain ⟨hg17, h⟩ := Zac h
  have hs := And.intro hx16d hs
  refine rc 2 [0, 3, 13] hs ?_; intro K15 hK15
  refine Zaf _ (Zlz w0 _ _ _ x16.1 hg17) (hv hs) ?_
  refine ne hs hK15 ?_
  clear hK15
  refine cnd h hs (fun hs h => ?_) (fun hs h => ?_)
  ·
   have hb18 := hs.1
   refine rg [2] hs ?_
   exact rt h hs hcalm hO
  have hb18 := hs.1
  apply Zab; intro K20 hK20
  rcases Bool.eq_false_or_eq_true (decide (0 < x3_l10)) with hf21 | hf21
  ·
   replace h := ZaN h hf21
   obtain ⟨hg22, h⟩ := Zac h
   obtain ⟨x23, hx23a, hx23b, hx23d, h⟩ := ix avF h
   apply Zak mix 17 1 1 [0, 3, 21] (by kernel_rfl)
   rw [Zaa]; simp +decide only [go_sem, Nat.reduceAdd, hb4, hb13, hx16d, hb18, hf21, hx23d]
   (repeat' with_reducible apply And.intro) <;> first | (rw [Zaa]; simp +decide only [go_sem, Nat.reduceAdd, hb4, hb13, hx16d, hb18, hf21, hx23d]) | exact cl
   (repeat' apply And.intro) <;> first | refine hK20 _ _ ?_ | exact cl
   clear hK20
   have hs := And.intro hf21 hs
   have hs := And.intro hx23d hs
   refine cnd h hs (fun hs h => ?_) (fun hs h => ?_)
   ·
    refine rg [2] hs ?_
    exact rt h hs hcalm hO
   obtain ⟨hg27, h⟩ := Zac h
   refine dg 17 1 1 [0, 3, 38] hs mix ?_
   refine cnd h hs (fun hs h => ?_) (fun hs h => ?_)
   ·
    refine rg [2] hs ?_
    exact rt h hs hcalm hO
   refine sk [0, 3] hs hK14 ?_
   clear hK14
   obtain ⟨hg30, h⟩ := Zac h
   refine rl [0, 3] hs (fun e s => Vl10 ml10 e s (Nat.lt_succ_self _)) ?_
   exact ⟨(x3_l10 + 1), ([]), Rl10, ef hs, ef hs, hO, h⟩
  ·
   replace h := ZaM h hf21
   apply Zak mix 17 1 1 [0, 3, 21] (by kernel_rfl)
   rw [Zaa]; simp +decide only [go_sem, Nat.reduceAdd, hb4, hb13, hx16d, hb18, hf21]
   (repeat' with_reducible apply And.intro) <;> first | (rw [Zaa]; simp +decide only [go_sem, Nat.reduceAdd, hb4, hb13, hx16d, hb18, hf21]) | exact cl
   (repeat' apply And.intro) <;> first | refine hK20 _ _ ?_ | exact cl
   clear hK20
   have hs := And.intro hf21 hs
   refine Zap false ev (ef hs) (fun hb31 => by cases hb31) (fun hb31 => ?_)
   refine dg 17 1 1 [0, 3, 38] hs mix ?_
   refine Zap false ev (ef hs) (fun hb33 => by cases hb33) (fun hb33 => ?_)
   refine sk [0, 3] hs hK14 ?_
   clear hK14
   obtain ⟨hg34, h⟩ := Zac h
   refine rl [0, 3] hs (fun e s => Vl10 ml10 e s (Nat.lt_succ_self _)) ?_
   exact ⟨(x3_l10 + 1), ([]), Rl10, ef hs, ef hs, hO, h⟩
 ·
  clear h; rintro e st ⟨Xk7, Rk7, rfl, rfl, hO, h⟩
  rw [Zfj] at h
  refine td hN hNR hNL hcalm hO ?_
  refine rg [2] hs ?_
  exact rt h hs hcalm hO
def ZgD (a0 : Vl) : Bool :=
 (((((decide (a0.kind = 0)) && (decide (a0.int = 0))) && (decide (a0.scale = 0))) && (sEq a0.text ((⟨#[]⟩ : ByteArray)))) && (decide (((a0.list.length : Int)) = 0))) && (decide (((a0.fields.length : Int)) = 0))
theorem Zpb (w0 : World) (B : List (List AV)) (Rw : List RowA) (L : List LoopA) (a0 : Vl) (r : Bool) (h : ZgD a0 = r) :
  ACalls Tryz.prog w0 22 [.agg (a0.cs)] ⟨B, Rw, L⟩ fun x st => x = .val (.bool r) ∧ st = ⟨B, Rw, L⟩ := by
 rw [ZgD] at h
 refine hd [.tmp 2] Tryz.func22 Tryz.ntmps22 fun M0 W0 hN hNR hNL hcalm hu hO hs => ?_
 simp only [Zas]
 refine rg [1] hs ?_
 refine rg [2] hs ?_
 apply Zag; simp +decide only [go_sem, Nat.reduceAdd]
 subst h
 first | refine ZaD hcalm rfl hO.pre ev ⟨?_, rfl⟩ | refine Za4 hcalm rfl hO.pre ev ⟨?_, rfl⟩
 first | rfl | (simp +decide only [go_sem, Nat.reduceAdd]; done) | (simp +decide only [go_sem, Nat.reduceAdd, Vl.cs, Ty.cs]; done)
theorem Znl (w0 : World) (B : List (List AV)) (Rw : List RowA) (L : List LoopA) (a0 : Vl) :
  ACalls Tryz.prog w0 22 [.agg (a0.cs)] ⟨B, Rw, L⟩ fun x st => x = .val (.bool (ZgD a0)) ∧ st = ⟨B, Rw, L⟩ := Zpb w0 B Rw L a0 _ rfl
def ZaC (a0 : Int) (a1 : Int) (a2 : Int) : Bool :=
 (decide (a0 < a1)) || (decide (a2 < a0))
theorem ZlC (w0 : World) (B : List (List AV)) (Rw : List RowA) (L : List LoopA) (a0 : Int) (a1 : Int) (a2 : Int) (r : Bool) (h : ZaC a0 a1 a2 = r) :
  ACalls Tryz.prog w0 158 [.val (.int .i64 a0), .val (.int .i64 a1), .val (.int .i64 a2)] ⟨B, Rw, L⟩ fun x st => x = .val (.bool r) ∧ st = ⟨B, Rw, L⟩ := by
 rw [ZaC] at h
 refine hd [.tmp 6] Tryz.func158 Tryz.ntmps158 fun M0 W0 hN hNR hNL hcalm hu hO hs => ?_
 simp only [Zas]
 refine rg [0, 1, 2] hs ?_
 refine rg [6] hs ?_
 apply Zag; simp +decide only [go_sem, Nat.reduceAdd]
 subst h
 first | refine ZaD hcalm rfl hO.pre ev ⟨?_, rfl⟩ | refine Za4 hcalm rfl hO.pre ev ⟨?_, rfl⟩
 first | rfl | (simp +decide only [go_sem, Nat.reduceAdd]; done) | (simp +decide only [go_sem, Nat.reduceAdd, Vl.cs, Ty.cs]; done)
theorem ZcS (w0 : World) (B : List (List AV)) (Rw : List RowA) (L : List LoopA) (a0 : Int) (a1 : Int) (a2 : Int) :
  ACalls Tryz.prog w0 158 [.val (.int .i64 a0), .val (.int .i64 a1), .val (.int .i64 a2)] ⟨B, Rw, L⟩ fun x st => x = .val (.bool (ZaC a0 a1 a2)) ∧ st = ⟨B, Rw, L⟩ := ZlC w0 B Rw L a0 a1 a2 _ rfl
def Za0 (a0 : Vl) : Bool :=
 (((((!((((decide (1 ≤ a0.kind)) && (decide (a0.kind ≤ 3))) || (decide (a0.kind = 6))) || (decide (a0.kind = 7)))) && (!(decide (a0.int = 0)))) || ((!(decide (a0.kind = 3))) && (!(decide (a0.scale = 0))))) || ((!(((decide (a0.kind = 4)) || (decide (a0.kind = 5))) || (decide (a0.kind = 10)))) && (!(sEq a0.text ((⟨#[]⟩ : ByteArray)))))) || ((!((decide (a0.kind = 8)) || (decide (a0.kind = 10)))) && (decide (0 < ((a0.list.length : Int)))))) || ((!(decide (a0.kind = 9))) && (decide (0 < ((a0.fields.length : Int)))))
theorem Zmv (w0 : World) (B : List (List AV)) (Rw : List RowA) (L : List LoopA) (a0 : Vl) (r : Bool) (h : Za0 a0 = r) :
  ACalls Tryz.prog w0 157 [.agg (a0.cs)] ⟨B, Rw, L⟩ fun x st => x = .val (.bool r) ∧ st = ⟨B, Rw, L⟩ := by
 rw [Za0] at h
 refine hd [.tmp 2] Tryz.func157 Tryz.ntmps157 fun M0 W0 hN hNR hNL hcalm hu hO hs => ?_
 simp only [Zas]
 refine rg [1] hs ?_
 refine rg [1, 3] hs ?_
 refine rg [1, 3, 4] hs ?_
 refine rg [1, 3, 4, 5] hs ?_
 refine rg [2] hs ?_
 apply Zag; simp +decide only [go_sem, Nat.reduceAdd]
 subst h
 first | refine ZaD hcalm rfl hO.pre ev ⟨?_, rfl⟩ | refine Za4 hcalm rfl hO.pre ev ⟨?_, rfl⟩
 first | rfl | (simp +decide only [go_sem, Nat.reduceAdd]; done) | (simp +decide only [go_sem, Nat.reduceAdd, Vl.cs, Ty.cs]; done)
theorem Zll (w0 : World) (B : List (List AV)) (Rw : List RowA) (L : List LoopA) (a0 : Vl) :
  ACalls Tryz.prog w0 157 [.agg (a0.cs)] ⟨B, Rw, L⟩ fun x st => x = .val (.bool (Za0 a0)) ∧ st = ⟨B, Rw, L⟩ := Zmv w0 B Rw L a0 _ rfl
def ZbT (n : Nat)  : Option Int :=
 some (0)
def Zfv (n : Nat) (a0 : Vl) (x51_k31 : Bool) : Option Int :=
 if x51_k31 then
  if decide (1024 < ((a0.text.size : Int))) then
   some (5)
  else
   if decide (a0.kind = 4) then
    if a0.text.size ≤ maxLen then
     if !(Lib.validD a0.text.data.toList) then
      some (16)
     else
      ZbT n 
    else none
   else
    ZbT n 
 else
  if decide (a0.kind = 6) then
   if ZaC a0.int ((-719162)) 2932896 then
    some (2)
   else
    ZbT n 
  else
   if decide (a0.kind = 7) then
    if ZaC a0.int ((-62135596800000)) 253402300799999 then
     some (2)
    else
     ZbT n 
   else
    if decide (a0.kind = 8) then
     if decide (256 < ((a0.list.length : Int))) then
      some (9)
     else
      ZbT n 
    else
     if decide (a0.kind = 9) then
      (ZeH n a0.fields).bind fun y64 =>
      some (y64)
     else
      if a0.text.size ≤ maxLen then
       if !(Zcf a0.text) then
        some (12)
       else
        if decide (((a0.list.length : Int)) = 0) then
         some (4)
        else
         if decide (1 < ((a0.list.length : Int))) then
          some (3)
         else
          ZbT n 
      else none
def ZfB (n : Nat) (a0 : Vl) (x40_k22 : Bool) : Option Int :=
 if x40_k22 then
  if (ZaC a0.int ((-999999999999999)) 999999999999999) || (ZaC a0.scale 0 12) then
   some (2)
  else
   ZbT n 
 else
  if decide (a0.kind = 4) then
   Zfv n a0 true
  else
   Zfv n a0 (decide (a0.kind = 5))
def Zif (n : Nat) (a0 : Vl) : Option Int :=
 if ZgD a0 then
  some (19)
 else
  if (decide (a0.kind < 1)) || (decide (10 < a0.kind)) then
   some (11)
  else
   if Za0 a0 then
    some (3)
   else
    if decide (a0.kind = 1) then
     if ZaC a0.int 0 1 then
      some (2)
     else
      ZbT n 
    else
     if decide (a0.kind = 2) then
      ZfB n a0 true
     else
      ZfB n a0 (decide (a0.kind = 3))
theorem ZpY (w0 : World) (hT : Lib.Utf8Tabs 0 1 w0) (n : Nat) (B : List (List AV)) (Rw : List RowA) (L : List LoopA) (a0 : Vl) (r : Int) (h : Zif n a0 = some r) :
  ACalls Tryz.prog w0 102 [.agg (a0.cs)] ⟨B, Rw, L⟩ fun x st => x = .val (.int .i64 r) ∧ st = ⟨B, Rw, L⟩ := by
 rw [Zif] at h
 refine hd [.tmp 2] Tryz.func102 Tryz.ntmps102 fun M0 W0 hN hNR hNL hcalm hu hO hs => ?_
 simp only [Zas]
 refine rg [1] hs ?_
 apply Zab; intro K2 hK2
 apply Zae
 refine rc 2 [1, 3] hs ?_; intro K3 hK3
 refine Zaf _ (Znl w0 _ _ _ a0) (hv hs) ?_
 refine ne hs hK3 ?_
 clear hK3
 refine cnd h hs (fun hs h => ?_) (fun hs h => ?_)
 ·
  have hb4 := hs.1
  refine rg [2] hs ?_
  exact rt h hs hcalm hO
 have hb4 := hs.1
 refine rg [1, 6] hs ?_
 refine cnd h hs (fun hs h => ?_) (fun hs h => ?_)
 ·
  have hb7 := hs.1
  refine rg [2] hs ?_
  exact rt h hs hcalm hO
 have hb7 := hs.1
 refine rc 2 [1, 15] hs ?_; intro K9 hK9
 refine Zaf _ (Zll w0 _ _ _ a0) (hv hs) ?_
 refine ne hs hK9 ?_
 clear hK9
 refine cnd h hs (fun hs h => ?_) (fun hs h => ?_)
 ·
  have hb10 := hs.1
  refine rg [2] hs ?_
  exact rt h hs hcalm hO
 have hb10 := hs.1
 refine sk [1] hs hK2 ?_
 clear hK2
 refine Zah (fun e st => Ck e st B Rw L [] [a0.cs] [] (ZbT n  = some r)) ?_ ?_
 ·
  intro K14 hK14
  refine rg [1, 19] hs ?_
  apply Zae
  refine rg [1, 19, 35] hs ?_
  refine cnd h hs (fun hs h => ?_) (fun hs h => ?_)
  ·
   have hb17 := hs.1
   refine rc 2 [39] hs ?_; intro K18 hK18
   refine Zaf _ (ZcS w0 _ _ _ a0.int 0 1) (hv hs) ?_
   refine ne hs hK18 ?_
   clear hK18
   refine cnd h hs (fun hs h => ?_) (fun hs h => ?_)
   ·
    refine rg [2] hs ?_
    exact rt h hs hcalm hO
   refine sk [] hs hK14 ?_
   exact ⟨([]), Rw, ef hs, ef hs, hO, h⟩
  have hb17 := hs.1
  refine Zah (fun e st => ∃ (x40_k22 : Bool), Ck e st B Rw L [(1, true, .box B.length 0), (19, true, .val (.int .i64 a0.kind)), (40, true, .val (.bool x40_k22))] [a0.cs] [] (ZfB n a0 x40_k22 = some r)) ?_ ?_
  ·
   intro K23 hK23
   refine rg [1, 19, 40] hs ?_
   refine cnd h hs (fun hs h => ?_) (fun hs h => ?_)
   ·
    refine sk [1, 19, 40] hs hK23 ?_
    exact ⟨true, ([]), Rw, ef hs, ef hs, hO, h⟩
   refine rl [1, 19, 40] hs hK23 ?_
   exact ⟨(decide (a0.kind = 3)), ([]), Rw, ef hs, ef hs, hO, h⟩
  ·
   clear h; rintro e st ⟨x40_k22, Xk22, Rk22, rfl, rfl, hO, h⟩
   rw [ZfB] at h
   refine td hN hNR hNL hcalm hO ?_
   refine cnd h hs (fun hs h => ?_) (fun hs h => ?_)
   ·
    have hb26 := hs.1
    refine rc 3 [50] hs ?_; intro K27 hK27
    refine Zaf _ (ZcS w0 _ _ _ a0.int ((-999999999999999)) 999999999999999) (hv hs) ?_
    refine nc hs ?_
    refine ZdK _ (fun _ => ZcS w0 _ _ _ a0.scale 0 12) (hv hs) ?_
    refine ne hs hK27 ?_
    clear hK27
    refine cnd h hs (fun hs h => ?_) (fun hs h => ?_)
    ·
     refine rg [2] hs ?_
     exact rt h hs hcalm hO
    refine sk [] hs hK14 ?_
    exact ⟨([]), Rk22, ef hs, ef hs, hO, h⟩
   have hb26 := hs.1
   refine Zah (fun e st => ∃ (x51_k31 : Bool), Ck e st B Rw L [(1, true, .box B.length 0), (19, true, .val (.int .i64 a0.kind)), (51, true, .val (.bool x51_k31))] [a0.cs] [] (Zfv n a0 x51_k31 = some r)) ?_ ?_
   ·
    intro K32 hK32
    refine rg [1, 19, 51] hs ?_
    refine cnd h hs (fun hs h => ?_) (fun hs h => ?_)
    ·
     refine sk [1, 19, 51] hs hK32 ?_
     exact ⟨true, ([]), Rk22, ef hs, ef hs, hO, h⟩
    refine rl [1, 19, 51] hs hK32 ?_
    exact ⟨(decide (a0.kind = 5)), ([]), Rk22, ef hs, ef hs, hO, h⟩
   ·
    clear h; rintro e st ⟨x51_k31, Xk31, Rk31, rfl, rfl, hO, h⟩
    rw [Zfv] at h
    refine td hN hNR hNL hcalm hO ?_
    refine cnd h hs (fun hs h => ?_) (fun hs h => ?_)
    ·
     have hb35 := hs.1
     apply Zab; intro K36 hK36
     refine rg [1, 57] hs ?_
     refine cnd h hs (fun hs h => ?_) (fun hs h => ?_)
     ·
      have hb38 := hs.1
      refine rg [2] hs ?_
      exact rt h hs hcalm hO
     have hb38 := hs.1
     refine sk [1] hs hK36 ?_
     clear hK36
     apply Zab; intro K40 hK40
     rcases Bool.eq_false_or_eq_true (decide (a0.kind = 4)) with hf41 | hf41
     ·
      replace h := ZaN h hf41
      obtain ⟨hg42, h⟩ := Zac h
      have hs := And.intro hf41 hs
      refine rk 2 [66] hs ?_
      refine Zaf _ (Zky w0 _ _ _ hT a0.text hg42) (hv hs) ?_
      refine ne hs hK40 ?_
      clear hK40
      refine cnd h hs (fun hs h => ?_) (fun hs h => ?_)
      ·
       refine rg [2] hs ?_
       exact rt h hs hcalm hO
      refine sk [] hs hK14 ?_
      exact ⟨([]), Rk31, ef hs, ef hs, hO, h⟩
     ·
      replace h := ZaM h hf41
      apply Zad 2 [66]
      rw [Zaa]; simp +decide only [go_sem, Nat.reduceAdd, hb4, hb7, hb10, hb17, hb26, hb35, hb38, hf41]
      (repeat' apply And.intro) <;> first | refine ZaE ?_ | exact cl
      rw [Zaa]; simp +decide only [go_sem, Nat.reduceAdd, hb4, hb7, hb10, hb17, hb26, hb35, hb38, hf41]
      (repeat' apply And.intro) <;> first | refine hK40 _ _ ?_ | exact cl
      clear hK40
      have hs := And.intro hf41 hs
      refine Zap false ev (ef hs) (fun hb45 => by cases hb45) (fun hb45 => ?_)
      refine sk [] hs hK14 ?_
      exact ⟨([]), Rk31, ef hs, ef hs, hO, h⟩
    have hb35 := hs.1
    refine rg [1, 19, 67] hs ?_
    refine cnd h hs (fun hs h => ?_) (fun hs h => ?_)
    ·
     refine rc 2 [71] hs ?_; intro K48 hK48
     refine Zaf _ (ZcS w0 _ _ _ a0.int ((-719162)) 2932896) (hv hs) ?_
     refine ne hs hK48 ?_
     clear hK48
     refine cnd h hs (fun hs h => ?_) (fun hs h => ?_)
     ·
      refine rg [2] hs ?_
      exact rt h hs hcalm hO
     refine sk [] hs hK14 ?_
     exact ⟨([]), Rk31, ef hs, ef hs, hO, h⟩
    refine rg [1, 19, 72] hs ?_
    refine cnd h hs (fun hs h => ?_) (fun hs h => ?_)
    ·
     refine rc 2 [76] hs ?_; intro K53 hK53
     refine Zaf _ (ZcS w0 _ _ _ a0.int ((-62135596800000)) 253402300799999) (hv hs) ?_
     refine ne hs hK53 ?_
     clear hK53
     refine cnd h hs (fun hs h => ?_) (fun hs h => ?_)
     ·
      refine rg [2] hs ?_
      exact rt h hs hcalm hO
     refine sk [] hs hK14 ?_
     exact ⟨([]), Rk31, ef hs, ef hs, hO, h⟩
    refine rg [1, 19, 77] hs ?_
    refine cnd h hs (fun hs h => ?_) (fun hs h => ?_)
    ·
     refine rg [82] hs ?_
     refine cnd h hs (fun hs h => ?_) (fun hs h => ?_)
     ·
      refine rg [2] hs ?_
      exact rt h hs hcalm hO
     refine sk [] hs hK14 ?_
     exact ⟨([]), Rk31, ef hs, ef hs, hO, h⟩
    refine rg [1, 83] hs ?_
    refine cnd h hs (fun hs h => ?_) (fun hs h => ?_)
    ·
     obtain ⟨y64, hy64, h⟩ := bind_some h
     refine rc 2 [2] hs ?_; intro K63 hK63
     refine Zaf _ (Zmq w0 n _ _ _ a0.fields _ hy64) (hv hs) ?_
     refine ne hs hK63 ?_
     clear hK63
     exact rt h hs hcalm hO
    apply Zae
    obtain ⟨hg66, h⟩ := Zac h
    refine rc 2 [1, 20] hs ?_; intro K65 hK65
    refine Zaf _ (Zlz w0 _ _ _ a0.text hg66) (hv hs) ?_
    refine ne hs hK65 ?_
    clear hK65
    refine cnd h hs (fun hs h => ?_) (fun hs h => ?_)
    ·
     refine rg [2] hs ?_
     exact rt h hs hcalm hO
    refine rg [1, 25] hs ?_
    refine cnd h hs (fun hs h => ?_) (fun hs h => ?_)
    ·
     refine rg [2] hs ?_
     exact rt h hs hcalm hO
    refine rg [30] hs ?_
    refine cnd h hs (fun hs h => ?_) (fun hs h => ?_)
    ·
     refine rg [2] hs ?_
     exact rt h hs hcalm hO
    refine sk [] hs hK14 ?_
    exact ⟨([]), Rk31, ef hs, ef hs, hO, h⟩
 ·
  clear h; rintro e st ⟨Xk13, Rk13, rfl, rfl, hO, h⟩
  rw [ZbT] at h
  refine td hN hNR hNL hcalm hO ?_
  refine rg [2] hs ?_
  exact rt h hs hcalm hO
def ZdN (n : Nat)  (x3_k4 : List Vl) : Option ((List Vl)) :=
 some (x3_k4)
def Zct (n : Nat) (a0 : Vl) : Nat → (List Vl) → Int → Option ((List Vl))
 | 0, _, _ => none
 | m + 1, x3_l21, x4_l21 =>
  if decide (x4_l21 < ((a0.fields.length : Int))) then
   (idx a0.fields x4_l21).bind fun x26 =>
   if (x3_l21.length + 1) * 88 ≤ 140737488355328 ∧ x3_l21.length + 1 ≤ 4611686018427387904 then
    if I64 (x4_l21 + 1) then
     (Zct n a0 m) (x3_l21 ++ ([x26.2])) (x4_l21 + 1)
    else none
   else none
  else
   ZdN n x3_l21
def Zc7 (n : Nat) (a0 : Vl) (x7_k8 : Bool) : Option ((List Vl)) :=
 if x7_k8 then
  if (0 + a0.list.length) * 88 ≤ 140737488355328 ∧ 0 + a0.list.length ≤ 4611686018427387904 then
   ZdN n a0.list
  else none
 else
  if decide (a0.kind = 9) then
   Zct n a0 n ([]) 0
  else
   ZdN n ([])
def Zey (n : Nat) (a0 : Vl) : Option ((List Vl)) :=
 if decide (a0.kind = 8) then
  Zc7 n a0 true
 else
  Zc7 n a0 (decide (a0.kind = 10))
theorem Zjz (w0 : World) (n : Nat) (B : List (List AV)) (Rw : List RowA) (L : List LoopA) (a0 : Vl) (r : (List Vl)) (h : Zey n a0 = some r) :
  ACalls Tryz.prog w0 103 [.agg (a0.cs)] ⟨B, Rw, L⟩ fun x st => x = .list (r.map avV) .none ∧ st = ⟨B, Rw, L⟩ := by
 rw [Zey] at h
 refine hd [.tmp 2] Tryz.func103 Tryz.ntmps103 fun M0 W0 hN hNR hNL hcalm hu hO hs => ?_
 simp only [Zas]
 refine rg [1] hs ?_
 refine rg [1, 3] hs ?_
 refine Zah (fun e st => ∃ (x3_k4 : List Vl) (ox3_k4 : Ev.Own), Ck e st B Rw L [(3, true, .list (x3_k4.map avV) ox3_k4)] [a0.cs] [(6, x3_k4.length, ox3_k4)] (ZdN n x3_k4 = some r)) ?_ ?_
 ·
  intro K5 hK5
  refine rg [1, 3, 6] hs ?_
  apply Zae
  refine Zah (fun e st => ∃ (x7_k8 : Bool), Ck e st B Rw L [(1, true, .box B.length 0), (3, true, .list ([]) .full), (6, true, .val (.int .i64 a0.kind)), (7, true, .val (.bool x7_k8))] [a0.cs] [] (Zc7 n a0 x7_k8 = some r)) ?_ ?_
  ·
   intro K9 hK9
   refine rg [1, 3, 6, 7] hs ?_
   refine cnd h hs (fun hs h => ?_) (fun hs h => ?_)
   ·
    refine sk [1, 3, 6, 7] hs hK9 ?_
    exact ⟨true, ([]), Rw, ef hs, ef hs, hO, h⟩
   refine rl [1, 3, 6, 7] hs hK9 ?_
   exact ⟨(decide (a0.kind = 10)), ([]), Rw, ef hs, ef hs, hO, h⟩
  ·
   clear h; rintro e st ⟨x7_k8, Xk8, Rk8, rfl, rfl, hO, h⟩
   rw [Zc7] at h
   refine td hN hNR hNL hcalm hO ?_
   refine cnd h hs (fun hs h => ?_) (fun hs h => ?_)
   ·
    obtain ⟨hg13, h⟩ := Zac h
    have hO := hO.full 6 0
    obtain ⟨o15, rows16, hO, hap17⟩ := hO.append (P := Tryz.prog) Zks (by rw [ZgZ]; rfl) (by decide) a0.list.length hg13.1 hg13.2
    simp only [Nat.zero_add] at hO
    replace hap17 := fun (ys : List AV) B L o2 => hap17 ([]) ys B L o2 (by first | rfl | simp only [List.length_map, List.length_nil, List.length_append, List.length_cons, Nat.zero_add])
    replace hap17 := fun B L o2 => hap17 (a0.list.map avV) B L o2 (by first | rfl | simp only [List.length_map, List.length_nil, List.length_cons]) ev
    try simp only [List.mem_singleton, List.mem_cons, List.not_mem_nil, or_false, forall_eq_or_imp, forall_eq, List.map_append, List.map_cons, List.map_nil, Zeo, ZeZ, ZeI, ZeW, Ze2, Zen, ZcY, Zc1, ZeL, ZbO, ZbP, Zc5] at hap17
    have hs := And.intro hap17 hs
    refine rl [3] hs hK5 ?_
    exact ⟨a0.list, o15, ([]), rows16, ef hs, ef hs, Owns.of_eq (hO) (by first | rfl | simp only [List.length_append, List.length_cons, List.length_nil, List.length_map, Nat.zero_add, Nat.add_zero]), h⟩
   refine rg [1, 3, 14] hs ?_
   refine cnd h hs (fun hs h => ?_) (fun hs h => ?_)
   ·
    refine rg [1, 3, 4] hs ?_
    apply Zae
    refine Zai (fun m e st => ∃ (x3_l21 : List Vl) (x4_l21 : Int) (ox3_l21 : Ev.Own), Ck e st B Rw L [(1, true, .box B.length 0), (3, true, .list (x3_l21.map avV) ox3_l21), (4, true, .val (.int .i64 x4_l21))] [a0.cs] [(6, x3_l21.length, ox3_l21)] (Zct n a0 m x3_l21 x4_l21 = some r)) n ⟨([]), 0, .full, ([]), Rk8, ef hs, ef hs, Owns.of_eq ((hO).full 6 0) (by first | rfl | simp only [List.length_append, List.length_cons, List.length_nil, List.length_map, Nat.zero_add, Nat.add_zero]), h⟩ ?_
    rintro ml21 e st ⟨x3_l21, x4_l21, ox3_l21, Xl21, Rl21, rfl, rfl, hO, h⟩ Ul21 Vl21
    cases ml21 with
    | zero => cases h
    | succ ml21 =>
    rw [Zct] at h
    have hU := hO.unders
    simp only [List.mem_cons, List.not_mem_nil, or_false, forall_eq_or_imp, forall_eq] at hU
    refine td hN hNR hNL hcalm hO ?_
    apply Zab; intro K22 hK22
    refine rg [1, 3, 4, 20] hs ?_
    refine cnd h hs (fun hs h => ?_) (fun hs h => ?_)
    rotate_left
    ·
     refine sx [3] hs hK5 ?_
     exact ⟨x3_l21, ox3_l21, ([]), Rl21, ef hs, ef hs, Owns.of_eq (hO) (by first | rfl | simp only [List.length_append, List.length_cons, List.length_nil, List.length_map, Nat.zero_add, Nat.add_zero]), h⟩
    refine sk [1, 3, 4] hs hK22 ?_
    clear hK22
    apply Zab; intro K25 hK25
    apply Zae
    obtain ⟨x26, hx26a, hx26b, hx26d, h⟩ := ix avF h
    obtain ⟨hg27, h⟩ := Zac h
    obtain ⟨o28, rows29, hO, hap30⟩ := hO.append (P := Tryz.prog) Zks (by rw [ZgZ]; rfl) (by decide) 1 hg27.1 hg27.2
    replace hap30 := fun (ys : List AV) B L o2 => hap30 (x3_l21.map avV) ys B L o2 (by first | rfl | simp only [List.length_map, List.length_nil, List.length_append, List.length_cons, Nat.zero_add])
    replace hap30 := fun (y : AV) B L o2 => hap30 [y] B L o2 (by first | rfl | simp only [List.length_map, List.length_nil, List.length_cons]) ev
    try simp only [List.mem_singleton, List.mem_cons, List.not_mem_nil, or_false, forall_eq_or_imp, forall_eq, List.map_append, List.map_cons, List.map_nil, Zeo, ZeZ, ZeI, ZeW, Ze2, Zen, ZcY, Zc1, ZeL, ZbO, ZbP, Zc5] at hap30
    have hs := And.intro hx26d hs
    have hs := And.intro hap30 hs
    refine rl [1, 3, 4] hs hK25 ?_
    clear hK25
    obtain ⟨hg31, h⟩ := Zac h
    refine rl [1, 3, 4] hs (fun e s => Vl21 ml21 e s (Nat.lt_succ_self _)) ?_
    exact ⟨(x3_l21 ++ ([x26.2])), (x4_l21 + 1), o28, ([]), rows29, ef hs, ef hs, Owns.of_eq (hO) (by first | rfl | simp only [List.length_append, List.length_cons, List.length_nil, List.length_map, Nat.zero_add, Nat.add_zero]), h⟩
   refine sk [3] hs hK5 ?_
   exact ⟨([]), .full, ([]), Rk8, ef hs, ef hs, Owns.of_eq ((hO).full 6 0) (by first | rfl | simp only [List.length_append, List.length_cons, List.length_nil, List.length_map, Nat.zero_add, Nat.add_zero]), h⟩
 ·
  clear h; rintro e st ⟨x3_k4, ox3_k4, Xk4, Rk4, rfl, rfl, hO, h⟩
  rw [ZdN] at h
  have hU := hO.unders
  simp only [List.mem_cons, List.not_mem_nil, or_false, forall_eq_or_imp, forall_eq] at hU
  refine td hN hNR hNL hcalm hO ?_
  refine rg [2] hs ?_
  exact rt h hs hcalm hO
@[go_sem] theorem vl_a6 (v : Vl) (x d : AV) : (v.cs ++ [x]).getD 6 d = x := by cases v; rfl
@[go_sem] theorem Zv4 (v : Vl) (a b c d e f g : AV) : ZbG [a, b, c, d, e, f, g] 0 v.cs = v.cs ++ [g] := by
 cases v; rfl
@[go_sem] theorem Zvr (v : Vl) (g x : AV) : ZbG (v.cs ++ [g]) 6 [x] = v.cs ++ [x] := by
 cases v; rfl
theorem Zmo (x : Itm) : (ZfY x).cells.length = 7 ∧ ZaO (ZfY x) = true := by simp +decide only [go_sem, and_self]
theorem ZiU (x : Itm) : (ZfY x).pub = ZfY x := by simp +decide only [go_sem]
theorem Zhj (x : Itm) : ∀ c ∈ (ZfY x).cells, ∀ a b d, Under a b d c := by
 intro c hc a b d
 simp only [ZfY, AV.cells, List.mem_append, List.mem_singleton] at hc
 rcases hc with hc | rfl
 ·
  exact x.v.under a b d c hc
 ·
  exact .val _
def Ze8 (n : Nat) (again_l8 : (List Itm) → Int → Option Int) (x4_l8 : Int) (x3_k13 : List Itm) : Option Int :=
 if I64 (x4_l8 + 1) then
  again_l8 x3_k13 (x4_l8 + 1)
 else none
def Zhp (n : Nat)  : Option Int :=
 some (0)
def ZcD (n : Nat) (again_l8 : (List Itm) → Int → Option Int) (x4_l8 : Int) (x17 : Itm) (y35 : (List Vl)) : Nat → (List Itm) → Int → Option Int
 | 0, _, _ => none
 | m + 1, x3_l38, x8_l38 =>
  if decide (0 ≤ x8_l38) then
   (idx y35 x8_l38).bind fun x43 =>
   if I64 (x17.level + 1) then
    if (x3_l38.length + 1) * 96 ≤ 140737488355328 ∧ x3_l38.length + 1 ≤ 4611686018427387904 then
     if I64 (x8_l38 - 1) then
      (ZcD n again_l8 x4_l8 x17 y35 m) (x3_l38 ++ ([Itm.mk x43 (x17.level + 1)])) (x8_l38 - 1)
     else none
    else none
   else none
  else
   Ze8 n again_l8 x4_l8 x3_l38
def Zb5 (n : Nat)  : Nat → (List Itm) → Int → Option Int
 | 0, _, _ => none
 | m + 1, x3_l8, x4_l8 =>
  if decide (0 < ((x3_l8.length : Int))) then
   if I64 (((x3_l8.length : Int)) - 1) then
    (idx x3_l8 (((x3_l8.length : Int)) - 1)).bind fun x17 =>
    if I64 (((x3_l8.length : Int)) - 1) then
     if 0 ≤ ((x3_l8.length : Int)) - 1 ∧ ((x3_l8.length : Int)) - 1 ≤ (x3_l8.length : Int) then
      if decide (4096 ≤ x4_l8) then
       some (9)
      else
       if decide (8 < x17.level) then
        some (23)
       else
        (Zif n x17.v).bind fun y30 =>
        if !(decide (y30 = 0)) then
         some (y30)
        else
         (Zey n x17.v).bind fun y35 =>
         if I64 (((y35.length : Int)) - 1) then
          ZcD n (Zb5 n m) x4_l8 x17 y35 n (x3_l8.take (((x3_l8.length : Int)) - 1).toNat) (((y35.length : Int)) - 1)
         else none
     else none
    else none
   else none
  else
   Zhp n 
def ZdI (n : Nat) (a0 : Vl) : Option Int :=
 Zb5 n n ([Itm.mk a0 1]) 0
theorem Zhw (w0 : World) (hT : Lib.Utf8Tabs 0 1 w0) (n : Nat) (B : List (List AV)) (Rw : List RowA) (L : List LoopA) (a0 : Vl) (r : Int) (h : ZdI n a0 = some r) :
  ACalls Tryz.prog w0 59 [.agg (a0.cs)] ⟨B, Rw, L⟩ fun x st => x = .val (.int .i64 r) ∧ st = ⟨B, Rw, L⟩ := by
 rw [ZdI] at h
 refine hd [.tmp 2] Tryz.func59 Tryz.ntmps59 fun M0 W0 hN hNR hNL hcalm hu hO hs => ?_
 simp only [Zas]
 refine rg [1] hs ?_
 apply Zab; intro K2 hK2
 refine ZsI 128 (by decide) ?_
 apply Zad 1 [3]
 rw [Zaa]; simp +decide only [go_sem, Nat.reduceAdd, ZaZ, ZaA, Zay]
 (repeat' apply And.intro) <;> first | refine hK2 _ _ ?_ | exact cl
 clear hK2
 refine Zah (fun e st => ∃ (xs_k5 : List AV) (id_k5 ver_k5 : Nat) (Xk5 : List (List AV)) (Rk5 : List RowA), e = [] ∧ st = ⟨B ++ ([a0.cs] ++ Xk5), Rk5, L⟩ ∧ VStk Rw Rk5 7 xs_k5 id_k5 ver_k5 ∧ Zhp n  = some r) ?_ ?_
 ·
  intro K6 hK6
  refine rg [3, 4] hs ?_
  apply Zae
  refine Zai (fun m e st => ∃ (x3_l8 : List Itm) (x4_l8 : Int) (id_l8 ver_l8 : Nat) (Xl8 : List (List AV)) (Rl8 : List RowA), e = [(3, true, .vec id_l8 ver_l8 0 x3_l8.length), (4, true, .val (.int .i64 x4_l8))] ∧ st = ⟨B ++ ([a0.cs] ++ Xl8), Rl8, L⟩ ∧ VStk Rw Rl8 7 (x3_l8.map ZfY) id_l8 ver_l8 ∧ Zb5 n m x3_l8 x4_l8 = some r) n ⟨([Itm.mk a0 1]), 0, Rw.length, 0, ([]), Rw ++ [.vec 0 7 ([ZfY (Itm.mk a0 1)].flatMap fun x => x.pub.cells)], ef hs, ef hs, VStk.start (y := ZfY (Itm.mk a0 1)) Rw (by simp only [List.flatMap_cons, List.flatMap_nil, List.append_nil, ZiU]) (Zmo _).1 (Zhj _), h⟩ ?_
  rintro ml8 e st ⟨x3_l8, x4_l8, id_l8, ver_l8, Xl8, Rl8, rfl, rfl, hO, h⟩ Ul8 Vl8
  cases ml8 with
  | zero => cases h
  | succ ml8 =>
  rw [Zb5] at h
  obtain ⟨cs, hvr, hget⟩ := hO.read
  have hU := hO.under
  refine tdS hN hNR hNL hcalm hO ?_
  have hs := And.intro hvr hs
  apply Zab; intro K9 hK9
  refine rg [3, 4, 14] hs ?_
  refine cnd h hs (fun hs h => ?_) (fun hs h => ?_)
  rotate_left
  ·
   have hb11 := hs.1
   refine sx [] hs hK6 ?_
   exact ⟨_, _, _, ([]), Rl8, ef hs, ef hs, hO, h⟩
  have hb11 := hs.1
  refine sk [3, 4] hs hK9 ?_
  clear hK9
  refine Zah (fun e st => ∃ (x3_k13 : List Itm) (id_k13 ver_k13 : Nat) (Xk13 : List (List AV)) (Rk13 : List RowA), e = [(3, true, .vec id_k13 ver_k13 0 x3_k13.length), (4, true, .val (.int .i64 x4_l8))] ∧ st = ⟨B ++ ([a0.cs] ++ Xk13), Rk13, L⟩ ∧ VStk Rw Rk13 7 (x3_k13.map ZfY) id_k13 ver_k13 ∧ Ze8 n (Zb5 n ml8) x4_l8 x3_k13 = some r) ?_ ?_
  ·
   intro K14 hK14
   apply Zae
   obtain ⟨hg16, h⟩ := Zac h
   obtain ⟨x17, hx17, h⟩ := bind_some h
   obtain ⟨hx17a, hx17b, hx17c⟩ := Zar hx17
   obtain ⟨hx17d, hx17e⟩ := hget _ (ZfY x17) (by rw [List.getElem?_map, hx17c]; rfl)
   replace hx17d : _ = x17.v.cs ++ [.val (.int .i64 x17.level)] := hx17d
   have hs := And.intro hx17d hs
   refine rg [3, 4, 5] hs ?_
   obtain ⟨hg19, h⟩ := Zac h
   obtain ⟨hg20, h⟩ := Zac h
   obtain ⟨x3t, hx3t⟩ : ∃ l, l = x3_l8.take (((x3_l8.length : Int)) - 1).toNat := ⟨_, rfl⟩
   have hx3n : (((x3_l8.length : Int)) - 1).toNat = x3t.length := by rw [hx3t, List.length_take]; omega
   rw [← hx3t] at h
   have hO := (hO.take (((x3_l8.length : Int)) - 1).toNat).of_eq (by rw [← List.map_take, ← hx3t])
   have hs := And.intro hx3n hs
   refine rg [3, 4, 5] hs ?_
   apply Zab; intro K21 hK21
   apply Zae
   refine rg [3, 4, 5, 28] hs ?_
   refine cnd h hs (fun hs h => ?_) (fun hs h => ?_)
   ·
    have hb23 := hs.1
    refine rg [2] hs ?_
    exact rt h hs hcalm hO
   have hb23 := hs.1
   refine rg [3, 4, 5, 31] hs ?_
   refine cnd h hs (fun hs h => ?_) (fun hs h => ?_)
   ·
    have hb26 := hs.1
    refine rg [2] hs ?_
    exact rt h hs hcalm hO
   have hb26 := hs.1
   refine sk [3, 4, 5] hs hK21 ?_
   clear hK21
   apply Zab; intro K28 hK28
   obtain ⟨y30, hy30, h⟩ := bind_some h
   refine rc 2 [3, 4, 5, 6] hs ?_; intro K29 hK29
   refine Zaf _ (ZpY w0 hT n _ _ _ x17.v _ hy30) (hv hs) ?_
   refine ne hs hK29 ?_
   clear hK29
   refine rg [3, 4, 5, 6, 39] hs ?_
   refine cnd h hs (fun hs h => ?_) (fun hs h => ?_)
   ·
    have hb32 := hs.1
    refine rg [2] hs ?_
    exact rt h hs hcalm hO
   have hb32 := hs.1
   refine sk [3, 4, 5] hs hK28 ?_
   clear hK28
   obtain ⟨y35, hy35, h⟩ := bind_some h
   refine rc 2 [3, 4, 5, 7] hs ?_; intro K34 hK34
   refine Zaf _ (Zjz w0 n _ _ _ x17.v _ hy35) (hv hs) ?_
   refine ne hs hK34 ?_
   clear hK34
   obtain ⟨hg37, h⟩ := Zac h
   refine rg [3, 4, 5, 7, 8] hs ?_
   apply Zae
   refine Zai (fun m e st => ∃ (x3_l38 : List Itm) (x8_l38 : Int) (id_l38 ver_l38 : Nat) (Xl38 : List (List AV)) (Rl38 : List RowA), e = [(3, true, .vec id_l38 ver_l38 0 x3_l38.length), (4, true, .val (.int .i64 x4_l8)), (5, true, .box (B.length + 1) 0), (7, true, .list (y35.map avV) .none), (8, true, .val (.int .i64 x8_l38))] ∧ st = ⟨B ++ ([a0.cs, (x17.v.cs) ++ ([.val (.int .i64 x17.level)])] ++ Xl38), Rl38, L⟩ ∧ VStk Rw Rl38 7 (x3_l38.map ZfY) id_l38 ver_l38 ∧ ZcD n (Zb5 n ml8) x4_l8 x17 y35 m x3_l38 x8_l38 = some r) n ⟨x3t, (((y35.length : Int)) - 1), id_l8, ver_l8, ([]), Rl8, ef hs, ef hs, hO, h⟩ ?_
   rintro ml38 e st ⟨x3_l38, x8_l38, id_l38, ver_l38, Xl38, Rl38, rfl, rfl, hO, h⟩ Ul38 Vl38
   cases ml38 with
   | zero => cases h
   | succ ml38 =>
   rw [ZcD] at h
   obtain ⟨cs, hvr, hget⟩ := hO.read
   have hU := hO.under
   refine tdS hN hNR hNL hcalm hO ?_
   have hs := And.intro hvr hs
   apply Zab; intro K39 hK39
   refine rg [3, 4, 5, 7, 8, 48] hs ?_
   refine cnd h hs (fun hs h => ?_) (fun hs h => ?_)
   rotate_left
   ·
    have hb41 := hs.1
    refine sx [3, 4] hs hK14 ?_
    exact ⟨x3_l38, id_l38, ver_l38, ([(x17.v.cs) ++ ([.val (.int .i64 x17.level)])]), Rl38, ef hs, ef hs, hO, h⟩
   have hb41 := hs.1
   refine sk [3, 4, 5, 7, 8] hs hK39 ?_
   clear hK39
   apply Zab; intro K42 hK42
   apply Zae
   obtain ⟨x43, hx43a, hx43b, hx43d, h⟩ := ix avV h
   obtain ⟨hg44, h⟩ := Zac h
   obtain ⟨hg45, h⟩ := Zac h
   obtain ⟨rows47, hO, hap48⟩ := hO.append (P := Tryz.prog) (y := ZfY (Itm.mk x43 (x17.level + 1))) Zu5 (by rw [Zqg]; rfl) (by decide) (by rw [List.length_map]; exact hg45.1) (by rw [List.length_map]; exact hg45.2) (Zmo _) (ZiU _) (Zhj _)
   rw [List.length_map] at hap48
   try simp only [List.mem_singleton, List.mem_cons, List.not_mem_nil, or_false, forall_eq_or_imp, forall_eq, List.map_append, List.map_cons, List.map_nil, Zeo, ZeZ, ZeI, ZeW, Ze2, Zen, ZcY, Zc1, ZeL, ZbO, ZbP, Zc5] at hap48
   apply Zak mix 10 1 1 [3, 4, 5, 7, 8] (by kernel_rfl)
   rw [Zaa]; simp +decide only [go_sem, Nat.reduceAdd, hb11, hx17d, hb23, hb26, hb32, hb41, hx43d, hap48, ZaZ, ZaA, Zay]
   (repeat' with_reducible apply And.intro) <;> first | (rw [Zaa]; simp +decide only [go_sem, Nat.reduceAdd, hb11, hx17d, hb23, hb26, hb32, hb41, hx43d, hap48, ZaZ, ZaA, Zay]) | exact cl
   (repeat' apply And.intro) <;> first | refine hK42 _ _ ?_ | exact cl
   clear hK42
   obtain ⟨hg49, h⟩ := Zac h
   have hs := And.intro hx43d hs
   have hs := And.intro hap48 hs
   refine rl [3, 4, 5, 7, 8] hs (fun e s => Vl38 ml38 e s (Nat.lt_succ_self _)) ?_
   exact ⟨(x3_l38 ++ ([Itm.mk x43 (x17.level + 1)])), (x8_l38 - 1), id_l38, ver_l38 + 1, ([]), rows47, ef hs, ef hs, hO.of_eq (by rw [List.map_append]; rfl), h⟩
  ·
   clear h; rintro e st ⟨x3_k13, id_k13, ver_k13, Xk13, Rk13, rfl, rfl, hO, h⟩
   rw [Ze8] at h
   obtain ⟨cs, hvr, hget⟩ := hO.read
   have hU := hO.under
   refine tdS hN hNR hNL hcalm hO ?_
   have hs := And.intro hvr hs
   obtain ⟨hg50, h⟩ := Zac h
   refine rl [3, 4] hs (fun e s => Vl8 ml8 e s (Nat.lt_succ_self _)) ?_
   exact ⟨x3_k13, (x4_l8 + 1), id_k13, ver_k13, ([]), Rk13, ef hs, ef hs, hO, h⟩
 ·
  clear h; rintro e st ⟨xs_k5, id_k5, ver_k5, Xk5, Rk5, rfl, rfl, hO, h⟩
  rw [Zhp] at h
  have hU := hO.under
  refine tdS hN hNR hNL hcalm hO ?_
  refine rg [2] hs ?_
  exact rt h hs hcalm hO
def Zbt (a0 : Vl) : Bool :=
 (((((decide (a0.kind = 0)) && (decide (a0.int = 0))) && (decide (a0.scale = 0))) && (sEq a0.text ((⟨#[]⟩ : ByteArray)))) && (decide (((a0.list.length : Int)) = 0))) && (decide (((a0.fields.length : Int)) = 0))
theorem ZnA (w0 : World) (B : List (List AV)) (Rw : List RowA) (L : List LoopA) (a0 : Vl) (r : Bool) (h : Zbt a0 = r) :
  ACalls Tryz.prog w0 90 [.agg (a0.cs)] ⟨B, Rw, L⟩ fun x st => x = .val (.bool r) ∧ st = ⟨B, Rw, L⟩ := by
 rw [Zbt] at h
 refine hd [.tmp 2] Tryz.func90 Tryz.ntmps90 fun M0 W0 hN hNR hNL hcalm hu hO hs => ?_
 simp only [Zas]
 refine rg [1] hs ?_
 refine rg [2] hs ?_
 apply Zag; simp +decide only [go_sem, Nat.reduceAdd]
 subst h
 first | refine ZaD hcalm rfl hO.pre ev ⟨?_, rfl⟩ | refine Za4 hcalm rfl hO.pre ev ⟨?_, rfl⟩
 first | rfl | (simp +decide only [go_sem, Nat.reduceAdd]; done) | (simp +decide only [go_sem, Nat.reduceAdd, Vl.cs, Ty.cs]; done)
theorem ZgS (w0 : World) (B : List (List AV)) (Rw : List RowA) (L : List LoopA) (a0 : Vl) :
  ACalls Tryz.prog w0 90 [.agg (a0.cs)] ⟨B, Rw, L⟩ fun x st => x = .val (.bool (Zbt a0)) ∧ st = ⟨B, Rw, L⟩ := ZnA w0 B Rw L a0 _ rfl
def ZaV (a0 : Int) (a1 : Int) (a2 : Int) : Int :=
 if (decide (a0 < a1)) || (decide (a2 < a0)) then
  2
 else
  0
theorem Zmb (w0 : World) (B : List (List AV)) (Rw : List RowA) (L : List LoopA) (a0 : Int) (a1 : Int) (a2 : Int) (r : Int) (h : ZaV a0 a1 a2 = r) :
  ACalls Tryz.prog w0 123 [.val (.int .i64 a0), .val (.int .i64 a1), .val (.int .i64 a2)] ⟨B, Rw, L⟩ fun x st => x = .val (.int .i64 r) ∧ st = ⟨B, Rw, L⟩ := by
 rw [ZaV] at h
 refine hd [.tmp 6] Tryz.func123 Tryz.ntmps123 fun M0 W0 hN hNR hNL hcalm hu hO hs => ?_
 simp only [Zas]
 refine rg [0, 1, 2] hs ?_
 apply Zab; intro K2 hK2
 refine rg [14] hs ?_
 refine cnd h hs (fun hs h => ?_) (fun hs h => ?_)
 ·
  have hb4 := hs.1
  refine rg [6] hs ?_
  apply Zag; simp +decide only [go_sem, Nat.reduceAdd, hb4]
  subst h
  first | refine ZaD hcalm rfl hO.pre ev ⟨?_, rfl⟩ | refine Za4 hcalm rfl hO.pre ev ⟨?_, rfl⟩
  first | rfl | (simp +decide only [go_sem, Nat.reduceAdd, hb4]; done) | (simp +decide only [go_sem, Nat.reduceAdd, Vl.cs, Ty.cs, hb4]; done)
 have hb4 := hs.1
 refine sk [] hs hK2 ?_
 clear hK2
 refine rg [6] hs ?_
 apply Zag; simp +decide only [go_sem, Nat.reduceAdd, hb4]
 subst h
 first | refine ZaD hcalm rfl hO.pre ev ⟨?_, rfl⟩ | refine Za4 hcalm rfl hO.pre ev ⟨?_, rfl⟩
 first | rfl | (simp +decide only [go_sem, Nat.reduceAdd, hb4]; done) | (simp +decide only [go_sem, Nat.reduceAdd, Vl.cs, Ty.cs, hb4]; done)
theorem ZcF (w0 : World) (B : List (List AV)) (Rw : List RowA) (L : List LoopA) (a0 : Int) (a1 : Int) (a2 : Int) :
  ACalls Tryz.prog w0 123 [.val (.int .i64 a0), .val (.int .i64 a1), .val (.int .i64 a2)] ⟨B, Rw, L⟩ fun x st => x = .val (.int .i64 (ZaV a0 a1 a2)) ∧ st = ⟨B, Rw, L⟩ := Zmb w0 B Rw L a0 a1 a2 _ rfl
def Zcv (a0 : Vl) : Int :=
 ZaV a0.int 0 1
theorem ZlV (w0 : World) (B : List (List AV)) (Rw : List RowA) (L : List LoopA) (a0 : Vl) (r : Int) (h : Zcv a0 = r) :
  ACalls Tryz.prog w0 122 [.agg (a0.cs)] ⟨B, Rw, L⟩ fun x st => x = .val (.int .i64 r) ∧ st = ⟨B, Rw, L⟩ := by
 rw [Zcv] at h
 refine hd [.tmp 2] Tryz.func122 Tryz.ntmps122 fun M0 W0 hN hNR hNL hcalm hu hO hs => ?_
 simp only [Zas]
 refine rg [1] hs ?_
 refine rc 2 [2] hs ?_; intro K2 hK2
 refine Zaf _ (ZcF w0 _ _ _ a0.int 0 1) (hv hs) ?_
 refine ne hs hK2 ?_
 clear hK2
 apply Zag; simp +decide only [go_sem, Nat.reduceAdd]
 subst h
 first | refine ZaD hcalm rfl hO.pre ev ⟨?_, rfl⟩ | refine Za4 hcalm rfl hO.pre ev ⟨?_, rfl⟩
 first | rfl | (simp +decide only [go_sem, Nat.reduceAdd]; done) | (simp +decide only [go_sem, Nat.reduceAdd, Vl.cs, Ty.cs]; done)
theorem Zlu (w0 : World) (B : List (List AV)) (Rw : List RowA) (L : List LoopA) (a0 : Vl) :
  ACalls Tryz.prog w0 122 [.agg (a0.cs)] ⟨B, Rw, L⟩ fun x st => x = .val (.int .i64 (Zcv a0)) ∧ st = ⟨B, Rw, L⟩ := ZlV w0 B Rw L a0 _ rfl
def Zbj (a0 : Int) (a1 : Int) (a2 : Int) : Int :=
 if decide (a1 < a0) then
  a2
 else
  0
theorem ZpJ (w0 : World) (B : List (List AV)) (Rw : List RowA) (L : List LoopA) (a0 : Int) (a1 : Int) (a2 : Int) (r : Int) (h : Zbj a0 a1 a2 = r) :
  ACalls Tryz.prog w0 128 [.val (.int .i64 a0), .val (.int .i64 a1), .val (.int .i64 a2)] ⟨B, Rw, L⟩ fun x st => x = .val (.int .i64 r) ∧ st = ⟨B, Rw, L⟩ := by
 rw [Zbj] at h
 refine hd [.tmp 6] Tryz.func128 Tryz.ntmps128 fun M0 W0 hN hNR hNL hcalm hu hO hs => ?_
 simp only [Zas]
 refine rg [0, 1, 2] hs ?_
 apply Zab; intro K2 hK2
 refine rg [2, 9] hs ?_
 refine cnd h hs (fun hs h => ?_) (fun hs h => ?_)
 ·
  have hb4 := hs.1
  refine rg [6] hs ?_
  apply Zag; simp +decide only [go_sem, Nat.reduceAdd, hb4]
  subst h
  first | refine ZaD hcalm rfl hO.pre ev ⟨?_, rfl⟩ | refine Za4 hcalm rfl hO.pre ev ⟨?_, rfl⟩
  first | rfl | (simp +decide only [go_sem, Nat.reduceAdd, hb4]; done) | (simp +decide only [go_sem, Nat.reduceAdd, Vl.cs, Ty.cs, hb4]; done)
 have hb4 := hs.1
 refine sk [] hs hK2 ?_
 clear hK2
 refine rg [6] hs ?_
 apply Zag; simp +decide only [go_sem, Nat.reduceAdd, hb4]
 subst h
 first | refine ZaD hcalm rfl hO.pre ev ⟨?_, rfl⟩ | refine Za4 hcalm rfl hO.pre ev ⟨?_, rfl⟩
 first | rfl | (simp +decide only [go_sem, Nat.reduceAdd, hb4]; done) | (simp +decide only [go_sem, Nat.reduceAdd, Vl.cs, Ty.cs, hb4]; done)
theorem ZfF (w0 : World) (B : List (List AV)) (Rw : List RowA) (L : List LoopA) (a0 : Int) (a1 : Int) (a2 : Int) :
  ACalls Tryz.prog w0 128 [.val (.int .i64 a0), .val (.int .i64 a1), .val (.int .i64 a2)] ⟨B, Rw, L⟩ fun x st => x = .val (.int .i64 (Zbj a0 a1 a2)) ∧ st = ⟨B, Rw, L⟩ := ZpJ w0 B Rw L a0 a1 a2 _ rfl
def Zd3 (a0 : Vl) : Option Int :=
 if a0.text.size ≤ maxLen then
  if !(Zcf a0.text) then
   some (12)
  else
   if decide (((a0.list.length : Int)) = 0) then
    some (4)
   else
    some (Zbj ((a0.list.length : Int)) 1 3)
 else none
theorem ZlE (w0 : World) (B : List (List AV)) (Rw : List RowA) (L : List LoopA) (a0 : Vl) (r : Int) (h : Zd3 a0 = some r) :
  ACalls Tryz.prog w0 135 [.agg (a0.cs)] ⟨B, Rw, L⟩ fun x st => x = .val (.int .i64 r) ∧ st = ⟨B, Rw, L⟩ := by
 rw [Zd3] at h
 refine hd [.tmp 2] Tryz.func135 Tryz.ntmps135 fun M0 W0 hN hNR hNL hcalm hu hO hs => ?_
 simp only [Zas]
 refine rg [1] hs ?_
 apply Zab; intro K2 hK2
 apply Zae
 obtain ⟨hg4, h⟩ := Zac h
 refine rc 2 [1, 3] hs ?_; intro K3 hK3
 refine Zaf _ (ZhS w0 _ _ _ a0.text hg4) (hv hs) ?_
 refine ne hs hK3 ?_
 clear hK3
 refine cnd h hs (fun hs h => ?_) (fun hs h => ?_)
 ·
  refine rg [2] hs ?_
  exact rt h hs hcalm hO
 refine rg [1, 8] hs ?_
 refine cnd h hs (fun hs h => ?_) (fun hs h => ?_)
 ·
  refine rg [2] hs ?_
  exact rt h hs hcalm hO
 refine sk [1] hs hK2 ?_
 clear hK2
 refine rc 2 [2] hs ?_; intro K10 hK10
 refine Zaf _ (ZfF w0 _ _ _ ((a0.list.length : Int)) 1 3) (hv hs) ?_
 refine ne hs hK10 ?_
 clear hK10
 exact rt h hs hcalm hO
def Zcn (a0 : Vl) : Int :=
 ZaV a0.int ((-999999999999999)) 999999999999999
theorem ZmL (w0 : World) (B : List (List AV)) (Rw : List RowA) (L : List LoopA) (a0 : Vl) (r : Int) (h : Zcn a0 = r) :
  ACalls Tryz.prog w0 124 [.agg (a0.cs)] ⟨B, Rw, L⟩ fun x st => x = .val (.int .i64 r) ∧ st = ⟨B, Rw, L⟩ := by
 rw [Zcn] at h
 refine hd [.tmp 2] Tryz.func124 Tryz.ntmps124 fun M0 W0 hN hNR hNL hcalm hu hO hs => ?_
 simp only [Zas]
 refine rg [1] hs ?_
 refine rc 2 [2] hs ?_; intro K2 hK2
 refine Zaf _ (ZcF w0 _ _ _ a0.int ((-999999999999999)) 999999999999999) (hv hs) ?_
 refine ne hs hK2 ?_
 clear hK2
 apply Zag; simp +decide only [go_sem, Nat.reduceAdd]
 subst h
 first | refine ZaD hcalm rfl hO.pre ev ⟨?_, rfl⟩ | refine Za4 hcalm rfl hO.pre ev ⟨?_, rfl⟩
 first | rfl | (simp +decide only [go_sem, Nat.reduceAdd]; done) | (simp +decide only [go_sem, Nat.reduceAdd, Vl.cs, Ty.cs]; done)
theorem Zk3 (w0 : World) (B : List (List AV)) (Rw : List RowA) (L : List LoopA) (a0 : Vl) :
  ACalls Tryz.prog w0 124 [.agg (a0.cs)] ⟨B, Rw, L⟩ fun x st => x = .val (.int .i64 (Zcn a0)) ∧ st = ⟨B, Rw, L⟩ := ZmL w0 B Rw L a0 _ rfl
def ZgU (n : Nat)  : Option Int :=
 some (0)
def Zdw (n : Nat) (a0 : List Int) : Nat → Int → Option Int
 | 0, _ => none
 | m + 1, x7_l6 =>
  if decide (x7_l6 < ((a0.length : Int))) then
   (idx a0 x7_l6).bind fun x12 =>
   if !(decide (x12 = 0)) then
    some (x12)
   else
    if I64 (x7_l6 + 1) then
     (Zdw n a0 m) (x7_l6 + 1)
    else none
  else
   ZgU n 
def ZgE (n : Nat) (a0 : List Int) : Option Int :=
 Zdw n a0 n 0
theorem ZoC (w0 : World) (n : Nat) (B : List (List AV)) (Rw : List RowA) (L : List LoopA) (a0 : List Int) (r : Int) (h : ZgE n a0 = some r) :
  ACalls Tryz.prog w0 126 [.list (a0.map avI) .none] ⟨B, Rw, L⟩ fun x st => x = .val (.int .i64 r) ∧ st = ⟨B, Rw, L⟩ := by
 rw [ZgE] at h
 refine hd [.tmp 2] Tryz.func126 Tryz.ntmps126 fun M0 W0 hN hNR hNL hcalm hu hO hs => ?_
 simp only [Zas]
 refine rg [0] hs ?_
 refine Zah (fun e st => Ck e st B Rw L [] [] [] (ZgU n  = some r)) ?_ ?_
 ·
  intro K4 hK4
  refine rg [5, 6, 7] hs ?_
  apply Zae
  refine Zai (fun m e st => ∃ (x7_l6 : Int), Ck e st B Rw L [(5, true, .list (a0.map avI) .none), (6, true, .val (.int .i64 ((a0.length : Int)))), (7, true, .val (.int .i64 x7_l6))] [] [] (Zdw n a0 m x7_l6 = some r)) n ⟨0, ([]), Rw, ef hs, ef hs, hO, h⟩ ?_
  rintro ml6 e st ⟨x7_l6, Xl6, Rl6, rfl, rfl, hO, h⟩ Ul6 Vl6
  cases ml6 with
  | zero => cases h
  | succ ml6 =>
  rw [Zdw] at h
  refine td hN hNR hNL hcalm hO ?_
  refine rg [5, 6, 7, 8] hs ?_
  apply Zab; intro K8 hK8
  refine cnd h hs (fun hs h => ?_) (fun hs h => ?_)
  rotate_left
  ·
   refine sx [] hs hK4 ?_
   exact ⟨([]), Rl6, ef hs, ef hs, hO, h⟩
  refine sk [5, 6, 7] hs hK8 ?_
  clear hK8
  apply Zab; intro K10 hK10
  apply Zae
  obtain ⟨x12, hx12, h⟩ := bind_some h
  obtain ⟨hx12a, hx12b, hx12c⟩ := Zar hx12
  have hx12d := Zau (f := avI) hx12c
  have hs := And.intro hx12d hs
  refine rg [4, 5, 6, 7] hs ?_
  refine rg [4, 5, 6, 7, 12] hs ?_
  refine cnd h hs (fun hs h => ?_) (fun hs h => ?_)
  ·
   refine rg [2] hs ?_
   exact rt h hs hcalm hO
  refine sk [5, 6, 7] hs hK10 ?_
  clear hK10
  obtain ⟨hg16, h⟩ := Zac h
  refine rl [5, 6, 7] hs (fun e s => Vl6 ml6 e s (Nat.lt_succ_self _)) ?_
  exact ⟨(x7_l6 + 1), ([]), Rl6, ef hs, ef hs, hO, h⟩
 ·
  clear h; rintro e st ⟨Xk3, Rk3, rfl, rfl, hO, h⟩
  rw [ZgU] at h
  refine td hN hNR hNL hcalm hO ?_
  refine rg [2] hs ?_
  exact rt h hs hcalm hO
def ZeT (n : Nat) (a0 : Vl) : Option Int :=
 (ZgE n ([ZaV a0.int ((-999999999999999)) 999999999999999, ZaV a0.scale 0 12])).bind fun y3 =>
 some (y3)
theorem ZlJ (w0 : World) (n : Nat) (B : List (List AV)) (Rw : List RowA) (L : List LoopA) (a0 : Vl) (r : Int) (h : ZeT n a0 = some r) :
  ACalls Tryz.prog w0 125 [.agg (a0.cs)] ⟨B, Rw, L⟩ fun x st => x = .val (.int .i64 r) ∧ st = ⟨B, Rw, L⟩ := by
 rw [ZeT] at h
 refine hd [.tmp 2] Tryz.func125 Tryz.ntmps125 fun M0 W0 hN hNR hNL hcalm hu hO hs => ?_
 simp only [Zas]
 refine rg [1] hs ?_
 apply Zab; intro K2 hK2
 obtain ⟨y3, hy3, h⟩ := bind_some h
 apply Zak mix 9 4 1 [2] (by kernel_rfl)
 rw [Zaa]; simp +decide only [go_sem, Nat.reduceAdd]
 (repeat' apply And.intro) <;> first | refine Zaf _ (ZcF w0 _ _ _ a0.int ((-999999999999999)) 999999999999999) (hv hs) ?_ | exact cl
 rw [Zaa]; simp +decide only [go_sem, Nat.reduceAdd]
 (repeat' apply And.intro) <;> first | refine Zaf _ (ZcF w0 _ _ _ a0.scale 0 12) (hv hs) ?_ | exact cl
 rw [Zaa]; simp +decide only [go_sem, Nat.reduceAdd]
 (repeat' apply And.intro) <;> first | refine Zaf _ (ZoC w0 n _ _ _ ([ZaV a0.int ((-999999999999999)) 999999999999999, ZaV a0.scale 0 12]) _ hy3) (hv hs) ?_ | exact cl
 rw [Zaa]; simp +decide only [go_sem, Nat.reduceAdd]
 (repeat' with_reducible apply And.intro) <;> first | (rw [Zaa]; simp +decide only [go_sem, Nat.reduceAdd]) | exact cl
 (repeat' apply And.intro) <;> first | refine hK2 _ _ ?_ | exact cl
 clear hK2
 exact rt h hs hcalm hO
def Zc8  (x3_k4 : Int) : Option Int :=
 some (x3_k4)
def ZeJ (a0 : Vl) : Option Int :=
 if decide ((Zbj ((a0.text.size : Int)) 1024 5) = 0) then
  if a0.text.size ≤ maxLen then
   if !(Lib.validD a0.text.data.toList) then
    Zc8  16
   else
    Zc8  (Zbj ((a0.text.size : Int)) 1024 5)
  else none
 else
  Zc8  (Zbj ((a0.text.size : Int)) 1024 5)
theorem Zmt (w0 : World) (hT : Lib.Utf8Tabs 0 1 w0) (B : List (List AV)) (Rw : List RowA) (L : List LoopA) (a0 : Vl) (r : Int) (h : ZeJ a0 = some r) :
  ACalls Tryz.prog w0 127 [.agg (a0.cs)] ⟨B, Rw, L⟩ fun x st => x = .val (.int .i64 r) ∧ st = ⟨B, Rw, L⟩ := by
 rw [ZeJ] at h
 refine hd [.tmp 2] Tryz.func127 Tryz.ntmps127 fun M0 W0 hN hNR hNL hcalm hu hO hs => ?_
 simp only [Zas]
 refine rg [1] hs ?_
 refine rc 2 [1, 3] hs ?_; intro K2 hK2
 refine Zaf _ (ZfF w0 _ _ _ ((a0.text.size : Int)) 1024 5) (hv hs) ?_
 refine ne hs hK2 ?_
 clear hK2
 refine Zah (fun e st => ∃ (x3_k4 : Int), Ck e st B Rw L [(3, true, .val (.int .i64 x3_k4))] [a0.cs] [] (Zc8  x3_k4 = some r)) ?_ ?_
 ·
  intro K5 hK5
  apply Zab; intro K6 hK6
  rcases Bool.eq_false_or_eq_true (decide ((Zbj ((a0.text.size : Int)) 1024 5) = 0)) with hf7 | hf7
  ·
   replace h := ZaN h hf7
   obtain ⟨hg8, h⟩ := Zac h
   have hs := And.intro hf7 hs
   refine rk 2 [3, 15] hs ?_
   refine Zaf _ (Zky w0 _ _ _ hT a0.text hg8) (hv hs) ?_
   refine ne hs hK6 ?_
   clear hK6
   refine cnd h hs (fun hs h => ?_) (fun hs h => ?_)
   ·
    refine rl [3] hs hK5 ?_
    exact ⟨16, ([]), Rw, ef hs, ef hs, hO, h⟩
   refine sk [3] hs hK5 ?_
   exact ⟨(Zbj ((a0.text.size : Int)) 1024 5), ([]), Rw, ef hs, ef hs, hO, h⟩
  ·
   replace h := ZaM h hf7
   apply Zad 2 [3, 15]
   rw [Zaa]; simp +decide only [go_sem, Nat.reduceAdd, hf7]
   (repeat' apply And.intro) <;> first | refine ZaE ?_ | exact cl
   rw [Zaa]; simp +decide only [go_sem, Nat.reduceAdd, hf7]
   (repeat' apply And.intro) <;> first | refine hK6 _ _ ?_ | exact cl
   clear hK6
   have hs := And.intro hf7 hs
   refine Zap false ev (ef hs) (fun hb10 => by cases hb10) (fun hb10 => ?_)
   refine sk [3] hs hK5 ?_
   exact ⟨(Zbj ((a0.text.size : Int)) 1024 5), ([]), Rw, ef hs, ef hs, hO, h⟩
 ·
  clear h; rintro e st ⟨x3_k4, Xk4, Rk4, rfl, rfl, hO, h⟩
  rw [Zc8] at h
  refine td hN hNR hNL hcalm hO ?_
  refine rg [2] hs ?_
  exact rt h hs hcalm hO
def Zcm (a0 : Vl) : Int :=
 Zbj ((a0.text.size : Int)) 1024 5
theorem Zmi (w0 : World) (B : List (List AV)) (Rw : List RowA) (L : List LoopA) (a0 : Vl) (r : Int) (h : Zcm a0 = r) :
  ACalls Tryz.prog w0 130 [.agg (a0.cs)] ⟨B, Rw, L⟩ fun x st => x = .val (.int .i64 r) ∧ st = ⟨B, Rw, L⟩ := by
 rw [Zcm] at h
 refine hd [.tmp 2] Tryz.func130 Tryz.ntmps130 fun M0 W0 hN hNR hNL hcalm hu hO hs => ?_
 simp only [Zas]
 refine rg [1] hs ?_
 refine rc 2 [2] hs ?_; intro K2 hK2
 refine Zaf _ (ZfF w0 _ _ _ ((a0.text.size : Int)) 1024 5) (hv hs) ?_
 refine ne hs hK2 ?_
 clear hK2
 apply Zag; simp +decide only [go_sem, Nat.reduceAdd]
 subst h
 first | refine ZaD hcalm rfl hO.pre ev ⟨?_, rfl⟩ | refine Za4 hcalm rfl hO.pre ev ⟨?_, rfl⟩
 first | rfl | (simp +decide only [go_sem, Nat.reduceAdd]; done) | (simp +decide only [go_sem, Nat.reduceAdd, Vl.cs, Ty.cs]; done)
theorem ZkZ (w0 : World) (B : List (List AV)) (Rw : List RowA) (L : List LoopA) (a0 : Vl) :
  ACalls Tryz.prog w0 130 [.agg (a0.cs)] ⟨B, Rw, L⟩ fun x st => x = .val (.int .i64 (Zcm a0)) ∧ st = ⟨B, Rw, L⟩ := Zmi w0 B Rw L a0 _ rfl
def Zco (a0 : Vl) : Int :=
 ZaV a0.int ((-719162)) 2932896
theorem ZlM (w0 : World) (B : List (List AV)) (Rw : List RowA) (L : List LoopA) (a0 : Vl) (r : Int) (h : Zco a0 = r) :
  ACalls Tryz.prog w0 131 [.agg (a0.cs)] ⟨B, Rw, L⟩ fun x st => x = .val (.int .i64 r) ∧ st = ⟨B, Rw, L⟩ := by
 rw [Zco] at h
 refine hd [.tmp 2] Tryz.func131 Tryz.ntmps131 fun M0 W0 hN hNR hNL hcalm hu hO hs => ?_
 simp only [Zas]
 refine rg [1] hs ?_
 refine rc 2 [2] hs ?_; intro K2 hK2
 refine Zaf _ (ZcF w0 _ _ _ a0.int ((-719162)) 2932896) (hv hs) ?_
 refine ne hs hK2 ?_
 clear hK2
 apply Zag; simp +decide only [go_sem, Nat.reduceAdd]
 subst h
 first | refine ZaD hcalm rfl hO.pre ev ⟨?_, rfl⟩ | refine Za4 hcalm rfl hO.pre ev ⟨?_, rfl⟩
 first | rfl | (simp +decide only [go_sem, Nat.reduceAdd]; done) | (simp +decide only [go_sem, Nat.reduceAdd, Vl.cs, Ty.cs]; done)
theorem Zla (w0 : World) (B : List (List AV)) (Rw : List RowA) (L : List LoopA) (a0 : Vl) :
  ACalls Tryz.prog w0 131 [.agg (a0.cs)] ⟨B, Rw, L⟩ fun x st => x = .val (.int .i64 (Zco a0)) ∧ st = ⟨B, Rw, L⟩ := ZlM w0 B Rw L a0 _ rfl
def Zcr (a0 : Vl) : Int :=
 ZaV a0.int ((-62135596800000)) 253402300799999
theorem Zl7 (w0 : World) (B : List (List AV)) (Rw : List RowA) (L : List LoopA) (a0 : Vl) (r : Int) (h : Zcr a0 = r) :
  ACalls Tryz.prog w0 132 [.agg (a0.cs)] ⟨B, Rw, L⟩ fun x st => x = .val (.int .i64 r) ∧ st = ⟨B, Rw, L⟩ := by
 rw [Zcr] at h
 refine hd [.tmp 2] Tryz.func132 Tryz.ntmps132 fun M0 W0 hN hNR hNL hcalm hu hO hs => ?_
 simp only [Zas]
 refine rg [1] hs ?_
 refine rc 2 [2] hs ?_; intro K2 hK2
 refine Zaf _ (ZcF w0 _ _ _ a0.int ((-62135596800000)) 253402300799999) (hv hs) ?_
 refine ne hs hK2 ?_
 clear hK2
 apply Zag; simp +decide only [go_sem, Nat.reduceAdd]
 subst h
 first | refine ZaD hcalm rfl hO.pre ev ⟨?_, rfl⟩ | refine Za4 hcalm rfl hO.pre ev ⟨?_, rfl⟩
 first | rfl | (simp +decide only [go_sem, Nat.reduceAdd]; done) | (simp +decide only [go_sem, Nat.reduceAdd, Vl.cs, Ty.cs]; done)
theorem Zly (w0 : World) (B : List (List AV)) (Rw : List RowA) (L : List LoopA) (a0 : Vl) :
  ACalls Tryz.prog w0 132 [.agg (a0.cs)] ⟨B, Rw, L⟩ fun x st => x = .val (.int .i64 (Zcr a0)) ∧ st = ⟨B, Rw, L⟩ := Zl7 w0 B Rw L a0 _ rfl
def Zcs (a0 : Vl) : Int :=
 Zbj ((a0.list.length : Int)) 256 9
theorem Zml (w0 : World) (B : List (List AV)) (Rw : List RowA) (L : List LoopA) (a0 : Vl) (r : Int) (h : Zcs a0 = r) :
  ACalls Tryz.prog w0 133 [.agg (a0.cs)] ⟨B, Rw, L⟩ fun x st => x = .val (.int .i64 r) ∧ st = ⟨B, Rw, L⟩ := by
 rw [Zcs] at h
 refine hd [.tmp 2] Tryz.func133 Tryz.ntmps133 fun M0 W0 hN hNR hNL hcalm hu hO hs => ?_
 simp only [Zas]
 refine rg [1] hs ?_
 refine rc 2 [2] hs ?_; intro K2 hK2
 refine Zaf _ (ZfF w0 _ _ _ ((a0.list.length : Int)) 256 9) (hv hs) ?_
 refine ne hs hK2 ?_
 clear hK2
 apply Zag; simp +decide only [go_sem, Nat.reduceAdd]
 subst h
 first | refine ZaD hcalm rfl hO.pre ev ⟨?_, rfl⟩ | refine Za4 hcalm rfl hO.pre ev ⟨?_, rfl⟩
 first | rfl | (simp +decide only [go_sem, Nat.reduceAdd]; done) | (simp +decide only [go_sem, Nat.reduceAdd, Vl.cs, Ty.cs]; done)
theorem Zlj (w0 : World) (B : List (List AV)) (Rw : List RowA) (L : List LoopA) (a0 : Vl) :
  ACalls Tryz.prog w0 133 [.agg (a0.cs)] ⟨B, Rw, L⟩ fun x st => x = .val (.int .i64 (Zcs a0)) ∧ st = ⟨B, Rw, L⟩ := Zml w0 B Rw L a0 _ rfl
def Zfi (n : Nat)  : Option Int :=
 some (0)
def ZbD (n : Nat) (a0 : Vl) : Nat → Int → Option Int
 | 0, _ => none
 | m + 1, x16_l11 =>
  if decide (x16_l11 < ((a0.fields.length : Int))) then
   (idx a0.fields x16_l11).bind fun x17 =>
   if x17.1.size ≤ maxLen then
    if !(Zcf x17.1) then
     some (12)
    else
     if decide (0 < x16_l11) then
      if I64 (x16_l11 - 1) then
       (idx a0.fields (x16_l11 - 1)).bind fun x25 =>
       if sEq x17.1 x25.1 then
        some (7)
       else
        if I64 (x16_l11 - 1) then
         if sLt x17.1 x25.1 then
          some (24)
         else
          if I64 (x16_l11 + 1) then
           (ZbD n a0 m) (x16_l11 + 1)
          else none
        else none
      else none
     else
      if I64 (x16_l11 + 1) then
       (ZbD n a0 m) (x16_l11 + 1)
      else none
   else none
  else
   Zfi n 
def ZeK (n : Nat) (a0 : Vl) : Option Int :=
 if !(decide ((Zbj ((a0.fields.length : Int)) 64 9) = 0)) then
  some (Zbj ((a0.fields.length : Int)) 64 9)
 else
  ZbD n a0 n 0
theorem Zl1 (w0 : World) (n : Nat) (B : List (List AV)) (Rw : List RowA) (L : List LoopA) (a0 : Vl) (r : Int) (h : ZeK n a0 = some r) :
  ACalls Tryz.prog w0 134 [.agg (a0.cs)] ⟨B, Rw, L⟩ fun x st => x = .val (.int .i64 r) ∧ st = ⟨B, Rw, L⟩ := by
 rw [ZeK] at h
 refine hd [.tmp 2] Tryz.func134 Tryz.ntmps134 fun M0 W0 hN hNR hNL hcalm hu hO hs => ?_
 simp only [Zas]
 refine rg [1] hs ?_
 apply Zab; intro K2 hK2
 refine rc 2 [1, 3] hs ?_; intro K3 hK3
 refine Zaf _ (ZfF w0 _ _ _ ((a0.fields.length : Int)) 64 9) (hv hs) ?_
 refine ne hs hK3 ?_
 clear hK3
 refine rg [1, 3, 11] hs ?_
 refine cnd h hs (fun hs h => ?_) (fun hs h => ?_)
 ·
  have hb5 := hs.1
  refine rg [2] hs ?_
  exact rt h hs hcalm hO
 have hb5 := hs.1
 refine sk [1] hs hK2 ?_
 clear hK2
 refine Zah (fun e st => Ck e st B Rw L [] [a0.cs] [] (Zfi n  = some r)) ?_ ?_
 ·
  intro K9 hK9
  refine rg [1, 14, 15, 16] hs ?_
  apply Zae
  refine Zai (fun m e st => ∃ (x16_l11 : Int), Ck e st B Rw L [(1, true, .box B.length 0), (14, true, .list (a0.fields.map avF) .none), (15, true, .val (.int .i64 ((a0.fields.length : Int)))), (16, true, .val (.int .i64 x16_l11))] [a0.cs] [] (ZbD n a0 m x16_l11 = some r)) n ⟨0, ([]), Rw, ef hs, ef hs, hO, h⟩ ?_
  rintro ml11 e st ⟨x16_l11, Xl11, Rl11, rfl, rfl, hO, h⟩ Ul11 Vl11
  cases ml11 with
  | zero => cases h
  | succ ml11 =>
  rw [ZbD] at h
  refine td hN hNR hNL hcalm hO ?_
  refine rg [1, 14, 15, 16, 17] hs ?_
  apply Zab; intro K13 hK13
  refine cnd h hs (fun hs h => ?_) (fun hs h => ?_)
  rotate_left
  ·
   have hb14 := hs.1
   refine sx [] hs hK9 ?_
   exact ⟨([]), Rl11, ef hs, ef hs, hO, h⟩
  have hb14 := hs.1
  refine sk [1, 14, 15, 16] hs hK13 ?_
  clear hK13
  apply Zab; intro K15 hK15
  apply Zae
  obtain ⟨x17, hx17, h⟩ := bind_some h
  obtain ⟨hx17a, hx17b, hx17c⟩ := Zar hx17
  have hx17d := Zau (f := avF) hx17c
  have hs := And.intro hx17d hs
  refine rg [1, 4, 5, 14, 15, 16] hs ?_
  apply Zae
  obtain ⟨hg19, h⟩ := Zac h
  refine rc 2 [1, 4, 5, 14, 15, 16, 21] hs ?_; intro K18 hK18
  refine Zaf _ (ZhS w0 _ _ _ x17.1 hg19) (hv hs) ?_
  refine ne hs hK18 ?_
  clear hK18
  refine cnd h hs (fun hs h => ?_) (fun hs h => ?_)
  ·
   have hb20 := hs.1
   refine rg [2] hs ?_
   exact rt h hs hcalm hO
  have hb20 := hs.1
  apply Zab; intro K22 hK22
  rcases Bool.eq_false_or_eq_true (decide (0 < x16_l11)) with hf23 | hf23
  ·
   replace h := ZaN h hf23
   obtain ⟨hg24, h⟩ := Zac h
   obtain ⟨x25, hx25a, hx25b, hx25d, h⟩ := ix avF h
   apply Zak mix 15 1 1 [1, 4, 5, 14, 15, 16, 26] (by kernel_rfl)
   rw [Zaa]; simp +decide only [go_sem, Nat.reduceAdd, hb5, hb14, hx17d, hb20, hf23, hx25d]
   (repeat' with_reducible apply And.intro) <;> first | (rw [Zaa]; simp +decide only [go_sem, Nat.reduceAdd, hb5, hb14, hx17d, hb20, hf23, hx25d]) | exact cl
   (repeat' apply And.intro) <;> first | refine hK22 _ _ ?_ | exact cl
   clear hK22
   have hs := And.intro hf23 hs
   have hs := And.intro hx25d hs
   refine cnd h hs (fun hs h => ?_) (fun hs h => ?_)
   ·
    refine rg [2] hs ?_
    exact rt h hs hcalm hO
   obtain ⟨hg29, h⟩ := Zac h
   refine dg 15 1 1 [1, 14, 15, 16, 41] hs mix ?_
   refine cnd h hs (fun hs h => ?_) (fun hs h => ?_)
   ·
    refine rg [2] hs ?_
    exact rt h hs hcalm hO
   refine sk [1, 14, 15, 16] hs hK15 ?_
   clear hK15
   obtain ⟨hg32, h⟩ := Zac h
   refine rl [1, 14, 15, 16] hs (fun e s => Vl11 ml11 e s (Nat.lt_succ_self _)) ?_
   exact ⟨(x16_l11 + 1), ([.val (.string x17.1) :: (x17.2.cs)]), Rl11, ef hs, ef hs, hO, h⟩
  ·
   replace h := ZaM h hf23
   apply Zak mix 15 1 1 [1, 4, 5, 14, 15, 16, 26] (by kernel_rfl)
   rw [Zaa]; simp +decide only [go_sem, Nat.reduceAdd, hb5, hb14, hx17d, hb20, hf23]
   (repeat' with_reducible apply And.intro) <;> first | (rw [Zaa]; simp +decide only [go_sem, Nat.reduceAdd, hb5, hb14, hx17d, hb20, hf23]) | exact cl
   (repeat' apply And.intro) <;> first | refine hK22 _ _ ?_ | exact cl
   clear hK22
   have hs := And.intro hf23 hs
   refine Zap false ev (ef hs) (fun hb33 => by cases hb33) (fun hb33 => ?_)
   refine dg 15 1 1 [1, 14, 15, 16, 41] hs mix ?_
   refine Zap false ev (ef hs) (fun hb35 => by cases hb35) (fun hb35 => ?_)
   refine sk [1, 14, 15, 16] hs hK15 ?_
   clear hK15
   obtain ⟨hg36, h⟩ := Zac h
   refine rl [1, 14, 15, 16] hs (fun e s => Vl11 ml11 e s (Nat.lt_succ_self _)) ?_
   exact ⟨(x16_l11 + 1), ([.val (.string x17.1) :: (x17.2.cs)]), Rl11, ef hs, ef hs, hO, h⟩
 ·
  clear h; rintro e st ⟨Xk8, Rk8, rfl, rfl, hO, h⟩
  rw [Zfi] at h
  refine td hN hNR hNL hcalm hO ?_
  refine rg [2] hs ?_
  exact rt h hs hcalm hO
def Zg8 (a0 : Vl) : Bool :=
 (((((((((decide (a0.kind = 1)) || (decide (a0.kind = 2))) || (decide (a0.kind = 6))) || (decide (a0.kind = 7))) || (decide (a0.kind = 3))) || (decide (a0.int = 0))) && ((decide (a0.kind = 3)) || (decide (a0.scale = 0)))) && ((((decide (a0.kind = 4)) || (decide (a0.kind = 5))) || (decide (a0.kind = 10))) || (sEq a0.text ((⟨#[]⟩ : ByteArray))))) && (((decide (a0.kind = 8)) || (decide (a0.kind = 10))) || (decide (((a0.list.length : Int)) = 0)))) && ((decide (a0.kind = 9)) || (decide (((a0.fields.length : Int)) = 0)))
theorem Zqs (w0 : World) (B : List (List AV)) (Rw : List RowA) (L : List LoopA) (a0 : Vl) (r : Bool) (h : Zg8 a0 = r) :
  ACalls Tryz.prog w0 91 [.agg (a0.cs)] ⟨B, Rw, L⟩ fun x st => x = .val (.bool r) ∧ st = ⟨B, Rw, L⟩ := by
 rw [Zg8] at h
 refine hd [.tmp 2] Tryz.func91 Tryz.ntmps91 fun M0 W0 hN hNR hNL hcalm hu hO hs => ?_
 simp only [Zas]
 refine rg [1] hs ?_
 refine rg [1, 3] hs ?_
 refine rg [1, 3, 4] hs ?_
 refine rg [1, 3, 4, 5] hs ?_
 refine rg [2] hs ?_
 apply Zag; simp +decide only [go_sem, Nat.reduceAdd]
 subst h
 first | refine ZaD hcalm rfl hO.pre ev ⟨?_, rfl⟩ | refine Za4 hcalm rfl hO.pre ev ⟨?_, rfl⟩
 first | rfl | (simp +decide only [go_sem, Nat.reduceAdd]; done) | (simp +decide only [go_sem, Nat.reduceAdd, Vl.cs, Ty.cs]; done)
theorem Zo9 (w0 : World) (B : List (List AV)) (Rw : List RowA) (L : List LoopA) (a0 : Vl) :
  ACalls Tryz.prog w0 91 [.agg (a0.cs)] ⟨B, Rw, L⟩ fun x st => x = .val (.bool (Zg8 a0)) ∧ st = ⟨B, Rw, L⟩ := Zqs w0 B Rw L a0 _ rfl
end Go.Proofs.YtggimoedcamonaaGreatDoor
