/-
  Part 4 of the proof: rules and walks that the claim's last text uses.
-/
import Derived.Carry
import Derived.ChangeOld
import Derived.ChangeSlices
import Derived.Deep.DeepHandedRow
import Derived.Deep.DeepWitnessRowRef
import Derived.Lib.LaidIn
import Derived.Lib.LaidU8T
import Derived.PinnedBridge
import Derived.ProofKit
import Derived.SevenTiedAt
import Derived.SizedLaws
import Derived.Test.YtgpmlelfkjfbiaaGreatDoorCards
import Derived.Test.YtgpmlelfkjfbiaaGreatDoorTie
import Derived.Test.YtgpmlelfkjfbiaaGreatDoorSx3
set_option linter.unusedSimpArgs false
set_option linter.unusedVariables false
set_option maxRecDepth 100000
set_option maxHeartbeats 4000000
namespace Go.Proofs.YtgpmlelfkjfbiaaGreatDoor
open Go Go.RowKit Go.Ev
def ZfJ (rec : Vl → Option Vl) (n : Nat) (a0 : Vl) (b2_k22_4 : List Vl) (b2_k22_5 : List (ByteArray × Vl)) : Option Vl :=
 some (Vl.mk a0.kind a0.int a0.scale a0.text b2_k22_4 b2_k22_5)
def Zdf (rec : Vl → Option Vl) (n : Nat) (a0 : Vl) : Nat → Int → (List Vl) → (List (ByteArray × Vl)) → Option Vl
 | 0, _, _, _ => none
 | m + 1, x29_l25, b2_l25_4, b2_l25_5 =>
  if decide (x29_l25 < ((a0.fields.length : Int))) then
   (idx a0.fields x29_l25).bind fun x31 =>
   (rec x31.2).bind fun y32 =>
   if (b2_l25_5.length + 1) * 104 ≤ 140737488355328 ∧ b2_l25_5.length + 1 ≤ 4611686018427387904 then
    if I64 (x29_l25 + 1) then
     (Zdf rec n a0 m) (x29_l25 + 1) b2_l25_4 (b2_l25_5 ++ ([(x31.1, y32)]))
    else none
   else none
  else
   ZfJ rec n a0 b2_l25_4 b2_l25_5
def Zg5 (rec : Vl → Option Vl) (n : Nat) (a0 : Vl) (b2_k5_4 : List Vl) : Option Vl :=
 Zdf rec n a0 n 0 b2_k5_4 ([])
def ZdK (rec : Vl → Option Vl) (n : Nat) (a0 : Vl) : Nat → Int → (List Vl) → Option Vl
 | 0, _, _ => none
 | m + 1, x14_l8, b2_l8_4 =>
  if decide (x14_l8 < ((a0.list.length : Int))) then
   (idx a0.list x14_l8).bind fun x14 =>
   (rec x14).bind fun y15 =>
   if (b2_l8_4.length + 1) * 88 ≤ 140737488355328 ∧ b2_l8_4.length + 1 ≤ 4611686018427387904 then
    if I64 (x14_l8 + 1) then
     (ZdK rec n a0 m) (x14_l8 + 1) (b2_l8_4 ++ ([y15]))
    else none
   else none
  else
   Zg5 rec n a0 b2_l8_4
def ZhG (rec : Vl → Option Vl) (n : Nat) (a0 : Vl) : Option Vl :=
 ZdK rec n a0 n 0 ([])
def ZbN : Nat → Vl → Option Vl
 | 0, _ => none
 | n + 1, a0 => ZhG (ZbN n) n a0
def Zjw (w0 : World) (F : Vl → Option Vl) : Prop := ∀ (B : List (List AV)) (Rw : List RowA) (L : List LoopA) (a0 : Vl) (r : Vl), F a0 = some r → ACalls Tryz.prog w0 66 [.agg (a0.cs)] ⟨B, Rw, L⟩ fun x st => x = .agg (r.cs) ∧ st = ⟨B, Rw, L⟩
theorem Zmu (w0 : World) (rec : Vl → Option Vl) (ih : Zjw w0 rec) (n : Nat) : Zjw w0 (ZhG rec n) := by
 intro B Rw L a0 r h
 rw [ZhG] at h
 refine hd [.cell 2 46] Tryz.func66 Tryz.ntmps66 fun M0 W0 hN hNR hNL hcalm hu hO hs => ?_
 simp only [Zav]
 refine rg [1, 2] hs ?_
 refine rg [1, 2, 3] hs ?_
 apply Zab; intro K3 hK3
 apply Zae 1 [1, 2, 3]
 rw [Zaa]; simp +decide only [go_sem, Nat.reduceAdd, Vl.cs_eqs a0]
 (repeat' apply And.intro) <;> first | refine hK3 _ _ ?_ | exact cl
 clear hK3
 refine Zai (fun e st => ∃ (b2_k5_4 : List Vl) (ob2_k5_4 : Ev.Own), Ck e st B Rw L [(1, true, .box B.length 0), (2, true, .box (B.length + 1) 0), (3, true, .box (B.length + 2) 0)] [a0.cs, [.val (.int .i64 0), .val (.int .i64 0), .val (.int .i64 0), .val (.string ((⟨#[]⟩ : ByteArray))), .list ([]) .full, .list ([]) .full], [.val (.int .i64 a0.kind), .val (.int .i64 a0.int), .val (.int .i64 a0.scale), .val (.string a0.text), .list (b2_k5_4.map avV) ob2_k5_4, .list ([]) .full]] [(6, b2_k5_4.length, ob2_k5_4)] (Zg5 rec n a0 b2_k5_4 = some r)) ?_ ?_
 ·
  intro K6 hK6
  apply Zab; intro K7 hK7
  apply Zae 1 [1, 2, 3, 12, 13, 14]
  rw [Zaa]; simp +decide only [go_sem, Nat.reduceAdd, Vl.cs_eqs a0]
  (repeat' apply And.intro) <;> first | refine hK7 _ _ ?_ | exact cl
  clear hK7
  apply Zad
  refine Zal (fun m e st => ∃ (x14_l8 : Int) (b2_l8_4 : List Vl) (ob2_l8_4 : Ev.Own), Ck e st B Rw L [(1, true, .box B.length 0), (2, true, .box (B.length + 1) 0), (3, true, .box (B.length + 2) 0), (12, true, .list (a0.list.map avV) .none), (13, true, .val (.int .i64 ((a0.list.length : Int)))), (14, true, .val (.int .i64 x14_l8))] [a0.cs, [.val (.int .i64 0), .val (.int .i64 0), .val (.int .i64 0), .val (.string ((⟨#[]⟩ : ByteArray))), .list ([]) .full, .list ([]) .full], [.val (.int .i64 a0.kind), .val (.int .i64 a0.int), .val (.int .i64 a0.scale), .val (.string a0.text), .list (b2_l8_4.map avV) ob2_l8_4, .list ([]) .full]] [(6, b2_l8_4.length, ob2_l8_4)] (ZdK rec n a0 m x14_l8 b2_l8_4 = some r)) n ⟨0, ([]), .full, ([]), Rw, by first | rfl | (simp +decide only [go_sem, Nat.reduceAdd, Vl.cs_eqs a0]; done), by first | rfl | (simp +decide only [go_sem, Nat.reduceAdd, Vl.cs_eqs a0]; done), Owns.of_eq ((hO).full 6 0) (by first | rfl | simp only [List.length_append, List.length_cons, List.length_nil, List.length_map, Nat.zero_add, Nat.add_zero]), h⟩ ?_
  rintro ml8 e st ⟨x14_l8, b2_l8_4, ob2_l8_4, Xl8, Rl8, rfl, rfl, hO, h⟩ Ul8 Vl8
  cases ml8 with
  | zero => cases h
  | succ ml8 =>
  rw [ZdK] at h
  have hU := hO.unders
  simp only [List.mem_cons, List.not_mem_nil, or_false, forall_eq_or_imp, forall_eq] at hU
  refine td hN hNR hNL hcalm hO ?_
  apply Zab; intro K9 hK9
  apply Zae 1 [1, 2, 3, 12, 13, 14, 15]
  rw [Zaa]; simp +decide only [go_sem, Nat.reduceAdd, Vl.cs_eqs a0]
  (repeat' apply And.intro) <;> first | refine hK9 _ _ ?_ | exact cl
  clear hK9
  apply Zab; intro K10 hK10
  refine Zaz (decide (x14_l8 < ((a0.list.length : Int)))) ev (by first | (simp +decide only [go_sem, Nat.reduceAdd, Vl.cs_eqs a0]; done) | (simp +decide only [go_sem, Nat.reduceAdd, Vl.cs_eqs a0]; rfl)) (fun hb11 => ?_) (fun hb11 => ?_)
  rotate_left
  ·
   replace h := ZaZ h hb11
   refine sx [1, 2, 3] hs hK6 ?_
   exact ⟨b2_l8_4, ob2_l8_4, ([]), Rl8, by first | rfl | (simp +decide only [go_sem, Nat.reduceAdd, Vl.cs_eqs a0, hb11]; done), by first | rfl | (simp +decide only [go_sem, Nat.reduceAdd, Vl.cs_eqs a0, hb11]; done), Owns.of_eq (hO) (by first | rfl | simp only [List.length_append, List.length_cons, List.length_nil, List.length_map, Nat.zero_add, Nat.add_zero]), h⟩
  replace h := Za2 h hb11
  refine sk [1, 2, 3, 12, 13, 14] hs hK10 ?_
  clear hK10
  apply Zab; intro K12 hK12
  apply Zad
  apply Zab; intro K13 hK13
  obtain ⟨x14, hx14a, hx14b, hx14d, h⟩ := ix avV h
  apply Zae 1 [1, 2, 3, 5, 12, 13, 14]
  rw [Zaa]; simp +decide only [go_sem, Nat.reduceAdd, Vl.cs_eqs a0, hb11, hx14d]
  (repeat' apply And.intro) <;> first | refine hK13 _ _ ?_ | exact cl
  clear hK13
  obtain ⟨y15, hy15, h⟩ := bind_some h
  obtain ⟨hg16, h⟩ := Zac h
  obtain ⟨o17, rows18, hO, hap19⟩ := hO.append (P := Tryz.prog) ZkR (by rw [ZgZ]; rfl) (by decide) 1 hg16.1 hg16.2
  replace hap19 := fun (ys : List AV) B L o2 => hap19 (b2_l8_4.map avV) ys B L o2 (by first | rfl | simp only [List.length_map, List.length_nil, List.length_append, List.length_cons, Nat.zero_add])
  replace hap19 := fun (y : AV) B L o2 => hap19 [y] B L o2 (by first | rfl | simp only [List.length_map, List.length_nil, List.length_cons]) ev
  try simp only [List.mem_singleton, List.mem_cons, List.not_mem_nil, or_false, forall_eq_or_imp, forall_eq, List.map_append, List.map_cons, List.map_nil, Zcn, ZcQ, Zcy, Zcs, Zcw, Zcm, ZbF, ZbK, ZcC, Za8, Za9, ZbE, ZbC, ZbH] at hap19
  apply Zat mix 5 2 1 [1, 2, 3, 12, 13, 14] (by kernel_rfl)
  rw [Zaa]; simp +decide only [go_sem, Nat.reduceAdd, Vl.cs_eqs a0, hb11, hx14d, hap19]
  (repeat' apply And.intro) <;> first | refine Zaf _ (ih _ _ _ x14 _ hy15) (by first | rfl | (simp +decide only [go_sem, Nat.reduceAdd, Vl.cs_eqs a0, hb11, hx14d, hap19]; done) | (simp +decide only [go_sem, Nat.reduceAdd, Vl.cs, Ty.cs, Vl.cs_eqs a0, hb11, hx14d, hap19]; done)) ?_ | exact cl
  rw [Zaa]; simp +decide only [go_sem, Nat.reduceAdd, Vl.cs_eqs a0, hb11, hx14d, hap19]
  (repeat' with_reducible apply And.intro) <;> first | (rw [Zaa]; simp +decide only [go_sem, Nat.reduceAdd, Vl.cs_eqs a0, hb11, hx14d, hap19]) | exact cl
  (repeat' apply And.intro) <;> first | refine hK12 _ _ ?_ | exact cl
  clear hK12
  obtain ⟨hg20, h⟩ := Zac h
  apply Zae 1 [1, 2, 3, 12, 13, 14]
  rw [Zaa]; simp +decide only [go_sem, Nat.reduceAdd, Vl.cs_eqs a0, hb11, hx14d, hap19]
  (repeat' apply And.intro) <;> first | refine Vl8 ml8 _ _ (Nat.lt_succ_self ml8) ⟨(x14_l8 + 1), (b2_l8_4 ++ ([y15])), o17, ([x14.cs]), rows18, by first | rfl | (simp +decide only [go_sem, Nat.reduceAdd, Vl.cs_eqs a0, hb11, hx14d, hap19]; done), by first | rfl | (simp +decide only [go_sem, Nat.reduceAdd, Vl.cs_eqs a0, hb11, hx14d, hap19]; done), Owns.of_eq (hO) (by first | rfl | simp only [List.length_append, List.length_cons, List.length_nil, List.length_map, Nat.zero_add, Nat.add_zero]), h⟩ | exact cl
 ·
  clear h; rintro e st ⟨b2_k5_4, ob2_k5_4, Xk5, Rk5, rfl, rfl, hO, h⟩
  rw [Zg5] at h
  have hU := hO.unders
  simp only [List.mem_cons, List.not_mem_nil, or_false, forall_eq_or_imp, forall_eq] at hU
  refine td hN hNR hNL hcalm hO ?_
  refine Zai (fun e st => ∃ (b2_k22_4 : List Vl) (b2_k22_5 : List (ByteArray × Vl)) (ob2_k22_4 : Ev.Own) (ob2_k22_5 : Ev.Own), Ck e st B Rw L [(2, true, .box (B.length + 1) 0), (3, true, .box (B.length + 2) 0)] [a0.cs, [.val (.int .i64 0), .val (.int .i64 0), .val (.int .i64 0), .val (.string ((⟨#[]⟩ : ByteArray))), .list ([]) .full, .list ([]) .full], [.val (.int .i64 a0.kind), .val (.int .i64 a0.int), .val (.int .i64 a0.scale), .val (.string a0.text), .list (b2_k22_4.map avV) ob2_k22_4, .list (b2_k22_5.map avF) ob2_k22_5]] [(6, b2_k22_4.length, ob2_k22_4), (7, b2_k22_5.length, ob2_k22_5)] (ZfJ rec n a0 b2_k22_4 b2_k22_5 = some r)) ?_ ?_
  ·
   intro K23 hK23
   apply Zab; intro K24 hK24
   apply Zae 1 [2, 3, 27, 28, 29]
   rw [Zaa]; simp +decide only [go_sem, Nat.reduceAdd, Vl.cs_eqs a0]
   (repeat' apply And.intro) <;> first | refine hK24 _ _ ?_ | exact cl
   clear hK24
   apply Zad
   refine Zal (fun m e st => ∃ (x29_l25 : Int) (b2_l25_4 : List Vl) (b2_l25_5 : List (ByteArray × Vl)) (ob2_l25_4 : Ev.Own) (ob2_l25_5 : Ev.Own), Ck e st B Rw L [(2, true, .box (B.length + 1) 0), (3, true, .box (B.length + 2) 0), (27, true, .list (a0.fields.map avF) .none), (28, true, .val (.int .i64 ((a0.fields.length : Int)))), (29, true, .val (.int .i64 x29_l25))] [a0.cs, [.val (.int .i64 0), .val (.int .i64 0), .val (.int .i64 0), .val (.string ((⟨#[]⟩ : ByteArray))), .list ([]) .full, .list ([]) .full], [.val (.int .i64 a0.kind), .val (.int .i64 a0.int), .val (.int .i64 a0.scale), .val (.string a0.text), .list (b2_l25_4.map avV) ob2_l25_4, .list (b2_l25_5.map avF) ob2_l25_5]] [(6, b2_l25_4.length, ob2_l25_4), (7, b2_l25_5.length, ob2_l25_5)] (Zdf rec n a0 m x29_l25 b2_l25_4 b2_l25_5 = some r)) n ⟨0, b2_k5_4, ([]), ob2_k5_4, .full, ([]), Rk5, by first | rfl | (simp +decide only [go_sem, Nat.reduceAdd, Vl.cs_eqs a0]; done), by first | rfl | (simp +decide only [go_sem, Nat.reduceAdd, Vl.cs_eqs a0]; done), Owns.of_eq (((hO).full 7 0).swap (List.Perm.swap _ _ _)) (by first | rfl | simp only [List.length_append, List.length_cons, List.length_nil, List.length_map, Nat.zero_add, Nat.add_zero]), h⟩ ?_
   rintro ml25 e st ⟨x29_l25, b2_l25_4, b2_l25_5, ob2_l25_4, ob2_l25_5, Xl25, Rl25, rfl, rfl, hO, h⟩ Ul25 Vl25
   cases ml25 with
   | zero => cases h
   | succ ml25 =>
   rw [Zdf] at h
   have hU := hO.unders
   simp only [List.mem_cons, List.not_mem_nil, or_false, forall_eq_or_imp, forall_eq] at hU
   obtain ⟨hU0, hU1⟩ := hU
   refine td hN hNR hNL hcalm hO ?_
   apply Zab; intro K26 hK26
   apply Zae 1 [2, 3, 27, 28, 29, 30]
   rw [Zaa]; simp +decide only [go_sem, Nat.reduceAdd, Vl.cs_eqs a0]
   (repeat' apply And.intro) <;> first | refine hK26 _ _ ?_ | exact cl
   clear hK26
   apply Zab; intro K27 hK27
   refine Zaz (decide (x29_l25 < ((a0.fields.length : Int)))) ev (by first | (simp +decide only [go_sem, Nat.reduceAdd, Vl.cs_eqs a0]; done) | (simp +decide only [go_sem, Nat.reduceAdd, Vl.cs_eqs a0]; rfl)) (fun hb28 => ?_) (fun hb28 => ?_)
   rotate_left
   ·
    replace h := ZaZ h hb28
    refine sx [2, 3] hs hK23 ?_
    exact ⟨b2_l25_4, b2_l25_5, ob2_l25_4, ob2_l25_5, ([]), Rl25, by first | rfl | (simp +decide only [go_sem, Nat.reduceAdd, Vl.cs_eqs a0, hb28]; done), by first | rfl | (simp +decide only [go_sem, Nat.reduceAdd, Vl.cs_eqs a0, hb28]; done), Owns.of_eq (((hO).swap (List.Perm.swap _ _ _)).swap (List.Perm.swap _ _ _)) (by first | rfl | simp only [List.length_append, List.length_cons, List.length_nil, List.length_map, Nat.zero_add, Nat.add_zero]), h⟩
   replace h := Za2 h hb28
   refine sk [2, 3, 27, 28, 29] hs hK27 ?_
   clear hK27
   apply Zab; intro K29 hK29
   apply Zad
   apply Zab; intro K30 hK30
   obtain ⟨x31, hx31a, hx31b, hx31d, h⟩ := ix avF h
   apply Zae 1 [2, 3, 7, 27, 28, 29]
   rw [Zaa]; simp +decide only [go_sem, Nat.reduceAdd, Vl.cs_eqs a0, hb28, hx31d]
   (repeat' apply And.intro) <;> first | refine hK30 _ _ ?_ | exact cl
   clear hK30
   obtain ⟨y32, hy32, h⟩ := bind_some h
   obtain ⟨hg33, h⟩ := Zac h
   have hO := hO.swap (List.Perm.swap _ _ _)
   obtain ⟨o34, rows35, hO, hap36⟩ := hO.append (P := Tryz.prog) Zok (by rw [Zi5]; rfl) (by decide) 1 hg33.1 hg33.2
   replace hap36 := fun (ys : List AV) B L o2 => hap36 (b2_l25_5.map avF) ys B L o2 (by first | rfl | simp only [List.length_map, List.length_nil, List.length_append, List.length_cons, Nat.zero_add])
   replace hap36 := fun (y : AV) B L o2 => hap36 [y] B L o2 (by first | rfl | simp only [List.length_map, List.length_nil, List.length_cons]) ev
   try simp only [List.mem_singleton, List.mem_cons, List.not_mem_nil, or_false, forall_eq_or_imp, forall_eq, List.map_append, List.map_cons, List.map_nil, Zcn, ZcQ, Zcy, Zcs, Zcw, Zcm, ZbF, ZbK, ZcC, Za8, Za9, ZbE, ZbC, ZbH] at hap36
   apply Zat mix 9 2 1 [2, 3, 27, 28, 29] (by kernel_rfl)
   rw [Zaa]; simp +decide only [go_sem, Nat.reduceAdd, Vl.cs_eqs a0, hb28, hx31d, hap36, ZaF, Zan, Zam]
   (repeat' apply And.intro) <;> first | refine Zaf _ (ih _ _ _ x31.2 _ hy32) (by first | rfl | (simp +decide only [go_sem, Nat.reduceAdd, Vl.cs_eqs a0, hb28, hx31d, hap36, ZaF, Zan, Zam]; done) | (simp +decide only [go_sem, Nat.reduceAdd, Vl.cs, Ty.cs, Vl.cs_eqs a0, hb28, hx31d, hap36, ZaF, Zan, Zam]; done)) ?_ | exact cl
   rw [Zaa]; simp +decide only [go_sem, Nat.reduceAdd, Vl.cs_eqs a0, hb28, hx31d, hap36, ZaF, Zan, Zam]
   (repeat' with_reducible apply And.intro) <;> first | (rw [Zaa]; simp +decide only [go_sem, Nat.reduceAdd, Vl.cs_eqs a0, hb28, hx31d, hap36, ZaF, Zan, Zam]) | exact cl
   (repeat' apply And.intro) <;> first | refine hK29 _ _ ?_ | exact cl
   clear hK29
   obtain ⟨hg37, h⟩ := Zac h
   apply Zae 1 [2, 3, 27, 28, 29]
   rw [Zaa]; simp +decide only [go_sem, Nat.reduceAdd, Vl.cs_eqs a0, hb28, hx31d, hap36]
   (repeat' apply And.intro) <;> first | refine Vl25 ml25 _ _ (Nat.lt_succ_self ml25) ⟨(x29_l25 + 1), b2_l25_4, (b2_l25_5 ++ ([(x31.1, y32)])), ob2_l25_4, o34, ([.val (.string x31.1) :: (x31.2.cs)]), rows35, by first | rfl | (simp +decide only [go_sem, Nat.reduceAdd, Vl.cs_eqs a0, hb28, hx31d, hap36]; done), by first | rfl | (simp +decide only [go_sem, Nat.reduceAdd, Vl.cs_eqs a0, hb28, hx31d, hap36]; done), Owns.of_eq ((hO).swap (List.Perm.swap _ _ _)) (by first | rfl | simp only [List.length_append, List.length_cons, List.length_nil, List.length_map, Nat.zero_add, Nat.add_zero]), h⟩ | exact cl
  ·
   clear h; rintro e st ⟨b2_k22_4, b2_k22_5, ob2_k22_4, ob2_k22_5, Xk22, Rk22, rfl, rfl, hO, h⟩
   rw [ZfJ] at h
   have hU := hO.unders
   simp only [List.mem_cons, List.not_mem_nil, or_false, forall_eq_or_imp, forall_eq] at hU
   obtain ⟨hU0, hU1⟩ := hU
   refine td hN hNR hNL hcalm hO ?_
   apply Zab; intro K38 hK38
   apply Zae 1 [2]
   rw [Zaa]; simp +decide only [go_sem, Nat.reduceAdd, Vl.cs_eqs a0]
   (repeat' apply And.intro) <;> first | refine hK38 _ _ ?_ | exact cl
   clear hK38
   apply Zah; simp +decide only [go_sem, Nat.reduceAdd, Vl.cs_eqs a0]
   have hgt := Option.some.inj h; subst hgt
   first | refine ZaG hcalm rfl hO.pre ev ⟨?_, rfl⟩ | refine Zbg hcalm rfl hO.pre ev ⟨?_, rfl⟩
   first | rfl | (simp +decide only [go_sem, Nat.reduceAdd, Vl.cs_eqs a0]; done) | (simp +decide only [go_sem, Nat.reduceAdd, Vl.cs, Ty.cs, Vl.cs_eqs a0]; done)
theorem Zds (w0 : World) : ∀ n : Nat, Zjw w0 (ZbN n)
 | 0 => fun _ _ _ _ _ h => (nomatch h)
 | n + 1 => Zmu w0 (ZbN n) (Zds w0 n) n
def Zdy (rec : Ty → Option Ty) (n : Nat) (a0 : Int × ByteArray × Int × Ty × List Vl) (y3 : Ty) (x3_k8 : List Vl) : Option ((Int × ByteArray × Int × Ty × List Vl)) :=
 some ((a0.1, a0.2.1, a0.2.2.1, y3, x3_k8))
def Zbq (rec : Ty → Option Ty) (n : Nat) (a0 : Int × ByteArray × Int × Ty × List Vl) (y3 : Ty) : Nat → (List Vl) → Int → Option ((Int × ByteArray × Int × Ty × List Vl))
 | 0, _, _ => none
 | m + 1, x3_l11, x17_l11 =>
  if decide (x17_l11 < ((a0.2.2.2.2.length : Int))) then
   (idx a0.2.2.2.2 x17_l11).bind fun x17 =>
   (ZbN n x17).bind fun y18 =>
   if (x3_l11.length + 1) * 88 ≤ 140737488355328 ∧ x3_l11.length + 1 ≤ 4611686018427387904 then
    if I64 (x17_l11 + 1) then
     (Zbq rec n a0 y3 m) (x3_l11 ++ ([y18])) (x17_l11 + 1)
    else none
   else none
  else
   Zdy rec n a0 y3 x3_l11
def Zbx (rec : Ty → Option Ty) (n : Nat) (a0 : Int × ByteArray × Int × Ty × List Vl) : Option ((Int × ByteArray × Int × Ty × List Vl)) :=
 (rec a0.2.2.2.1).bind fun y3 =>
 if 0 ≤ (a0.2.2.2.2.length : Int) ∧ ((a0.2.2.2.2.length : Int)) * 88 ≤ 140737488355328 ∧ (a0.2.2.2.2.length : Int) ≤ 4611686018427387904 then
  Zbq rec n a0 y3 n ([]) 0
 else none
theorem Zgq (w0 : World) (rec : Ty → Option Ty) (ih : ∀ (B : List (List AV)) (Rw : List RowA) (L : List LoopA) (a0 : Ty) (r : Ty) (h : rec a0 = some r), ACalls Tryz.prog w0 57 [.agg (a0.cs)] ⟨B, Rw, L⟩ fun x st => x = .agg (r.cs) ∧ st = ⟨B, Rw, L⟩) (n : Nat) (B : List (List AV)) (Rw : List RowA) (L : List LoopA) (a0 : Int × ByteArray × Int × Ty × List Vl) (r : (Int × ByteArray × Int × Ty × List Vl)) (h : Zbx rec n a0 = some r) :
  ACalls Tryz.prog w0 105 [.agg (.val (.int .i64 a0.1) :: (.val (.string a0.2.1) :: (.val (.int .i64 a0.2.2.1) :: ((a0.2.2.2.1.cs) ++ ([.list (a0.2.2.2.2.map avV) .none])))))] ⟨B, Rw, L⟩ fun x st => x = .agg (.val (.int .i64 r.1) :: (.val (.string r.2.1) :: (.val (.int .i64 r.2.2.1) :: ((r.2.2.2.1.cs) ++ ([.list (r.2.2.2.2.map avV) .none]))))) ∧ st = ⟨B, Rw, L⟩ := by
 rw [Zbx] at h
 refine hd [.cell 2 54] Tryz.func105 Tryz.ntmps105 fun M0 W0 hN hNR hNL hcalm hu hO hs => ?_
 simp only [Zav]
 refine rg [1, 2] hs ?_
 apply Zab; intro K2 hK2
 obtain ⟨y3, hy3, h⟩ := bind_some h
 apply Zae 2 [1, 2]
 rw [Zaa]; simp +decide only [go_sem, Nat.reduceAdd, Ty.cs_eqs a0.2.2.2.1, Ty.cs_eqs y3]
 (repeat' apply And.intro) <;> first | refine Zaf _ (ih _ _ _ a0.2.2.2.1 _ hy3) (by first | rfl | (simp +decide only [go_sem, Nat.reduceAdd, Ty.cs_eqs a0.2.2.2.1, Ty.cs_eqs y3]; done) | (simp +decide only [go_sem, Nat.reduceAdd, Vl.cs, Ty.cs, Ty.cs_eqs a0.2.2.2.1, Ty.cs_eqs y3]; done)) ?_ | exact cl
 rw [Zaa]; simp +decide only [go_sem, Nat.reduceAdd, Ty.cs_eqs a0.2.2.2.1, Ty.cs_eqs y3]
 (repeat' apply And.intro) <;> first | refine hK2 _ _ ?_ | exact cl
 clear hK2
 apply Zab; intro K4 hK4
 obtain ⟨hg5, h⟩ := Zac h
 have hO := hO.make 6 0
 apply Zae 1 [1, 2, 3]
 rw [Zaa]; simp +decide only [go_sem, Nat.reduceAdd, Ty.cs_eqs a0.2.2.2.1, Ty.cs_eqs y3]
 (repeat' apply And.intro) <;> first | refine hK4 _ _ ?_ | exact cl
 clear hK4
 refine Zai (fun e st => ∃ (x3_k8 : List Vl) (ox3_k8 : Ev.Own), Ck e st B Rw L [(1, true, .box B.length 0), (2, true, .box (B.length + 1) 0), (3, true, .list (x3_k8.map avV) ox3_k8)] [[.val (.int .i64 a0.1), .val (.string a0.2.1), .val (.int .i64 a0.2.2.1), .val (.int .i64 y3.kind), .val (.int .i64 y3.min), .val (.int .i64 y3.max), .val (.int .i64 y3.scale), .list (y3.words.map avS) .none, .list (y3.elem.map avT) .none, .list (y3.fields.map Zer) .none, .list (a0.2.2.2.2.map avV) .none], [.val (.int .i64 0), .val (.string ((⟨#[]⟩ : ByteArray))), .val (.int .i64 0), .val (.int .i64 0), .val (.int .i64 0), .val (.int .i64 0), .val (.int .i64 0), .list ([]) .full, .list ([]) .full, .list ([]) .full, .list ([]) .full]] [(6, x3_k8.length, ox3_k8)] (Zdy rec n a0 y3 x3_k8 = some r)) ?_ ?_
 ·
  intro K9 hK9
  apply Zab; intro K10 hK10
  apply Zae 1 [1, 2, 3, 15, 16, 17]
  rw [Zaa]; simp +decide only [go_sem, Nat.reduceAdd, Ty.cs_eqs a0.2.2.2.1, Ty.cs_eqs y3]
  (repeat' apply And.intro) <;> first | refine hK10 _ _ ?_ | exact cl
  clear hK10
  apply Zad
  refine Zal (fun m e st => ∃ (x3_l11 : List Vl) (x17_l11 : Int) (ox3_l11 : Ev.Own), Ck e st B Rw L [(1, true, .box B.length 0), (2, true, .box (B.length + 1) 0), (3, true, .list (x3_l11.map avV) ox3_l11), (15, true, .list (a0.2.2.2.2.map avV) .none), (16, true, .val (.int .i64 ((a0.2.2.2.2.length : Int)))), (17, true, .val (.int .i64 x17_l11))] [[.val (.int .i64 a0.1), .val (.string a0.2.1), .val (.int .i64 a0.2.2.1), .val (.int .i64 y3.kind), .val (.int .i64 y3.min), .val (.int .i64 y3.max), .val (.int .i64 y3.scale), .list (y3.words.map avS) .none, .list (y3.elem.map avT) .none, .list (y3.fields.map Zer) .none, .list (a0.2.2.2.2.map avV) .none], [.val (.int .i64 0), .val (.string ((⟨#[]⟩ : ByteArray))), .val (.int .i64 0), .val (.int .i64 0), .val (.int .i64 0), .val (.int .i64 0), .val (.int .i64 0), .list ([]) .full, .list ([]) .full, .list ([]) .full, .list ([]) .full]] [(6, x3_l11.length, ox3_l11)] (Zbq rec n a0 y3 m x3_l11 x17_l11 = some r)) n ⟨([]), 0, ((.row Rw.length)), ([]), ((Rw ++ [.grow 0 6])), by first | rfl | (simp +decide only [go_sem, Nat.reduceAdd, Ty.cs_eqs a0.2.2.2.1, Ty.cs_eqs y3]; done), by first | rfl | (simp +decide only [go_sem, Nat.reduceAdd, Ty.cs_eqs a0.2.2.2.1, Ty.cs_eqs y3]; done), Owns.of_eq (hO) (by first | rfl | simp only [List.length_append, List.length_cons, List.length_nil, List.length_map, Nat.zero_add, Nat.add_zero]), h⟩ ?_
  rintro ml11 e st ⟨x3_l11, x17_l11, ox3_l11, Xl11, Rl11, rfl, rfl, hO, h⟩ Ul11 Vl11
  cases ml11 with
  | zero => cases h
  | succ ml11 =>
  rw [Zbq] at h
  have hU := hO.unders
  simp only [List.mem_cons, List.not_mem_nil, or_false, forall_eq_or_imp, forall_eq] at hU
  refine td hN hNR hNL hcalm hO ?_
  apply Zab; intro K12 hK12
  apply Zae 1 [1, 2, 3, 15, 16, 17, 18]
  rw [Zaa]; simp +decide only [go_sem, Nat.reduceAdd, Ty.cs_eqs a0.2.2.2.1, Ty.cs_eqs y3]
  (repeat' apply And.intro) <;> first | refine hK12 _ _ ?_ | exact cl
  clear hK12
  apply Zab; intro K13 hK13
  refine Zaz (decide (x17_l11 < ((a0.2.2.2.2.length : Int)))) ev (by first | (simp +decide only [go_sem, Nat.reduceAdd, Ty.cs_eqs a0.2.2.2.1, Ty.cs_eqs y3]; done) | (simp +decide only [go_sem, Nat.reduceAdd, Ty.cs_eqs a0.2.2.2.1, Ty.cs_eqs y3]; rfl)) (fun hb14 => ?_) (fun hb14 => ?_)
  rotate_left
  ·
   replace h := ZaZ h hb14
   refine sx [1, 2, 3] hs hK9 ?_
   exact ⟨x3_l11, ox3_l11, ([]), Rl11, by first | rfl | (simp +decide only [go_sem, Nat.reduceAdd, Ty.cs_eqs a0.2.2.2.1, Ty.cs_eqs y3, hb14]; done), by first | rfl | (simp +decide only [go_sem, Nat.reduceAdd, Ty.cs_eqs a0.2.2.2.1, Ty.cs_eqs y3, hb14]; done), Owns.of_eq (hO) (by first | rfl | simp only [List.length_append, List.length_cons, List.length_nil, List.length_map, Nat.zero_add, Nat.add_zero]), h⟩
  replace h := Za2 h hb14
  refine sk [1, 2, 3, 15, 16, 17] hs hK13 ?_
  clear hK13
  apply Zab; intro K15 hK15
  apply Zad
  apply Zab; intro K16 hK16
  obtain ⟨x17, hx17a, hx17b, hx17d, h⟩ := ix avV h
  apply Zae 1 [1, 2, 3, 5, 15, 16, 17]
  rw [Zaa]; simp +decide only [go_sem, Nat.reduceAdd, Ty.cs_eqs a0.2.2.2.1, Ty.cs_eqs y3, hb14, hx17d]
  (repeat' apply And.intro) <;> first | refine hK16 _ _ ?_ | exact cl
  clear hK16
  obtain ⟨y18, hy18, h⟩ := bind_some h
  obtain ⟨hg19, h⟩ := Zac h
  obtain ⟨o20, rows21, hO, hap22⟩ := hO.append (P := Tryz.prog) ZkR (by rw [ZgZ]; rfl) (by decide) 1 hg19.1 hg19.2
  replace hap22 := fun (ys : List AV) B L o2 => hap22 (x3_l11.map avV) ys B L o2 (by first | rfl | simp only [List.length_map, List.length_nil, List.length_append, List.length_cons, Nat.zero_add])
  replace hap22 := fun (y : AV) B L o2 => hap22 [y] B L o2 (by first | rfl | simp only [List.length_map, List.length_nil, List.length_cons]) ev
  try simp only [List.mem_singleton, List.mem_cons, List.not_mem_nil, or_false, forall_eq_or_imp, forall_eq, List.map_append, List.map_cons, List.map_nil, Zcn, ZcQ, Zcy, Zcs, Zcw, Zcm, ZbF, ZbK, ZcC, Za8, Za9, ZbE, ZbC, ZbH] at hap22
  apply Zae 2 [1, 2, 3, 15, 16, 17]
  rw [Zaa]; simp +decide only [go_sem, Nat.reduceAdd, Ty.cs_eqs a0.2.2.2.1, Ty.cs_eqs y3, hb14, hx17d, hap22]
  (repeat' apply And.intro) <;> first | refine Zaf _ (Zds w0 n _ _ _ x17 _ hy18) (by first | rfl | (simp +decide only [go_sem, Nat.reduceAdd, Ty.cs_eqs a0.2.2.2.1, Ty.cs_eqs y3, hb14, hx17d, hap22]; done) | (simp +decide only [go_sem, Nat.reduceAdd, Vl.cs, Ty.cs, Ty.cs_eqs a0.2.2.2.1, Ty.cs_eqs y3, hb14, hx17d, hap22]; done)) ?_ | exact cl
  rw [Zaa]; simp +decide only [go_sem, Nat.reduceAdd, Ty.cs_eqs a0.2.2.2.1, Ty.cs_eqs y3, hb14, hx17d, hap22]
  (repeat' apply And.intro) <;> first | refine hK15 _ _ ?_ | exact cl
  clear hK15
  obtain ⟨hg23, h⟩ := Zac h
  apply Zae 1 [1, 2, 3, 15, 16, 17]
  rw [Zaa]; simp +decide only [go_sem, Nat.reduceAdd, Ty.cs_eqs a0.2.2.2.1, Ty.cs_eqs y3, hb14, hx17d, hap22]
  (repeat' apply And.intro) <;> first | refine Vl11 ml11 _ _ (Nat.lt_succ_self ml11) ⟨(x3_l11 ++ ([y18])), (x17_l11 + 1), o20, ([x17.cs]), rows21, by first | rfl | (simp +decide only [go_sem, Nat.reduceAdd, Ty.cs_eqs a0.2.2.2.1, Ty.cs_eqs y3, hb14, hx17d, hap22]; done), by first | rfl | (simp +decide only [go_sem, Nat.reduceAdd, Ty.cs_eqs a0.2.2.2.1, Ty.cs_eqs y3, hb14, hx17d, hap22]; done), Owns.of_eq (hO) (by first | rfl | simp only [List.length_append, List.length_cons, List.length_nil, List.length_map, Nat.zero_add, Nat.add_zero]), h⟩ | exact cl
 ·
  clear h; rintro e st ⟨x3_k8, ox3_k8, Xk8, Rk8, rfl, rfl, hO, h⟩
  rw [Zdy] at h
  have hU := hO.unders
  simp only [List.mem_cons, List.not_mem_nil, or_false, forall_eq_or_imp, forall_eq] at hU
  refine td hN hNR hNL hcalm hO ?_
  apply Zab; intro K24 hK24
  apply Zae 1 [1, 2]
  rw [Zaa]; simp +decide only [go_sem, Nat.reduceAdd, Ty.cs_eqs a0.2.2.2.1, Ty.cs_eqs y3]
  (repeat' apply And.intro) <;> first | refine hK24 _ _ ?_ | exact cl
  clear hK24
  apply Zab; intro K25 hK25
  apply Zae 1 [2]
  rw [Zaa]; simp +decide only [go_sem, Nat.reduceAdd, Ty.cs_eqs a0.2.2.2.1, Ty.cs_eqs y3]
  (repeat' apply And.intro) <;> first | refine hK25 _ _ ?_ | exact cl
  clear hK25
  apply Zah; simp +decide only [go_sem, Nat.reduceAdd, Ty.cs_eqs a0.2.2.2.1, Ty.cs_eqs y3]
  have hgt := Option.some.inj h; subst hgt
  first | refine ZaG hcalm rfl hO.pre ev ⟨?_, rfl⟩ | refine Zbg hcalm rfl hO.pre ev ⟨?_, rfl⟩
  first | rfl | (simp +decide only [go_sem, Nat.reduceAdd, Ty.cs_eqs a0.2.2.2.1, Ty.cs_eqs y3]; done) | (simp +decide only [go_sem, Nat.reduceAdd, Vl.cs, Ty.cs, Ty.cs_eqs a0.2.2.2.1, Ty.cs_eqs y3]; done)
def Zf6 (rec : Ty → Option Ty) (n : Nat) (a0 : Ty) (x3_k26 : List Ty) (x6_k26 : List (Int × ByteArray × Int × Ty × List Vl)) : Option Ty :=
 if a0.words.length * 16 ≤ 140737488355328 then
  some (Ty.mk a0.kind a0.min a0.max a0.scale a0.words x3_k26 x6_k26)
 else none
def Zdk (rec : Ty → Option Ty) (n : Nat) (a0 : Ty) : Nat → (List Ty) → (List (Int × ByteArray × Int × Ty × List Vl)) → Int → Option Ty
 | 0, _, _, _ => none
 | m + 1, x3_l29, x6_l29, x33_l29 =>
  if decide (x33_l29 < ((a0.fields.length : Int))) then
   (idx a0.fields x33_l29).bind fun x35 =>
   (Zbx rec n x35).bind fun y36 =>
   if (x6_l29.length + 1) * 160 ≤ 140737488355328 ∧ x6_l29.length + 1 ≤ 4611686018427387904 then
    if I64 (x33_l29 + 1) then
     (Zdk rec n a0 m) x3_l29 (x6_l29 ++ ([y36])) (x33_l29 + 1)
    else none
   else none
  else
   Zf6 rec n a0 x3_l29 x6_l29
def ZgN (rec : Ty → Option Ty) (n : Nat) (a0 : Ty) (x3_k6 : List Ty) : Option Ty :=
 if 0 ≤ (a0.fields.length : Int) ∧ ((a0.fields.length : Int)) * 160 ≤ 140737488355328 ∧ (a0.fields.length : Int) ≤ 4611686018427387904 then
  Zdk rec n a0 n x3_k6 ([]) 0
 else none
def ZdW (rec : Ty → Option Ty) (n : Nat) (a0 : Ty) : Nat → (List Ty) → Int → Option Ty
 | 0, _, _ => none
 | m + 1, x3_l9, x16_l9 =>
  if decide (x16_l9 < ((a0.elem.length : Int))) then
   (idx a0.elem x16_l9).bind fun x15 =>
   (rec x15).bind fun y16 =>
   if (x3_l9.length + 1) * 104 ≤ 140737488355328 ∧ x3_l9.length + 1 ≤ 4611686018427387904 then
    if I64 (x16_l9 + 1) then
     (ZdW rec n a0 m) (x3_l9 ++ ([y16])) (x16_l9 + 1)
    else none
   else none
  else
   ZgN rec n a0 x3_l9
def ZhR (rec : Ty → Option Ty) (n : Nat) (a0 : Ty) : Option Ty :=
 if 0 ≤ (a0.elem.length : Int) ∧ ((a0.elem.length : Int)) * 104 ≤ 140737488355328 ∧ (a0.elem.length : Int) ≤ 4611686018427387904 then
  ZdW rec n a0 n ([]) 0
 else none
def Zc2 : Nat → Ty → Option Ty
 | 0, _ => none
 | n + 1, a0 => ZhR (Zc2 n) n a0
def Zj5 (w0 : World) (F : Ty → Option Ty) : Prop := ∀ (B : List (List AV)) (Rw : List RowA) (L : List LoopA) (a0 : Ty) (r : Ty), F a0 = some r → ACalls Tryz.prog w0 57 [.agg (a0.cs)] ⟨B, Rw, L⟩ fun x st => x = .agg (r.cs) ∧ st = ⟨B, Rw, L⟩
theorem Zmn (w0 : World) (rec : Ty → Option Ty) (ih : Zj5 w0 rec) (n : Nat) : Zj5 w0 (ZhR rec n) := by
 intro B Rw L a0 r h
 rw [ZhR] at h
 refine hd [.cell 2 26] Tryz.func57 Tryz.ntmps57 fun M0 W0 hN hNR hNL hcalm hu hO hs => ?_
 simp only [Zav]
 refine rg [1, 2] hs ?_
 obtain ⟨hg3, h⟩ := Zac h
 have hO := hO.make 7 0
 refine rg [1, 2, 3] hs ?_
 refine Zai (fun e st => ∃ (x3_k6 : List Ty) (ox3_k6 : Ev.Own), Ck e st B Rw L [(1, true, .box B.length 0), (2, true, .box (B.length + 1) 0), (3, true, .list (x3_k6.map avT) ox3_k6)] [a0.cs, [.val (.int .i64 0), .val (.int .i64 0), .val (.int .i64 0), .val (.int .i64 0), .list ([]) .full, .list ([]) .full, .list ([]) .full]] [(7, x3_k6.length, ox3_k6)] (ZgN rec n a0 x3_k6 = some r)) ?_ ?_
 ·
  intro K7 hK7
  refine rg [1, 2, 3, 14, 15, 16] hs ?_
  apply Zad
  refine Zal (fun m e st => ∃ (x3_l9 : List Ty) (x16_l9 : Int) (ox3_l9 : Ev.Own), Ck e st B Rw L [(1, true, .box B.length 0), (2, true, .box (B.length + 1) 0), (3, true, .list (x3_l9.map avT) ox3_l9), (14, true, .list (a0.elem.map avT) .none), (15, true, .val (.int .i64 ((a0.elem.length : Int)))), (16, true, .val (.int .i64 x16_l9))] [a0.cs, [.val (.int .i64 0), .val (.int .i64 0), .val (.int .i64 0), .val (.int .i64 0), .list ([]) .full, .list ([]) .full, .list ([]) .full]] [(7, x3_l9.length, ox3_l9)] (ZdW rec n a0 m x3_l9 x16_l9 = some r)) n ⟨([]), 0, ((.row Rw.length)), ([]), ((Rw ++ [.grow 0 7])), ef hs, ef hs, Owns.of_eq (hO) (by first | rfl | simp only [List.length_append, List.length_cons, List.length_nil, List.length_map, Nat.zero_add, Nat.add_zero]), h⟩ ?_
  rintro ml9 e st ⟨x3_l9, x16_l9, ox3_l9, Xl9, Rl9, rfl, rfl, hO, h⟩ Ul9 Vl9
  cases ml9 with
  | zero => cases h
  | succ ml9 =>
  rw [ZdW] at h
  have hU := hO.unders
  simp only [List.mem_cons, List.not_mem_nil, or_false, forall_eq_or_imp, forall_eq] at hU
  refine td hN hNR hNL hcalm hO ?_
  refine rg [1, 2, 3, 14, 15, 16, 17] hs ?_
  apply Zab; intro K11 hK11
  refine cnd h hs (fun hs h => ?_) (fun hs h => ?_)
  rotate_left
  ·
   refine sx [1, 2, 3] hs hK7 ?_
   exact ⟨x3_l9, ox3_l9, ([]), Rl9, ef hs, ef hs, Owns.of_eq (hO) (by first | rfl | simp only [List.length_append, List.length_cons, List.length_nil, List.length_map, Nat.zero_add, Nat.add_zero]), h⟩
  refine sk [1, 2, 3, 14, 15, 16] hs hK11 ?_
  clear hK11
  apply Zab; intro K13 hK13
  apply Zad
  obtain ⟨x15, hx15, h⟩ := bind_some h
  obtain ⟨hx15a, hx15b, hx15c⟩ := Zar hx15
  have hx15d := Zay (f := avT) hx15c
  have hs := And.intro hx15d hs
  refine rg [1, 2, 3, 5, 14, 15, 16] hs ?_
  obtain ⟨y16, hy16, h⟩ := bind_some h
  obtain ⟨hg17, h⟩ := Zac h
  obtain ⟨o18, rows19, hO, hap20⟩ := hO.append (P := Tryz.prog) Zob (by rw [Zi7]; rfl) (by decide) 1 hg17.1 hg17.2
  replace hap20 := fun (ys : List AV) B L o2 => hap20 (x3_l9.map avT) ys B L o2 (by first | rfl | simp only [List.length_map, List.length_nil, List.length_append, List.length_cons, Nat.zero_add])
  replace hap20 := fun (y : AV) B L o2 => hap20 [y] B L o2 (by first | rfl | simp only [List.length_map, List.length_nil, List.length_cons]) ev
  try simp only [List.mem_singleton, List.mem_cons, List.not_mem_nil, or_false, forall_eq_or_imp, forall_eq, List.map_append, List.map_cons, List.map_nil, Zcn, ZcQ, Zcy, Zcs, Zcw, Zcm, ZbF, ZbK, ZcC, Za8, Za9, ZbE, ZbC, ZbH] at hap20
  have hs := And.intro hap20 hs
  refine rk 2 [1, 2, 3, 14, 15, 16] hs ?_
  refine Zaf _ (ih _ _ _ x15 _ hy16) (hv hs) ?_
  refine ne hs hK13 ?_
  clear hK13
  obtain ⟨hg21, h⟩ := Zac h
  refine rl [1, 2, 3, 14, 15, 16] hs (fun e s => Vl9 ml9 e s (Nat.lt_succ_self _)) ?_
  exact ⟨(x3_l9 ++ ([y16])), (x16_l9 + 1), o18, ([x15.cs]), rows19, ef hs, ef hs, Owns.of_eq (hO) (by first | rfl | simp only [List.length_append, List.length_cons, List.length_nil, List.length_map, Nat.zero_add, Nat.add_zero]), h⟩
 ·
  clear h; rintro e st ⟨x3_k6, ox3_k6, Xk6, Rk6, rfl, rfl, hO, h⟩
  rw [ZgN] at h
  have hU := hO.unders
  simp only [List.mem_cons, List.not_mem_nil, or_false, forall_eq_or_imp, forall_eq] at hU
  refine td hN hNR hNL hcalm hO ?_
  obtain ⟨hg23, h⟩ := Zac h
  have hO := hO.make 11 0
  refine rg [1, 2, 3, 6] hs ?_
  refine Zai (fun e st => ∃ (x3_k26 : List Ty) (x6_k26 : List (Int × ByteArray × Int × Ty × List Vl)) (ox3_k26 : Ev.Own) (ox6_k26 : Ev.Own), Ck e st B Rw L [(1, true, .box B.length 0), (2, true, .box (B.length + 1) 0), (3, true, .list (x3_k26.map avT) ox3_k26), (6, true, .list (x6_k26.map Zer) ox6_k26)] [a0.cs, [.val (.int .i64 0), .val (.int .i64 0), .val (.int .i64 0), .val (.int .i64 0), .list ([]) .full, .list ([]) .full, .list ([]) .full]] [(7, x3_k26.length, ox3_k26), (11, x6_k26.length, ox6_k26)] (Zf6 rec n a0 x3_k26 x6_k26 = some r)) ?_ ?_
  ·
   intro K27 hK27
   refine rg [1, 2, 3, 6, 31, 32, 33] hs ?_
   apply Zad
   refine Zal (fun m e st => ∃ (x3_l29 : List Ty) (x6_l29 : List (Int × ByteArray × Int × Ty × List Vl)) (x33_l29 : Int) (ox3_l29 : Ev.Own) (ox6_l29 : Ev.Own), Ck e st B Rw L [(1, true, .box B.length 0), (2, true, .box (B.length + 1) 0), (3, true, .list (x3_l29.map avT) ox3_l29), (6, true, .list (x6_l29.map Zer) ox6_l29), (31, true, .list (a0.fields.map Zer) .none), (32, true, .val (.int .i64 ((a0.fields.length : Int)))), (33, true, .val (.int .i64 x33_l29))] [a0.cs, [.val (.int .i64 0), .val (.int .i64 0), .val (.int .i64 0), .val (.int .i64 0), .list ([]) .full, .list ([]) .full, .list ([]) .full]] [(7, x3_l29.length, ox3_l29), (11, x6_l29.length, ox6_l29)] (Zdk rec n a0 m x3_l29 x6_l29 x33_l29 = some r)) n ⟨x3_k6, ([]), 0, ox3_k6, ((.row Rk6.length)), ([]), ((Rk6 ++ [.grow 0 11])), ef hs, ef hs, Owns.of_eq ((hO).swap (List.Perm.swap _ _ _)) (by first | rfl | simp only [List.length_append, List.length_cons, List.length_nil, List.length_map, Nat.zero_add, Nat.add_zero]), h⟩ ?_
   rintro ml29 e st ⟨x3_l29, x6_l29, x33_l29, ox3_l29, ox6_l29, Xl29, Rl29, rfl, rfl, hO, h⟩ Ul29 Vl29
   cases ml29 with
   | zero => cases h
   | succ ml29 =>
   rw [Zdk] at h
   have hU := hO.unders
   simp only [List.mem_cons, List.not_mem_nil, or_false, forall_eq_or_imp, forall_eq] at hU
   obtain ⟨hU0, hU1⟩ := hU
   refine td hN hNR hNL hcalm hO ?_
   refine rg [1, 2, 3, 6, 31, 32, 33, 34] hs ?_
   apply Zab; intro K31 hK31
   refine cnd h hs (fun hs h => ?_) (fun hs h => ?_)
   rotate_left
   ·
    refine sx [1, 2, 3, 6] hs hK27 ?_
    exact ⟨x3_l29, x6_l29, ox3_l29, ox6_l29, ([]), Rl29, ef hs, ef hs, Owns.of_eq (((hO).swap (List.Perm.swap _ _ _)).swap (List.Perm.swap _ _ _)) (by first | rfl | simp only [List.length_append, List.length_cons, List.length_nil, List.length_map, Nat.zero_add, Nat.add_zero]), h⟩
   refine sk [1, 2, 3, 6, 31, 32, 33] hs hK31 ?_
   clear hK31
   apply Zab; intro K33 hK33
   apply Zad
   obtain ⟨x35, hx35, h⟩ := bind_some h
   obtain ⟨hx35a, hx35b, hx35c⟩ := Zar hx35
   have hx35d := Zay (f := Zer) hx35c
   have hs := And.intro hx35d hs
   refine rg [1, 2, 3, 6, 8, 31, 32, 33] hs ?_
   obtain ⟨y36, hy36, h⟩ := bind_some h
   obtain ⟨hg37, h⟩ := Zac h
   have hO := hO.swap (List.Perm.swap _ _ _)
   obtain ⟨o38, rows39, hO, hap40⟩ := hO.append (P := Tryz.prog) Zxh (by rw [ZsT]; rfl) (by decide) 1 hg37.1 hg37.2
   replace hap40 := fun (ys : List AV) B L o2 => hap40 (x6_l29.map Zer) ys B L o2 (by first | rfl | simp only [List.length_map, List.length_nil, List.length_append, List.length_cons, Nat.zero_add])
   replace hap40 := fun (y : AV) B L o2 => hap40 [y] B L o2 (by first | rfl | simp only [List.length_map, List.length_nil, List.length_cons]) ev
   try simp only [List.mem_singleton, List.mem_cons, List.not_mem_nil, or_false, forall_eq_or_imp, forall_eq, List.map_append, List.map_cons, List.map_nil, Zcn, ZcQ, Zcy, Zcs, Zcw, Zcm, ZbF, ZbK, ZcC, Za8, Za9, ZbE, ZbC, ZbH] at hap40
   have hs := And.intro hap40 hs
   refine rk 2 [1, 2, 3, 6, 31, 32, 33] hs ?_
   refine Zaf _ (Zgq w0 rec ih n _ _ _ x35 _ hy36) (hv hs) ?_
   refine ne hs hK33 ?_
   clear hK33
   obtain ⟨hg41, h⟩ := Zac h
   refine rl [1, 2, 3, 6, 31, 32, 33] hs (fun e s => Vl29 ml29 e s (Nat.lt_succ_self _)) ?_
   exact ⟨x3_l29, (x6_l29 ++ ([y36])), (x33_l29 + 1), ox3_l29, o38, ([.val (.int .i64 x35.1) :: (.val (.string x35.2.1) :: (.val (.int .i64 x35.2.2.1) :: ((x35.2.2.2.1.cs) ++ ([.list (x35.2.2.2.2.map avV) .none]))))]), rows39, ef hs, ef hs, Owns.of_eq ((hO).swap (List.Perm.swap _ _ _)) (by first | rfl | simp only [List.length_append, List.length_cons, List.length_nil, List.length_map, Nat.zero_add, Nat.add_zero]), h⟩
  ·
   clear h; rintro e st ⟨x3_k26, x6_k26, ox3_k26, ox6_k26, Xk26, Rk26, rfl, rfl, hO, h⟩
   rw [Zf6] at h
   have hU := hO.unders
   simp only [List.mem_cons, List.not_mem_nil, or_false, forall_eq_or_imp, forall_eq] at hU
   obtain ⟨hU0, hU1⟩ := hU
   refine td hN hNR hNL hcalm hO ?_
   apply Zab; intro K42 hK42
   obtain ⟨hg43, h⟩ := Zac h
   apply Zae 2 [1, 2]
   rw [Zaa]; simp +decide only [go_sem, Nat.reduceAdd, Ty.cs_eqs a0]
   (repeat' apply And.intro) <;> first | refine Zaf _ (Zh2 w0 _ _ _ a0.words hg43) (by first | rfl | (simp +decide only [go_sem, Nat.reduceAdd, Ty.cs_eqs a0]; done) | (simp +decide only [go_sem, Nat.reduceAdd, Vl.cs, Ty.cs, Ty.cs_eqs a0]; done)) ?_ | exact cl
   rw [Zaa]; simp +decide only [go_sem, Nat.reduceAdd, Ty.cs_eqs a0]
   (repeat' apply And.intro) <;> first | refine hK42 _ _ ?_ | exact cl
   clear hK42
   apply Zab; intro K44 hK44
   apply Zae 1 [2]
   rw [Zaa]; simp +decide only [go_sem, Nat.reduceAdd, Ty.cs_eqs a0]
   (repeat' apply And.intro) <;> first | refine hK44 _ _ ?_ | exact cl
   clear hK44
   apply Zah; simp +decide only [go_sem, Nat.reduceAdd, Ty.cs_eqs a0]
   have hgt := Option.some.inj h; subst hgt
   first | refine ZaG hcalm rfl hO.pre ev ⟨?_, rfl⟩ | refine Zbg hcalm rfl hO.pre ev ⟨?_, rfl⟩
   first | rfl | (simp +decide only [go_sem, Nat.reduceAdd, Ty.cs_eqs a0]; done) | (simp +decide only [go_sem, Nat.reduceAdd, Vl.cs, Ty.cs, Ty.cs_eqs a0]; done)
theorem ZiD (w0 : World) : ∀ n : Nat, Zj5 w0 (Zc2 n)
 | 0 => fun _ _ _ _ _ h => (nomatch h)
 | n + 1 => Zmn w0 (Zc2 n) (ZiD w0 n) n
def ZbU (n : Nat)  : Option Int :=
 some ((-1))
def Zas (n : Nat) (a0 : List (Int × ByteArray × Int × Ty × List Vl)) (a1 : (Int × ByteArray × Int × Ty × List Vl) → Option Bool) : Nat → Int → Option Int
 | 0, _ => none
 | m + 1, x8_l6 =>
  if decide (x8_l6 < ((a0.length : Int))) then
   (idx a0 x8_l6).bind fun x13 =>
   (a1 x13).bind fun y14 =>
   if y14 then
    some (x8_l6)
   else
    if I64 (x8_l6 + 1) then
     (Zas n a0 a1 m) (x8_l6 + 1)
    else none
  else
   ZbU n 
def ZaJ (n : Nat) (a0 : List (Int × ByteArray × Int × Ty × List Vl)) (a1 : (Int × ByteArray × Int × Ty × List Vl) → Option Bool) : Option Int :=
 Zas n a0 a1 n 0
theorem Zc8 (w0 : World) (n : Nat) (B : List (List AV)) (Rw : List RowA) (L : List LoopA) (a0 : List (Int × ByteArray × Int × Ty × List Vl)) (fa1 : FuncId) (ca1 : List AV) (a1 : (Int × ByteArray × Int × Ty × List Vl) → Option Bool) (ha1 : ∀ (x0 : Int × ByteArray × Int × Ty × List Vl) r, a1 x0 = some r → ∀ B' rows, B <+: B' → Rw <+: rows → ACalls Tryz.prog w0 fa1 ([.agg (.val (.int .i64 x0.1) :: (.val (.string x0.2.1) :: (.val (.int .i64 x0.2.2.1) :: ((x0.2.2.2.1.cs) ++ ([.list (x0.2.2.2.2.map avV) .none])))))] ++ ca1) ⟨B', rows, L⟩ fun v s => v = .val (.bool r) ∧ s = ⟨B', rows, L⟩) (r : Int) (h : ZaJ n a0 a1 = some r) :
  ACalls Tryz.prog w0 127 [.list (a0.map Zer) .none, .clo fa1 ca1] ⟨B, Rw, L⟩ fun x st => x = .val (.int .i64 r) ∧ st = ⟨B, Rw, L⟩ := by
 rw [ZaJ] at h
 refine hd [.tmp 4] Tryz.func127 Tryz.ntmps127 fun M0 W0 hN hNR hNL hcalm hu hO hs => ?_
 simp only [Zav]
 have hU_a1 := Zd0 (hu (.clo fa1 ca1) (by simp))
 refine rg [0, 1] hs ?_
 refine Zai (fun e st => Ck e st B Rw L [] [] [] (ZbU n  = some r)) ?_ ?_
 ·
  intro K4 hK4
  refine rg [0, 1, 7, 8] hs ?_
  apply Zad
  refine Zal (fun m e st => ∃ (x8_l6 : Int), Ck e st B Rw L [(0, true, .list (a0.map Zer) .none), (1, true, .clo fa1 ca1), (7, true, .val (.int .i64 ((a0.length : Int)))), (8, true, .val (.int .i64 x8_l6))] [] [] (Zas n a0 a1 m x8_l6 = some r)) n ⟨0, ([]), Rw, ef hs, ef hs, hO, h⟩ ?_
  rintro ml6 e st ⟨x8_l6, Xl6, Rl6, rfl, rfl, hO, h⟩ Ul6 Vl6
  cases ml6 with
  | zero => cases h
  | succ ml6 =>
  rw [Zas] at h
  refine Zbb hN hNR hNL rfl hcalm hO (by (simp +decide only [go_sem, Nat.reduceAdd]) <;> (try (repeat' apply And.intro)) <;> first | omega | assumption | exact hU_a1 _ _ _ (by omega) (by have := hO.len; omega) (by omega)) (by (simp +decide only [go_sem, Nat.reduceAdd, Zb2]) <;> (try (repeat' apply And.intro)) <;> first | omega | assumption | exact hU_a1 _ _ _ (by omega) (by have := hO.len; omega) (by omega)) ?_
  refine rg [0, 1, 7, 8, 9] hs ?_
  apply Zab; intro K8 hK8
  refine cnd h hs (fun hs h => ?_) (fun hs h => ?_)
  rotate_left
  ·
   refine sx [] hs hK4 ?_
   exact ⟨([]), Rl6, ef hs, ef hs, hO, h⟩
  refine sk [0, 1, 7, 8] hs hK8 ?_
  clear hK8
  apply Zab; intro K10 hK10
  apply Zad
  refine rg [0, 1, 5, 7, 8] hs ?_
  obtain ⟨x13, hx13, h⟩ := bind_some h
  obtain ⟨hx13a, hx13b, hx13c⟩ := Zar hx13
  have hx13d := Zay (f := Zer) hx13c
  obtain ⟨y14, hy14, h⟩ := bind_some h
  have hs := And.intro hx13d hs
  refine rc 2 [0, 1, 5, 7, 8, 16] hs ?_; intro K12 hK12
  refine Znx _ (ha1 x13 _ hy14 _ _ (by first | exact List.prefix_append _ _ | exact List.prefix_refl _) hO.pre) (hv hs) ?_
  refine ne hs hK12 ?_
  clear hK12
  refine cnd h hs (fun hs h => ?_) (fun hs h => ?_)
  ·
   refine rg [4] hs ?_
   exact rt h hs hcalm hO
  refine sk [0, 1, 7, 8] hs hK10 ?_
  clear hK10
  obtain ⟨hg17, h⟩ := Zac h
  refine rl [0, 1, 7, 8] hs (fun e s => Vl6 ml6 e s (Nat.lt_succ_self _)) ?_
  exact ⟨(x8_l6 + 1), ([]), Rl6, ef hs, ef hs, hO, h⟩
 ·
  clear h; rintro e st ⟨Xk3, Rk3, rfl, rfl, hO, h⟩
  rw [ZbU] at h
  refine Zbb hN hNR hNL rfl hcalm hO (by (simp +decide only [go_sem, Nat.reduceAdd]) <;> (try (repeat' apply And.intro)) <;> first | omega | assumption | exact hU_a1 _ _ _ (by omega) (by have := hO.len; omega) (by omega)) (by (simp +decide only [go_sem, Nat.reduceAdd, Zb2]) <;> (try (repeat' apply And.intro)) <;> first | omega | assumption | exact hU_a1 _ _ _ (by omega) (by have := hO.len; omega) (by omega)) ?_
  refine rg [4] hs ?_
  exact rt h hs hcalm hO
def Zd8 (n : Nat) (a0 : Ty) (a1 : (Int × ByteArray × Int × Ty × List Vl) → Option Bool) : Option ((Int × ByteArray × Int × Ty × List Vl) × Bool) :=
 if (!(decide (a0.kind = 9))) && (!(decide (a0.kind = 10))) then
  some (((0, (⟨#[]⟩ : ByteArray), 0, Ty.mk 0 0 0 0 ([]) ([]) ([]), []), false))
 else
  (ZaJ n a0.fields a1).bind fun y7 =>
  if decide (y7 < 0) then
   some (((0, (⟨#[]⟩ : ByteArray), 0, Ty.mk 0 0 0 0 ([]) ([]) ([]), []), false))
  else
   (idx a0.fields y7).bind fun x13 =>
   (Zbx (Zc2 n) n x13).bind fun y14 =>
   some ((y14, true))
theorem ZqZ (w0 : World) (n : Nat) (B : List (List AV)) (Rw : List RowA) (L : List LoopA) (a0 : Ty) (fa1 : FuncId) (ca1 : List AV) (a1 : (Int × ByteArray × Int × Ty × List Vl) → Option Bool) (ha1 : ∀ (x0 : Int × ByteArray × Int × Ty × List Vl) r, a1 x0 = some r → ∀ B' rows, B <+: B' → Rw <+: rows → ACalls Tryz.prog w0 fa1 ([.agg (.val (.int .i64 x0.1) :: (.val (.string x0.2.1) :: (.val (.int .i64 x0.2.2.1) :: ((x0.2.2.2.1.cs) ++ ([.list (x0.2.2.2.2.map avV) .none])))))] ++ ca1) ⟨B', rows, L⟩ fun v s => v = .val (.bool r) ∧ s = ⟨B', rows, L⟩) (r : (Int × ByteArray × Int × Ty × List Vl) × Bool) (h : Zd8 n a0 a1 = some r) :
  ACalls Tryz.prog w0 70 [.agg (a0.cs), .clo fa1 ca1] ⟨B, Rw, L⟩ fun x st => x = .tup [.agg (.val (.int .i64 r.1.1) :: (.val (.string r.1.2.1) :: (.val (.int .i64 r.1.2.2.1) :: ((r.1.2.2.2.1.cs) ++ ([.list (r.1.2.2.2.2.map avV) .none]))))), .val (.bool r.2)] ∧ st = ⟨B, Rw, L⟩ := by
 rw [Zd8] at h
 refine hd [.cell 4 54, .tmp 5] Tryz.func70 Tryz.ntmps70 fun M0 W0 hN hNR hNL hcalm hu hO hs => ?_
 simp only [Zav]
 have hU_a1 := Zd0 (hu (.clo fa1 ca1) (by simp))
 refine rg [1, 2, 4] hs ?_
 apply Zab; intro K2 hK2
 refine rg [1, 2, 4, 14] hs ?_
 refine cnd h hs (fun hs h => ?_) (fun hs h => ?_)
 ·
  have hb4 := hs.1
  apply Zab; intro K5 hK5
  apply Zae 1 [4, 5]
  rw [Zaa]; simp +decide only [go_sem, Nat.reduceAdd, hb4, ZaF, Zan, Zam]
  (repeat' apply And.intro) <;> first | refine hK5 _ _ ?_ | exact cl
  clear hK5
  exact rt h hs hcalm hO
 have hb4 := hs.1
 refine sk [1, 2, 4] hs hK2 ?_
 clear hK2
 obtain ⟨y7, hy7, h⟩ := bind_some h
 refine rc 2 [2, 4, 6] hs ?_; intro K6 hK6
 refine Zaf _ (Zc8 w0 n _ _ _ a0.fields fa1 ca1 a1 (fun x0 r hx B'' rows'' q1 q2 => ha1 x0 r hx B'' rows'' (List.IsPrefix.trans (by first | exact List.prefix_append _ _ | exact List.prefix_refl _) q1) (hO.pre.trans q2)) _ hy7) (hv hs) ?_
 refine ne hs hK6 ?_
 clear hK6
 apply Zab; intro K8 hK8
 refine rg [2, 4, 6, 21] hs ?_
 refine cnd h hs (fun hs h => ?_) (fun hs h => ?_)
 ·
  have hb10 := hs.1
  apply Zab; intro K11 hK11
  apply Zae 1 [4, 5]
  rw [Zaa]; simp +decide only [go_sem, Nat.reduceAdd, hb4, hb10, ZaF, Zan, Zam]
  (repeat' apply And.intro) <;> first | refine hK11 _ _ ?_ | exact cl
  clear hK11
  exact rt h hs hcalm hO
 have hb10 := hs.1
 refine sk [2, 4, 6] hs hK8 ?_
 clear hK8
 obtain ⟨x13, hx13, h⟩ := bind_some h
 obtain ⟨hx13a, hx13b, hx13c⟩ := Zar hx13
 have hx13d := Zay (f := Zer) hx13c
 obtain ⟨y14, hy14, h⟩ := bind_some h
 have hs := And.intro hx13d hs
 refine rc 2 [4, 5] hs ?_; intro K12 hK12
 refine Zaf _ (Zgq w0 (Zc2 n) (ZiD w0 n) n _ _ _ x13 _ hy14) (hv hs) ?_
 refine ne hs hK12 ?_
 clear hK12
 exact rt h hs hcalm hO
def Zen (n : Nat) (a0 : Ty) (a1 : ByteArray) : Option ((Int × ByteArray × Int × Ty × List Vl) × Bool) :=
 (Zd8 n a0 (fun (x0 : Int × ByteArray × Int × Ty × List Vl) => some (ZeY x0 a1))).bind fun y3 =>
 some ((y3.1, y3.2))
theorem Zh9 (w0 : World) (n : Nat) (B : List (List AV)) (Rw : List RowA) (L : List LoopA) (a0 : Ty) (a1 : ByteArray) (r : (Int × ByteArray × Int × Ty × List Vl) × Bool) (h : Zen n a0 a1 = some r) :
  ACalls Tryz.prog w0 25 [.agg (a0.cs), .val (.string a1)] ⟨B, Rw, L⟩ fun x st => x = .tup [.agg (.val (.int .i64 r.1.1) :: (.val (.string r.1.2.1) :: (.val (.int .i64 r.1.2.2.1) :: ((r.1.2.2.2.1.cs) ++ ([.list (r.1.2.2.2.2.map avV) .none]))))), .val (.bool r.2)] ∧ st = ⟨B, Rw, L⟩ := by
 rw [Zen] at h
 refine hd [.cell 4 54, .tmp 5] Tryz.func25 Tryz.ntmps25 fun M0 W0 hN hNR hNL hcalm hu hO hs => ?_
 simp only [Zav]
 refine rg [2, 3, 4] hs ?_
 obtain ⟨y3, hy3, h⟩ := bind_some h
 refine rc 2 [4, 5] hs ?_; intro K2 hK2
 refine Zaf _ (ZqZ w0 n _ _ _ a0 71 [.box (B.length + 1) 0] (fun (x0 : Int × ByteArray × Int × Ty × List Vl) => some (ZeY x0 a1)) (fun x0 r hx B' rows' hB' hR' => by cases hx; exact Zlo w0 _ _ _ x0 _ a1 (ZeC hB' ev)) _ hy3) (hv hs) ?_
 refine ne hs hK2 ?_
 clear hK2
 exact rt h hs hcalm hO
end Go.Proofs.YtgpmlelfkjfbiaaGreatDoor
namespace Go.Ev
open Go Go.RowKit
def Mem.start : Mem := ⟨0, 0, fun _ => 0, fun _ => 0, fun _ => 0, fun _ => 0, fun _ => 0, fun _ => 0, 0, fun _ => 0⟩
theorem ZqR (W : World) : RelSt W Mem.start ⟨[], [], []⟩ W where
 below := .refl _ _
 N := rfl
 NR := rfl
 top := fun _ _ => rfl
 inj := fun _ _ h => absurd h (Nat.not_lt_zero _)
 box := fun _ _ h => by simp at h
 row := fun _ _ h => by simp at h
 rowinj := fun _ _ h => absurd h (Nat.not_lt_zero _)
 loop := ⟨rfl, fun _ _ h => absurd h (Nat.not_lt_zero _), fun _ _ h => by simp at h⟩
theorem ZjT {P : Program} {f : FuncId} {W : World} {vals : Array Value} {args : List AV} {r : Value} (h : ACalls P W f args ⟨[], [], []⟩ fun v st => v = .val r ∧ st = ⟨[], [], []⟩) (hr : RowR W Mem.start W vals args) :
  Calls P f vals W fun e w' => e = .returned r ∧ Below W.heap.size W w' :=
 (h.2 Mem.start W vals (ZqR W) hr).mono fun en w' ⟨v, M', a, st, h1, ⟨h2, _⟩, _, h4, h5⟩ => by
  subst h2
  have := h5.val_inv.1
  subst this
  exact ⟨h1, h4.below⟩
theorem Ztn {W : World} {v : Value} {x : AV} (h : R W Mem.start W v x) : RowR W Mem.start W #[v] [x] := ⟨rfl, fun i h1 h2 => by
 obtain rfl : i = 0 := by simp at h2; exact h2
 exact h⟩
end Go.Ev
namespace Go.Proofs.YtgpmlelfkjfbiaaGreatDoor
open Go Go.Shelf Go.ChangeShapes Go.WideShapes Go.ChangeAt Go.RowKit Go.Lib Go.Ev
open Go.ChangeMaps (open_string shut_string)
set_option maxRecDepth 100000
theorem Zu5 : ownKnob Tryz.prog.godebug = none := by kernel_rfl
def ZzD : DataW Unit → List Value
 | .lit (.int k z) => [.int k z]
 | .agg l => l.flatMap fun | .lit (.int k z) => [.int k z] | _ => []
 | _ => []
def ZzU : DataW Unit → List Value
 | .agg l => l.flatMap ZzD
 | _ => []
noncomputable def Zi4 (os : Os) : World :=
 let w0 := World.holding Tryz.prog os ⟨#[], #[], []⟩
 let put (h : Array Obj) (g : Nat) (d : DataW Unit) : Array Obj := h.modify g fun
  | .cells _ t frozen => .cells (ZzU d).toArray t frozen
  | o => o
 { w0 with heap := put (put (put (put (put w0.heap 0 Rows.laid_unicode_utf8_first) 1 Rows.laid_unicode_utf8_acceptRanges) 3 Rows.laid_internal_strconv_uint64pow10) 4 Rows.laid_math_bits_deBruijn32tab) 5 Rows.laid_math_bits_deBruijn64tab }
theorem Zmq (os : Os) (args : Array Value) : laidMet Tryz.prog Rows.schemaLeavesRow.laid ((Zi4 os).forCall (fun _ _ => 0) ⟨#[], args, []⟩).memory :=
 (LaidIn.of_run (l := Rows.schemaLeavesRow.laid) [4, 5, 3, 1, 0] 8 (by kernel_rfl) (by kernel_rfl) (by kernel_rfl) (by kernel_rfl)).met
theorem Zkh {W : World} (h : Lib.VarReads Tryz.prog W ZhE Rows.laid_internal_strconv_uint64pow10) : Pow10 W := by
 obtain ⟨g, t, cs, fuel, p, h1, h2, h3, h4⟩ := h
 obtain rfl := Option.some.inj ((show Tryz.prog.globalNamed ZhE = some 3 by kernel_rfl).symm.trans h1)
 obtain rfl := Option.some.inj ((show (Tryz.prog.globals[3]?).map (·.type) = some 247 by kernel_rfl).symm.trans h2)
 have e : (Rows.laid_internal_strconv_uint64pow10 : DataW Unit) = Lib.tabData .u64 Lib.pow10Tab := by kernel_rfl
 rw [e] at h4
 unfold Pow10 Lib.TabIs
 rw [h3, ← Lib.cells_of_tab (n := 20) (k := .u64) (zs := Lib.pow10Tab) Tryz.underlying247 Tryz.underlying216 (by kernel_rfl) (by kernel_rfl) h4]
theorem Zsa {W : World} (hL : laidMet Tryz.prog Rows.schemaLeavesRow.laid W) : Lib.Utf8Tabs 0 1 W ∧ Pow10 W :=
 ⟨utf8Tabs_of_readsT (U8Types.of196 Tryz.laysValid) ⟨by kernel_rfl, by kernel_rfl, by kernel_rfl, by kernel_rfl, by kernel_rfl, by kernel_rfl, by kernel_rfl⟩ (Lib.laidMet.reads hL (.tail _ (.tail _ (.tail _ (.tail _ (.head _)))))) (Lib.laidMet.reads hL (.tail _ (.tail _ (.tail _ (.head _))))),
  Zkh (Lib.laidMet.reads hL (.tail _ (.tail _ (.head _))))⟩
set_option maxRecDepth 100000
mutual
def Vl.wf : Vl → Prop
 | .mk k i s t l f => I64 k ∧ I64 i ∧ I64 s ∧ t.size ≤ maxLen ∧ l.length ≤ maxLen ∧ f.length ≤ maxLen ∧ ZxX l ∧ Zxl f
def ZxX : List Vl → Prop
 | [] => True
 | v :: r => v.wf ∧ ZxX r
def Zxl : List (ByteArray × Vl) → Prop
 | [] => True
 | (n, v) :: r => n.size ≤ maxLen ∧ v.wf ∧ Zxl r
end
theorem ZoB : ∀ l, ZxX l ↔ ∀ v ∈ l, v.wf
 | [] => by simp [ZxX]
 | v :: r => by simp [ZxX, ZoB r]
theorem Zoi : ∀ l, Zxl l ↔ ∀ p ∈ l, p.1.size ≤ maxLen ∧ p.2.wf
 | [] => by simp [Zxl]
 | (n, v) :: r => by simp [Zxl, Zoi r, and_assoc]
mutual
def Ty.wf : Ty → Prop
 | .mk k lo hi s w e f => I64 k ∧ I64 lo ∧ I64 hi ∧ I64 s ∧ (∀ x ∈ w, x.size ≤ maxLen) ∧ w.length ≤ maxLen ∧ e.length ≤ maxLen ∧ f.length ≤ maxLen ∧ Zxb e ∧ Zqx f
def Zxb : List Ty → Prop
 | [] => True
 | v :: r => v.wf ∧ Zxb r
def Zqx : List (Int × ByteArray × Int × Ty × List Vl) → Prop
 | [] => True
 | (n, s, d, t, l) :: r => (I64 n ∧ s.size ≤ maxLen ∧ I64 d ∧ t.wf ∧ l.length ≤ maxLen ∧ ∀ v ∈ l, v.wf) ∧ Zqx r
end
theorem Zoo : ∀ l, Zxb l ↔ ∀ v ∈ l, v.wf
 | [] => by simp [Zxb]
 | v :: r => by simp [Zxb, Zoo r]
theorem Znh : ∀ l, Zqx l ↔ ∀ p ∈ l, I64 p.1 ∧ p.2.1.size ≤ maxLen ∧ I64 p.2.2.1 ∧ p.2.2.2.1.wf ∧ p.2.2.2.2.length ≤ maxLen ∧ ∀ v ∈ p.2.2.2.2, v.wf
 | [] => by simp [Zqx]
 | (n, s, d, t, l) :: r => by simp [Zqx, Znh r]
def Part.wf (p : Part) : Prop := I64 p.kind ∧ I64 p.index ∧ p.name.size ≤ maxLen
def Sch.wf (s : Sch) : Prop := s.name.size ≤ maxLen ∧ I64 s.version ∧ s.type.wf
section
variable {H : Type} {enc : TypeId × Value → H} {W : World}
def RC (W : World) (cs : List Value) (xs : List AV) : Prop := cs.length = xs.length ∧ ∀ i (h1 : i < cs.length) (h2 : i < xs.length), R W Mem.start W cs[i] xs[i]
theorem RC.nil : RC W [] [] := ⟨rfl, fun i h1 => absurd h1 (by simp)⟩
theorem RC.cons {v : Value} {x : AV} {cs : List Value} {xs : List AV} (h : R W Mem.start W v x) (k : RC W cs xs) : RC W (v :: cs) (x :: xs) := ⟨by simp [k.1], fun i h1 h2 => by
 cases i with
 | zero => exact h
 | succ i => simpa using k.2 i (by simpa using h1) (by simpa using h2)⟩
theorem RC.app {cs ds : List Value} {xs ys : List AV} (h : RC W cs xs) (k : RC W ds ys) : RC W (cs ++ ds) (xs ++ ys) := by
 refine ⟨by simp [h.1, k.1], fun i h1 h2 => ?_⟩
 by_cases c : i < cs.length
 ·
  rw [List.getElem_append_left c, List.getElem_append_left (h.1 ▸ c)]; exact h.2 i c _
 ·
  rw [List.getElem_append_right (Nat.le_of_not_lt c), List.getElem_append_right (h.1 ▸ Nat.le_of_not_lt c)]
  simp only [h.1]
  exact k.2 _ (by have := h.1; rw [List.length_append] at h1; omega) (by have := h.1; rw [List.length_append] at h2; omega)
theorem RC.agg {cs : List Value} {xs : List AV} (h : RC W cs xs) (h1 : ∀ x ∈ xs, x.one = true) : R W Mem.start W (.agg cs.toArray) (.agg xs) := .agg (by simpa using h.1) h1 (fun i a b => by simpa using h.2 i (by simpa using a) b)
noncomputable abbrev Td (enc : TypeId × Value → H) (W : World) (n : Nat) (t : TypeId) (cs : List Value) : Option (DataW H × List MemPlace) := DataW.trod enc Tryz.prog W 0 (fun _ => true) true n t cs
theorem ZhY {n : Nat} {cs : List Value} {x : DataW H × List MemPlace} (h : Td enc W n 3 cs = some x) : ∃ z, I64 z ∧ cs = [.int .i64 z] := by
 obtain ⟨z, rfl, _, hw⟩ := DataW.trod_int Tryz.underlying3 h
 refine ⟨z, ?_, rfl⟩
 simp [Lit.wf, IntKind.min, IntKind.max, IntKind.signed, IntKind.bits] at hw
 unfold I64
 omega
theorem Zov {n : Nat} {cs : List Value} {x : DataW H × List MemPlace} (h : Td enc W n 9 cs = some x) : ∃ s : ByteArray, s.size ≤ maxLen ∧ cs = [.string s] := by
 obtain ⟨s, rfl, _, hw⟩ := DataW.trod_string Tryz.underlying9 h
 exact ⟨s, hw, rfl⟩
theorem ZgT {α : Type} (f : α → AV) (p : α → Prop) {t e : TypeId} {sz : Nat} (ht : Tryz.prog.underlying t = some (.slice e)) (hc : Tryz.prog.cellsOf e = sz) (hsz : 0 < sz) {n : Nat}
  (H0 : ∀ cs x, Td enc W n e cs = some x → ∃ y u, p y ∧ u.cells.toList = cs ∧ R W Mem.start W u (f y)) {cs : List Value} {x : DataW H × List MemPlace} (h : Td enc W (n + 1) t cs = some x) :
  ∃ (l : List α) (v : Value), (∀ y ∈ l, p y) ∧ l.length ≤ maxLen ∧ cs = [v] ∧ R W Mem.start W v (.list (l.map f) .none) := by
 rcases DataW.trod_slice ht h with ⟨rfl, _⟩ | ⟨a, len, cap, elems, rest, n', hn, rfl, _, hb, hl, hm, hlen, hel, hsp, _⟩
 ·
  exact ⟨[], _, by simp, by simp, rfl, .nil (fun id => by simp)⟩
 ·
  cases hn
  by_cases hcap : cap = 0
  ·
   subst hcap
   obtain rfl : len = 0 := by omega
   exact ⟨[], _, by simp, by simp, rfl, .emp (fun id => by simp)⟩
  have hspot : a.spot = none := by
   have get : ∀ (c : DataW H × List MemPlace) (r : List Value → Option (DataW H × List MemPlace)), (W.cells? 0 (a.add (0 * Tryz.prog.cellsOf e)) (Tryz.prog.cellsOf e)).bind r = some c → a.spot = none := fun c r hr => by
    obtain ⟨cs', h1, _⟩ := Option.bind_eq_some_iff.1 hr
    obtain ⟨_, h2, h3⟩ := World.cells?_some h1
    have h4 := h3 0 (by omega)
    rw [List.getElem?_eq_getElem (by omega)] at h4
    have e0 : (a.add (0 * Tryz.prog.cellsOf e)).add 0 = a := by simp [Addr.add]
    rw [e0] at h4
    unfold World.cell? at h4
    split at h4
    ·
     split at h4
     ·
      cases h4
     ·
      rename_i q; simpa using q
    ·
     cases h4
   by_cases h0 : 0 < len
   ·
    have := hel 0 h0
    rw [List.getElem?_eq_getElem (by omega)] at this
    exact get _ _ this
   ·
    obtain ⟨h1, h2⟩ := hsp rfl
    have := h2 0 (by omega)
    rw [List.getElem?_eq_getElem (by omega)] at this
    obtain rfl : len = 0 := by omega
    exact get _ _ this
  obtain ⟨b, off, sp⟩ := a
  simp only at hspot
  subst hspot
  have key : ∀ i, i < len → ∃ y u, p y ∧ R W Mem.start W u (f y) ∧ u.cells.size = sz ∧ ∀ j, j < sz → W.cell? ⟨b, off + i * sz + j, none⟩ = u.cells[j]? := fun i hi => by
   have h1 := hel i hi
   rw [List.getElem?_eq_getElem (by omega)] at h1
   obtain ⟨cs', h2, h3⟩ := Option.bind_eq_some_iff.1 h1
   obtain ⟨y, u, h4, h5, h6⟩ := H0 _ _ h3
   obtain ⟨_, h7, h8⟩ := World.cells?_some h2
   rw [hc] at h7 h8
   refine ⟨y, u, h4, h6, by rw [← h7, ← h5, Array.length_toList], fun j hj => ?_⟩
   have := h8 j hj
   rw [← h5, Array.getElem?_toList] at this
   rw [← this]
   congr 1
   have ea : ∀ (o m : Nat), (⟨b, o, none⟩ : Addr).add m = ⟨b, o + m, none⟩ := fun o m => by unfold Addr.add; split <;> simp_all
   rw [ea, ea]
  classical
  let y : Nat → Option (α × Value) := fun i => if hi : i < len then some (Classical.choose (key i hi), Classical.choose (Classical.choose_spec (key i hi))) else none
  have hne : len = 0 ∨ Nonempty (α × Value) := by
   by_cases h0 : 0 < len
   ·
    obtain ⟨z, u, _⟩ := key 0 h0; exact .inr ⟨(z, u)⟩
   ·
    exact .inl (by omega)
  rcases hne with h0 | ⟨⟨d⟩⟩
  ·
   subst h0
   exact ⟨[], _, by simp, by simp, rfl, .list (xs := []) 0 (fun _ => undef) (Nat.zero_le _) hm (fun i hi => absurd hi (by simp)) (fun i hi => absurd hi (by simp)) trivial⟩
  ·
   let g : Nat → α × Value := fun i => if hi : i < len then (Classical.choose (key i hi), Classical.choose (Classical.choose_spec (key i hi))) else d
   have hg : ∀ i, i < len → p (g i).1 ∧ R W Mem.start W (g i).2 (f (g i).1) ∧ (g i).2.cells.size = sz ∧ ∀ j, j < sz → W.cell? ⟨b, off + i * sz + j, none⟩ = (g i).2.cells[j]? := fun i hi => by
    have := Classical.choose_spec (Classical.choose_spec (key i hi))
    simp only [g, dif_pos hi]
    exact this
   have hlen2 : (((List.range len).map fun i => (g i).1).map f).length = len := by simp
   refine ⟨(List.range len).map fun i => (g i).1, .slice (some ⟨b, off, none⟩) len cap, fun z hz => ?_, by simp; omega, rfl, ?_⟩
   ·
    obtain ⟨i, hi, rfl⟩ := List.mem_map.1 hz
    exact (hg i (by simpa using hi)).1
   ·
    have := Ev.R.list (w0 := W) (M := Ev.Mem.start) (w := W) (b := b) (off := off) (cap := cap) (xs := ((List.range len).map fun i => (g i).1).map f) (o := .none) sz (fun i => (g i).2) (by rw [hlen2]; exact hl) hm
     (fun i hi => by
      rw [hlen2] at hi
      obtain ⟨_, _, h3, h4⟩ := hg i hi
      refine ⟨h3, fun j hj => ⟨.inl ?_, h4 j hj⟩⟩
      have := h4 j hj
      rw [Array.getElem?_eq_getElem (by rw [h3]; exact hj)] at this
      exact World.block_lt_of_cell? W _ this) (fun i hi => by
      rw [hlen2] at hi
      simp only [List.getElem_map, List.getElem_range]
      exact (hg i hi).2.1) trivial
    rw [hlen2] at this
    exact this
theorem Vl.ones (v : Vl) : ∀ x ∈ v.cs, x.one = true := by
 cases v; intro x hx
 simp only [Vl.cs, List.mem_cons, List.not_mem_nil, or_false] at hx
 rcases hx with rfl | rfl | rfl | rfl | rfl | rfl <;> rfl
theorem Ty.ones (v : Ty) : ∀ x ∈ v.cs, x.one = true := by
 cases v; intro x hx
 simp only [Ty.cs, List.mem_cons, List.not_mem_nil, or_false] at hx
 rcases hx with rfl | rfl | rfl | rfl | rfl | rfl | rfl <;> rfl
theorem Zql : ∀ (n : Nat) (cs : List Value) (x : DataW H × List MemPlace), Td enc W n 46 cs = some x → ∃ v : Vl, v.wf ∧ RC W cs v.cs
 | 0, cs, x, h => by simp [Td, DataW.trod] at h
 | n + 1, cs, x, h => by
  obtain ⟨xs, n', hn, _, hl, hx, hf⟩ := DataW.trod_struct Tryz.underlying46 h
  cases hn
  have hl6 : cs.length = 6 := hl.trans (by kernel_rfl)
  have hx6 : xs.length = 6 := hx
  match cs, hl6 with
  | [c0, c1, c2, c3, c4, c5], _ =>
  have g : ∀ i (hi : i < 6), xs[i]? = some (xs[i]'(by omega)) := fun i hi => List.getElem?_eq_getElem _
  have f0 := hf 0 _ rfl; have f1 := hf 1 _ rfl; have f2 := hf 2 _ rfl; have f3 := hf 3 _ rfl; have f4 := hf 4 _ rfl; have f5 := hf 5 _ rfl
  rw [g 0 (by omega)] at f0; rw [g 1 (by omega)] at f1; rw [g 2 (by omega)] at f2; rw [g 3 (by omega)] at f3; rw [g 4 (by omega)] at f4; rw [g 5 (by omega)] at f5
  obtain ⟨k, hk, ek⟩ := ZhY f0
  obtain ⟨i, hi, ei⟩ := ZhY f1
  obtain ⟨s, hs, es⟩ := ZhY f2
  obtain ⟨t, ht, et⟩ := Zov f3
  cases n with
  | zero => simp [DataW.trod] at f4
  | succ n =>
  obtain ⟨l, vl, hl1, hl2, el, hRl⟩ := ZgT avV Vl.wf Tryz.underlying43 (sz := 6) (by kernel_rfl) (by omega) (fun cs x h => by
   obtain ⟨v, hv, hR⟩ := Zql n cs x h
   exact ⟨v, .agg cs.toArray, hv, by simp [Value.cells], hR.agg v.ones⟩) f4
  obtain ⟨fl, vf, hf1, hf2, ef, hRf⟩ := ZgT avF (fun p => p.1.size ≤ maxLen ∧ p.2.wf) Tryz.underlying44 (sz := 7) (by kernel_rfl) (by omega) (fun cs x h => by
   cases n with
   | zero => simp [DataW.trod] at h
   | succ n =>
   obtain ⟨ys, n', hn, _, hl, hx, hf⟩ := DataW.trod_struct Tryz.underlying75 h
   cases hn
   have hl7 : cs.length = 7 := hl.trans (by kernel_rfl)
   have hx2 : ys.length = 2 := hx
   have q0 := hf 0 _ rfl; have q1 := hf 1 _ rfl
   rw [List.getElem?_eq_getElem (by omega)] at q0 q1
   obtain ⟨nm, hnm, en⟩ := Zov q0
   obtain ⟨v, hv, hR⟩ := Zql n _ _ q1
   have e2 : Tryz.prog.cellsOf 46 = 6 := by kernel_rfl
   have e3 : Tryz.prog.cellsOf 9 = 1 := by kernel_rfl
   simp only [List.getElem_toArray, List.getElem_cons_zero, List.getElem_cons_succ, e2, e3] at en hR
   match cs, hl7 with
   | [c0, c1, c2, c3, c4, c5, c6], _ =>
   simp only [List.drop_zero, List.take_succ_cons, List.take_zero, List.cons.injEq, and_true, List.drop_succ_cons] at en hR
   subst en
   refine ⟨(nm, v), .agg #[.string nm, c1, c2, c3, c4, c5, c6], ⟨hnm, hv⟩, rfl, ?_⟩
   exact RC.agg (cs := [.string nm, c1, c2, c3, c4, c5, c6]) (.cons (.flat (decide_eq_true hnm)) hR) (fun x hx => by
    rcases List.mem_cons.1 hx with rfl | hx
    ·
     rfl
    ·
     exact v.ones x hx)) f5
  have c1' : Tryz.prog.cellsOf 3 = 1 := by kernel_rfl
  have c2' : Tryz.prog.cellsOf 9 = 1 := by kernel_rfl
  have c3' : Tryz.prog.cellsOf 43 = 1 := by kernel_rfl
  have c4' : Tryz.prog.cellsOf 44 = 1 := by kernel_rfl
  simp only [List.getElem_toArray, List.getElem_cons_zero, List.getElem_cons_succ, c1', c2', c3', c4', List.drop_zero, List.take_succ_cons, List.take_zero, List.cons.injEq, and_true, List.drop_succ_cons] at ek ei es et el ef
  subst ek ei es et el ef
  refine ⟨.mk k i s t l fl, ?_, ?_⟩
  ·
   unfold Vl.wf
   exact ⟨hk, hi, hs, ht, hl2, hf2, (ZoB l).2 hl1, (Zoi fl).2 hf1⟩
  ·
   rw [Vl.cs, Zly, Zod]
   exact .cons (.flat rfl) (.cons (.flat rfl) (.cons (.flat rfl) (.cons (.flat (decide_eq_true ht)) (.cons hRl (.cons hRf .nil)))))
theorem Zp9 : ∀ (n : Nat) (cs : List Value) (x : DataW H × List MemPlace), Td enc W n 26 cs = some x → ∃ v : Ty, v.wf ∧ RC W cs v.cs
 | 0, cs, x, h => by simp [Td, DataW.trod] at h
 | n + 1, cs, x, h => by
  obtain ⟨xs, n', hn, _, hl, hx, hf⟩ := DataW.trod_struct Tryz.underlying26 h
  cases hn
  have hl7 : cs.length = 7 := hl.trans (by kernel_rfl)
  have hx7 : xs.length = 7 := hx
  match cs, hl7 with
  | [c0, c1, c2, c3, c4, c5, c6], _ =>
  have g : ∀ i (hi : i < 7), xs[i]? = some (xs[i]'(by omega)) := fun i hi => List.getElem?_eq_getElem _
  have f0 := hf 0 _ rfl; have f1 := hf 1 _ rfl; have f2 := hf 2 _ rfl; have f3 := hf 3 _ rfl; have f4 := hf 4 _ rfl; have f5 := hf 5 _ rfl; have f6 := hf 6 _ rfl
  rw [g 0 (by omega)] at f0; rw [g 1 (by omega)] at f1; rw [g 2 (by omega)] at f2; rw [g 3 (by omega)] at f3; rw [g 4 (by omega)] at f4; rw [g 5 (by omega)] at f5; rw [g 6 (by omega)] at f6
  obtain ⟨k, hk, ek⟩ := ZhY f0
  obtain ⟨lo, hlo, elo⟩ := ZhY f1
  obtain ⟨hi, hhi, ehi⟩ := ZhY f2
  obtain ⟨s, hs, es⟩ := ZhY f3
  cases n with
  | zero => simp [DataW.trod] at f4
  | succ n =>
  obtain ⟨w, vw, hw1, hw2, ew, hRw⟩ := ZgT avS (fun s => s.size ≤ maxLen) Tryz.underlying22 (sz := 1) (by kernel_rfl) (by omega) (fun cs x h => by
   obtain ⟨s, hs, rfl⟩ := Zov h
   exact ⟨s, .string s, hs, rfl, .flat (decide_eq_true hs)⟩) f4
  obtain ⟨el, ve, he1, he2, ee, hRe⟩ := ZgT avT Ty.wf Tryz.underlying23 (sz := 7) (by kernel_rfl) (by omega) (fun cs x h => by
   obtain ⟨v, hv, hR⟩ := Zp9 n cs x h
   exact ⟨v, .agg cs.toArray, hv, by simp [Value.cells], hR.agg v.ones⟩) f5
  obtain ⟨fl, vf, hf1, hf2, ef, hRf⟩ := ZgT Zer (fun p => I64 p.1 ∧ p.2.1.size ≤ maxLen ∧ I64 p.2.2.1 ∧ p.2.2.2.1.wf ∧ p.2.2.2.2.length ≤ maxLen ∧ ∀ v ∈ p.2.2.2.2, v.wf) Tryz.underlying24 (sz := 11) (by kernel_rfl) (by omega) (fun cs x h => by
   cases n with
   | zero => simp [DataW.trod] at h
   | succ n =>
   obtain ⟨ys, n', hn, _, hl, hx, hf⟩ := DataW.trod_struct Tryz.underlying54 h
   cases hn
   have hl11 : cs.length = 11 := hl.trans (by kernel_rfl)
   have hx5 : ys.length = 5 := hx
   have q0 := hf 0 _ rfl; have q1 := hf 1 _ rfl; have q2 := hf 2 _ rfl; have q3 := hf 3 _ rfl; have q4 := hf 4 _ rfl
   rw [List.getElem?_eq_getElem (by omega)] at q0 q1 q2 q3 q4
   obtain ⟨nu, hnu, enu⟩ := ZhY q0
   obtain ⟨nm, hnm, en⟩ := Zov q1
   obtain ⟨nd, hnd, end'⟩ := ZhY q2
   obtain ⟨v, hv, hR⟩ := Zp9 n _ _ q3
   cases n with
   | zero => simp [DataW.trod] at q4
   | succ n =>
   obtain ⟨dl, vd, hd1, hd2, ed, hRd⟩ := ZgT avV Vl.wf Tryz.underlying43 (sz := 6) (by kernel_rfl) (by omega) (fun cs x h => by
    obtain ⟨v, hv, hR⟩ := Zql n cs x h
    exact ⟨v, .agg cs.toArray, hv, by simp [Value.cells], hR.agg v.ones⟩) q4
   have e1 : Tryz.prog.cellsOf 3 = 1 := by kernel_rfl
   have e2 : Tryz.prog.cellsOf 26 = 7 := by kernel_rfl
   have e3 : Tryz.prog.cellsOf 9 = 1 := by kernel_rfl
   have e4 : Tryz.prog.cellsOf 43 = 1 := by kernel_rfl
   simp only [List.getElem_toArray, List.getElem_cons_zero, List.getElem_cons_succ, e1, e2, e3, e4] at enu en end' hR ed
   match cs, hl11 with
   | [c0, c1, c2, c3, c4, c5, c6, c7, c8, c9, c10], _ =>
   simp only [List.drop_zero, List.take_succ_cons, List.take_zero, List.cons.injEq, and_true, List.drop_succ_cons] at enu en end' hR ed
   subst enu en end' ed
   refine ⟨(nu, nm, nd, v, dl), .agg #[.int .i64 nu, .string nm, .int .i64 nd, c3, c4, c5, c6, c7, c8, c9, c10], ⟨hnu, hnm, hnd, hv, hd2, hd1⟩, rfl, ?_⟩
   exact RC.agg (cs := [.int .i64 nu, .string nm, .int .i64 nd] ++ ([c3, c4, c5, c6, c7, c8, c9] ++ [c10])) (.cons (.flat rfl) (.cons (.flat (show ZfV (.string nm) = true from decide_eq_true hnm)) (.cons (.flat rfl) (hR.app (.cons hRd .nil))))) (fun x hx => by
    simp only [List.mem_cons, List.mem_append, List.not_mem_nil, or_false] at hx
    rcases hx with rfl | rfl | rfl | hx | rfl
    ·
     rfl
    ·
     rfl
    ·
     rfl
    ·
     exact v.ones x hx
    ·
     rfl)) f6
  have c1' : Tryz.prog.cellsOf 3 = 1 := by kernel_rfl
  have c2' : Tryz.prog.cellsOf 22 = 1 := by kernel_rfl
  have c3' : Tryz.prog.cellsOf 23 = 1 := by kernel_rfl
  have c4' : Tryz.prog.cellsOf 24 = 1 := by kernel_rfl
  simp only [List.getElem_toArray, List.getElem_cons_zero, List.getElem_cons_succ, c1', c2', c3', c4', List.drop_zero, List.take_succ_cons, List.take_zero, List.cons.injEq, and_true, List.drop_succ_cons] at ek elo ehi es ew ee ef
  subst ek elo ehi es ew ee ef
  refine ⟨.mk k lo hi s w el fl, ?_, ?_⟩
  ·
   unfold Ty.wf
   exact ⟨hk, hlo, hhi, hs, hw1, hw2, he2, hf2, (Zoo el).2 he1, (Znh fl).2 hf1⟩
  ·
   rw [Ty.cs, ZoE, Zm7, Zr7]
   exact .cons (.flat rfl) (.cons (.flat rfl) (.cons (.flat rfl) (.cons (.flat rfl) (.cons hRw (.cons hRe (.cons hRf .nil))))))
end
section
variable {H : Type} {enc : TypeId × Value → H} {W : World} {base : Nat} {v : Value} {d : DataW H} {p : List MemPlace}
theorem Zxm {t : TypeId} {fs : Array Field} (ht : Tryz.prog.underlying t = some (.struct fs)) (hv : Value.okWide Tryz.prog W .any base t v) : ∃ cs, v = .agg cs := by
 unfold Value.okWide at hv
 rw [ht] at hv
 obtain ⟨cs, h, _⟩ := hv
 exact ⟨cs, h⟩
theorem Zw7 (hv : Value.okWide Tryz.prog W .any base 26 v) (h : DataW.Trod enc Tryz.prog W 0 (fun _ => true) true 26 v d p) : ∃ t : Ty, t.wf ∧ R W Mem.start W v (.agg t.cs) := by
 obtain ⟨cs, rfl⟩ := Zxm Tryz.underlying26 hv
 obtain ⟨n, hn⟩ := h
 obtain ⟨t, h1, h2⟩ := Zp9 n _ _ hn
 exact ⟨t, h1, by simpa [Value.cells] using h2.agg t.ones⟩
end
end Go.Proofs.YtgpmlelfkjfbiaaGreatDoor
namespace Go.Proofs.YtgpmlelfkjfbiaaGreatDoor
open Go Go.RowKit Go.Ev
theorem Zap {α : Type} {l : List α} {k : Nat} (h : k < l.length) : idx l (k : Int) = some l[k] := Zwx h
theorem Zao {a b : Nat} : decide ((a : Int) < (b : Int)) = decide (a < b) := by simp
theorem Zaq {k : Nat} (h : k < 1000000000000) : I64 ((k : Int) + 1) := by unfold I64; omega
theorem Ty.size_pos (t : Ty) : 0 < t.size := by cases t; simp [Ty.size]; omega
theorem Ty.size_eq (t : Ty) : t.size = 1 + ZeO t.elem + Zcx t.fields := by cases t; simp [Ty.size, Ty.elem, Ty.fields]
theorem Zk0 : ∀ (l : List Ty) (v : Ty), v ∈ l → v.size ≤ ZeO l
 | [], _, h => by simp at h
 | a :: r, v, h => by
  rcases List.mem_cons.1 h with rfl | h
  ·
   simp [ZeO]
  ·
   have := Zk0 r v h
   simp [ZeO]; omega
theorem Zjm : ∀ (l : List (Int × ByteArray × Int × Ty × List Vl)) (p : Int × ByteArray × Int × Ty × List Vl), p ∈ l → p.2.2.2.1.size ≤ Zcx l
 | [], _, h => by simp at h
 | (a, b, c, t, d) :: r, p, h => by
  rcases List.mem_cons.1 h with rfl | h
  ·
   simp [Zcx]
  ·
   have := Zjm r p h
   simp [Zcx]; omega
theorem ZkV : ∀ l : List Ty, l.length ≤ ZeO l
 | [] => Nat.le_refl _
 | v :: r => by have := ZkV r; have := v.size_pos; simp [ZeO]; omega
theorem Zji : ∀ l : List (Int × ByteArray × Int × Ty × List Vl), l.length ≤ Zcx l
 | [] => Nat.le_refl _
 | (_, _, _, t, _) :: r => by have := Zji r; have := t.size_pos; simp [Zcx]; omega
theorem Ty.elem_size (t x : Ty) (h : x ∈ t.elem) : x.size < t.size := by have := Zk0 _ _ h; have := t.size_eq; omega
theorem Ty.field_size (t : Ty) (p) (h : p ∈ t.fields) : p.2.2.2.1.size < t.size := by have := Zjm _ _ h; have := t.size_eq; omega
theorem Ty.lens (t : Ty) : t.elem.length < t.size ∧ t.fields.length < t.size := by have := ZkV t.elem; have := Zji t.fields; have := t.size_eq; omega
theorem Vl.list_size (v x : Vl) (h : x ∈ v.list) : x.size < v.size := by have := Zim _ _ h; have := v.size_eq; omega
theorem Vl.field_size (v : Vl) (p) (h : p ∈ v.fields) : p.2.size < v.size := by have := ZiE _ _ h; have := v.size_eq; omega
mutual
def Ty.depth : Ty → Nat
 | .mk _ _ _ _ _ e f => 1 + max (ZeW e) (ZdB f)
def ZeW : List Ty → Nat
 | [] => 0
 | t :: r => max t.depth (ZeW r)
def ZdB : List (Int × ByteArray × Int × Ty × List Vl) → Nat
 | [] => 0
 | (_, _, _, t, _) :: r => max t.depth (ZdB r)
end
mutual
def Vl.depth : Vl → Nat
 | .mk _ _ _ _ l f => 1 + max (Zil l) (Zij f)
def Zil : List Vl → Nat
 | [] => 0
 | t :: r => max t.depth (Zil r)
def Zij : List (ByteArray × Vl) → Nat
 | [] => 0
 | (_, t) :: r => max t.depth (Zij r)
end
mutual
def Vl.ok : Vl → Prop
 | .mk _ _ _ t l f => t.size ≤ 2000 ∧ ZvQ l ∧ Zvz f
def ZvQ : List Vl → Prop
 | [] => True
 | v :: r => v.ok ∧ ZvQ r
def Zvz : List (ByteArray × Vl) → Prop
 | [] => True
 | (n, v) :: r => n.size ≤ 100 ∧ v.ok ∧ Zvz r
end
theorem ZoA : ∀ l, ZvQ l ↔ ∀ v ∈ l, v.ok
 | [] => by simp [ZvQ]
 | v :: r => by simp [ZvQ, ZoA r]
theorem Zom : ∀ l, Zvz l ↔ ∀ p ∈ l, p.1.size ≤ 100 ∧ p.2.ok
 | [] => by simp [Zvz]
 | (n, v) :: r => by simp [Zvz, Zom r, and_assoc]
def Vl.small (v : Vl) : Prop := v.size ≤ 300 ∧ v.depth ≤ 12 ∧ v.ok
mutual
def Ty.ok : Ty → Prop
 | .mk _ _ _ _ w e f => w.length ≤ 70 ∧ (∀ x ∈ w, x.size ≤ 2000) ∧ Zw3 e ∧ Zp3 f
def Zw3 : List Ty → Prop
 | [] => True
 | v :: r => v.ok ∧ Zw3 r
def Zp3 : List (Int × ByteArray × Int × Ty × List Vl) → Prop
 | [] => True
 | (_, n, _, t, d) :: r => (n.size ≤ 100 ∧ t.ok ∧ d.length ≤ 3 ∧ ∀ v ∈ d, v.small) ∧ Zp3 r
end
theorem ZoJ : ∀ l, Zw3 l ↔ ∀ v ∈ l, v.ok
 | [] => by simp [Zw3]
 | v :: r => by simp [Zw3, ZoJ r]
theorem Znp : ∀ l, Zp3 l ↔ ∀ p ∈ l, p.2.1.size ≤ 100 ∧ p.2.2.2.1.ok ∧ p.2.2.2.2.length ≤ 3 ∧ ∀ v ∈ p.2.2.2.2, v.small
 | [] => by simp [Zp3]
 | (_, n, _, t, d) :: r => by simp [Zp3, Znp r]
theorem Ty.ok_eq (t : Ty) : t.ok ↔ t.words.length ≤ 70 ∧ (∀ x ∈ t.words, x.size ≤ 2000) ∧ (∀ v ∈ t.elem, v.ok) ∧ ∀ p ∈ t.fields, p.2.1.size ≤ 100 ∧ p.2.2.2.1.ok ∧ p.2.2.2.2.length ≤ 3 ∧ ∀ v ∈ p.2.2.2.2, v.small := by
 cases t; simp only [Ty.ok, Ty.words, Ty.elem, Ty.fields, ZoJ, Znp]
theorem Vl.ok_eq (v : Vl) : v.ok ↔ v.text.size ≤ 2000 ∧ (∀ x ∈ v.list, x.ok) ∧ ∀ p ∈ v.fields, p.1.size ≤ 100 ∧ p.2.ok := by
 cases v; simp only [Vl.ok, Vl.text, Vl.list, Vl.fields, ZoA, Zom]
theorem Zfr : ∀ (l : List Ty) (d : Nat), ZeW l ≤ d ↔ ∀ v ∈ l, v.depth ≤ d
 | [], d => by simp [ZeW]
 | v :: r, d => by simp [ZeW, Nat.max_le, Zfr r d]
theorem ZeN : ∀ (l : List (Int × ByteArray × Int × Ty × List Vl)) (d : Nat), ZdB l ≤ d ↔ ∀ v ∈ l, v.2.2.2.1.depth ≤ d
 | [], d => by simp [ZdB]
 | (_, _, _, t, _) :: r, d => by simp [ZdB, Nat.max_le, ZeN r d]
theorem ZkC : ∀ (l : List Vl) (d : Nat), Zil l ≤ d ↔ ∀ v ∈ l, v.depth ≤ d
 | [], d => by simp [Zil]
 | v :: r, d => by simp [Zil, Nat.max_le, ZkC r d]
theorem ZkQ : ∀ (l : List (ByteArray × Vl)) (d : Nat), Zij l ≤ d ↔ ∀ v ∈ l, v.2.depth ≤ d
 | [], d => by simp [Zij]
 | (_, t) :: r, d => by simp [Zij, Nat.max_le, ZkQ r d]
theorem Ty.depth_eq (t : Ty) : t.depth = 1 + Max.max (ZeW t.elem) (ZdB t.fields) := by cases t; simp [Ty.depth, Ty.elem, Ty.fields]
theorem Vl.depth_eq (v : Vl) : v.depth = 1 + Max.max (Zil v.list) (Zij v.fields) := by cases v; simp [Vl.depth, Vl.list, Vl.fields]
theorem Vl.eta (v : Vl) : Vl.mk v.kind v.int v.scale v.text v.list v.fields = v := by cases v; rfl
theorem Ty.eta (v : Ty) : Ty.mk v.kind v.min v.max v.scale v.words v.elem v.fields = v := by cases v; rfl
theorem Zkt (rec : Vl → Option Vl) (n : Nat) (v : Vl) (hs : v.fields.length ≤ 1000000000) (hr : ∀ p ∈ v.fields, rec p.2 = some p.2) (b : List Vl) : ∀ (k m i : Nat), i + k = v.fields.length → k < m → Zdf rec n v m i b (v.fields.take i) = some (Vl.mk v.kind v.int v.scale v.text b v.fields)
 | k, 0, i, _, h => absurd h (Nat.not_lt_zero _)
 | 0, m + 1, i, hi, _ => by
  rw [Zdf, Zao, decide_eq_false (by omega)]
  simp only [Bool.false_eq_true, if_false, ZfJ]
  rw [List.take_of_length_le (by omega)]
 | k + 1, m + 1, i, hi, hm => by
  have hlt : i < v.fields.length := by omega
  rw [Zdf, Zao, decide_eq_true hlt]
  simp only [if_true, Zap hlt, Option.bind_some, hr _ (List.getElem_mem hlt)]
  rw [if_pos (by rw [List.length_take]; omega), if_pos (Zaq (by omega))]
  have e : v.fields.take i ++ [(v.fields[i].1, v.fields[i].2)] = v.fields.take (i + 1) := by rw [List.take_succ_eq_append_getElem hlt]
  rw [e]
  exact Zkt rec n v hs hr b k m (i + 1) (by omega) (by omega)
theorem ZmD (rec : Vl → Option Vl) (n : Nat) (v : Vl) (hs : v.fields.length ≤ 1000000000 ∧ v.list.length ≤ 1000000000) (hn : v.fields.length < n) (hr : (∀ x ∈ v.list, rec x = some x) ∧ ∀ p ∈ v.fields, rec p.2 = some p.2) : ∀ (k m i : Nat), i + k = v.list.length → k < m → ZdK rec n v m i (v.list.take i) = some v
 | k, 0, i, _, h => absurd h (Nat.not_lt_zero _)
 | 0, m + 1, i, hi, _ => by
  rw [ZdK, Zao, decide_eq_false (by omega)]
  simp only [Bool.false_eq_true, if_false, Zg5]
  rw [List.take_of_length_le (by omega)]
  have := Zkt rec n v hs.1 hr.2 v.list v.fields.length n 0 (by omega) hn
  rw [List.take_zero] at this
  exact this.trans (by rw [Vl.eta])
 | k + 1, m + 1, i, hi, hm => by
  have hlt : i < v.list.length := by omega
  rw [ZdK, Zao, decide_eq_true hlt]
  simp only [if_true, Zap hlt, Option.bind_some, hr.1 _ (List.getElem_mem hlt)]
  rw [if_pos (by rw [List.length_take]; omega), if_pos (Zaq (by omega))]
  have e : v.list.take i ++ [v.list[i]] = v.list.take (i + 1) := by rw [List.take_succ_eq_append_getElem hlt]
  rw [e]
  exact ZmD rec n v hs hn hr k m (i + 1) (by omega) (by omega)
theorem Zgu : ∀ (n : Nat) (v : Vl), v.size < n → v.size ≤ 1000000000 → ZbN n v = some v
 | 0, v, h, _ => absurd h (Nat.not_lt_zero _)
 | n + 1, v, h, hs => by
  have hl := Zgx v
  rw [ZbN, ZhG]
  have := ZmD (ZbN n) n v ⟨by omega, by omega⟩ (by omega) ⟨fun x hx => Zgu n x (by have := v.list_size x hx; omega) (by have := v.list_size x hx; omega), fun p hp => Zgu n p.2 (by have := v.field_size p hp; omega) (by have := v.field_size p hp; omega)⟩ v.list.length n 0 (by omega) (by omega)
  rw [List.take_zero] at this
  exact this
abbrev TF := Int × ByteArray × Int × Ty × List Vl
theorem Zq5 (rec : Ty → Option Ty) (n : Nat) (p : TF) (y : Ty) (hs : p.2.2.2.2.length ≤ 1000000000) (hr : ∀ v ∈ p.2.2.2.2, ZbN n v = some v) : ∀ (k m i : Nat), i + k = p.2.2.2.2.length → k < m → Zbq rec n p y m (p.2.2.2.2.take i) i = some (p.1, p.2.1, p.2.2.1, y, p.2.2.2.2)
 | k, 0, i, _, h => absurd h (Nat.not_lt_zero _)
 | 0, m + 1, i, hi, _ => by
  rw [Zbq, Zao, decide_eq_false (by omega)]
  simp only [Bool.false_eq_true, if_false, Zdy]
  rw [List.take_of_length_le (by omega)]
 | k + 1, m + 1, i, hi, hm => by
  have hlt : i < p.2.2.2.2.length := by omega
  rw [Zbq, Zao, decide_eq_true hlt]
  simp only [if_true, Zap hlt, Option.bind_some, hr _ (List.getElem_mem hlt)]
  rw [if_pos (by rw [List.length_take]; omega), if_pos (Zaq (by omega))]
  have e : p.2.2.2.2.take i ++ [p.2.2.2.2[i]] = p.2.2.2.2.take (i + 1) := by rw [List.take_succ_eq_append_getElem hlt]
  rw [e]
  exact Zq5 rec n p y hs hr k m (i + 1) (by omega) (by omega)
theorem Zup (rec : Ty → Option Ty) (n : Nat) (p : TF) (hs : p.2.2.2.2.length ≤ 1000000000) (hn : p.2.2.2.2.length < n) (hr : ∀ v ∈ p.2.2.2.2, ZbN n v = some v) (ht : rec p.2.2.2.1 = some p.2.2.2.1) : Zbx rec n p = some p := by
 rw [Zbx, ht]
 simp only [Option.bind_some]
 rw [if_pos (by omega)]
 have := Zq5 rec n p p.2.2.2.1 hs hr p.2.2.2.2.length n 0 (by omega) hn
 rw [List.take_zero] at this
 exact this
theorem Zks (rec : Ty → Option Ty) (n : Nat) (t : Ty) (hw : t.words.length ≤ 1000000000) (hs : t.fields.length ≤ 1000000000) (hr : ∀ p ∈ t.fields, Zbx rec n p = some p) (e : List Ty) : ∀ (k m i : Nat), i + k = t.fields.length → k < m → Zdk rec n t m e (t.fields.take i) i = some (Ty.mk t.kind t.min t.max t.scale t.words e t.fields)
 | k, 0, i, _, h => absurd h (Nat.not_lt_zero _)
 | 0, m + 1, i, hi, _ => by
  rw [Zdk, Zao, decide_eq_false (by omega)]
  simp only [Bool.false_eq_true, if_false, Zf6]
  rw [List.take_of_length_le (by omega), if_pos (by omega)]
 | k + 1, m + 1, i, hi, hm => by
  have hlt : i < t.fields.length := by omega
  rw [Zdk, Zao, decide_eq_true hlt]
  simp only [if_true, Zap hlt, Option.bind_some, hr _ (List.getElem_mem hlt)]
  rw [if_pos (by rw [List.length_take]; omega), if_pos (Zaq (by omega))]
  have e' : t.fields.take i ++ [t.fields[i]] = t.fields.take (i + 1) := by rw [List.take_succ_eq_append_getElem hlt]
  rw [e']
  exact Zks rec n t hw hs hr e k m (i + 1) (by omega) (by omega)
theorem ZmQ (rec : Ty → Option Ty) (n : Nat) (t : Ty) (hw : t.words.length ≤ 1000000000) (hs : t.fields.length ≤ 1000000000 ∧ t.elem.length ≤ 1000000000) (hn : t.fields.length < n) (hr : (∀ x ∈ t.elem, rec x = some x) ∧ ∀ p ∈ t.fields, Zbx rec n p = some p) : ∀ (k m i : Nat), i + k = t.elem.length → k < m → ZdW rec n t m (t.elem.take i) i = some t
 | k, 0, i, _, h => absurd h (Nat.not_lt_zero _)
 | 0, m + 1, i, hi, _ => by
  rw [ZdW, Zao, decide_eq_false (by omega)]
  simp only [Bool.false_eq_true, if_false, ZgN]
  rw [List.take_of_length_le (by omega), if_pos (by omega)]
  have := Zks rec n t hw hs.1 hr.2 t.elem t.fields.length n 0 (by omega) hn
  rw [List.take_zero] at this
  exact this.trans (by rw [Ty.eta])
 | k + 1, m + 1, i, hi, hm => by
  have hlt : i < t.elem.length := by omega
  rw [ZdW, Zao, decide_eq_true hlt]
  simp only [if_true, Zap hlt, Option.bind_some, hr.1 _ (List.getElem_mem hlt)]
  rw [if_pos (by rw [List.length_take]; omega), if_pos (Zaq (by omega))]
  have e : t.elem.take i ++ [t.elem[i]] = t.elem.take (i + 1) := by rw [List.take_succ_eq_append_getElem hlt]
  rw [e]
  exact ZmQ rec n t hw hs hn hr k m (i + 1) (by omega) (by omega)
theorem ZhU : ∀ (n : Nat) (t : Ty), t.size + 400 < n → t.size ≤ 1000000000 → t.ok → Zc2 n t = some t
 | 0, t, h, _, _ => absurd h (Nat.not_lt_zero _)
 | n + 1, t, h, hs, hok => by
  have hl := t.lens
  obtain ⟨o1, o2, o3, o4⟩ := t.ok_eq.1 hok
  rw [Zc2, ZhR, if_pos (by omega)]
  have := ZmQ (Zc2 n) n t (by omega) ⟨by omega, by omega⟩ (by omega) ⟨fun x hx => ZhU n x (by have := t.elem_size x hx; omega) (by have := t.elem_size x hx; omega) (o3 x hx), fun p hp => by
   obtain ⟨_, q2, q3, q4⟩ := o4 p hp
   have := t.field_size p hp
   exact Zup _ n p (by omega) (by omega) (fun v hv => Zgu n v (by have := (q4 v hv).1; omega) (by have := (q4 v hv).1; omega)) (ZhU n _ (by omega) (by omega) q2)⟩ t.elem.length n 0 (by omega) (by omega)
  rw [List.take_zero] at this
  exact this
def Zf0 (n : Nat)  (x3_k19 : List Ty) : Option ((List Ty)) :=
 some (x3_k19)
def Zib (n : Nat)  : Option ((List Ty)) :=
 some ([])
def Zdg (n : Nat) (a0 : Ty) : Nat → (List Ty) → Int → Option ((List Ty))
 | 0, _, _ => none
 | m + 1, x3_l22, x22_l22 =>
  if decide (x22_l22 < ((a0.fields.length : Int))) then
   (idx a0.fields x22_l22).bind fun x28 =>
   if (x3_l22.length + 1) * 104 ≤ 140737488355328 ∧ x3_l22.length + 1 ≤ 4611686018427387904 then
    if I64 (x22_l22 + 1) then
     (Zdg n a0 m) (x3_l22 ++ ([x28.2.2.2.1])) (x22_l22 + 1)
    else none
   else none
  else
   Zf0 n x3_l22
def ZdV (n : Nat) (a0 : Ty) (x12_k10 : Bool) : Option ((List Ty)) :=
 if x12_k10 then
  if 0 ≤ (a0.fields.length : Int) ∧ ((a0.fields.length : Int)) * 104 ≤ 140737488355328 ∧ (a0.fields.length : Int) ≤ 4611686018427387904 then
   Zdg n a0 n ([]) 0
  else none
 else
  Zib n 
def ZeU (n : Nat) (a0 : Ty) : Option ((List Ty)) :=
 if decide (a0.kind = 8) then
  some (a0.elem)
 else
  if decide (a0.kind = 9) then
   ZdV n a0 true
  else
   ZdV n a0 (decide (a0.kind = 10))
theorem Zif (w0 : World) (n : Nat) (B : List (List AV)) (Rw : List RowA) (L : List LoopA) (a0 : Ty) (r : (List Ty)) (h : ZeU n a0 = some r) :
  ACalls Tryz.prog w0 51 [.agg (a0.cs)] ⟨B, Rw, L⟩ fun x st => x = .list (r.map avT) .none ∧ st = ⟨B, Rw, L⟩ := by
 rw [ZeU] at h
 refine hd [.tmp 2] Tryz.func51 Tryz.ntmps51 fun M0 W0 hN hNR hNL hcalm hu hO hs => ?_
 simp only [Zav]
 refine rg [1] hs ?_
 refine Zai (fun e st => Ck e st B Rw L [] [a0.cs] [] (Zib n  = some r)) ?_ ?_
 ·
  intro K4 hK4
  refine rg [1, 7] hs ?_
  apply Zad
  refine rg [1, 7, 8] hs ?_
  refine cnd h hs (fun hs h => ?_) (fun hs h => ?_)
  ·
   refine rg [2] hs ?_
   exact rt h hs hcalm hO
  refine Zai (fun e st => ∃ (x12_k10 : Bool), Ck e st B Rw L [(1, true, .box B.length 0), (12, true, .val (.bool x12_k10))] [a0.cs] [] (ZdV n a0 x12_k10 = some r)) ?_ ?_
  ·
   intro K11 hK11
   refine rg [1, 7, 12] hs ?_
   refine cnd h hs (fun hs h => ?_) (fun hs h => ?_)
   ·
    refine sk [1, 12] hs hK11 ?_
    exact ⟨true, ([]), Rw, ef hs, ef hs, hO, h⟩
   refine rl [1, 12] hs hK11 ?_
   exact ⟨(decide (a0.kind = 10)), ([]), Rw, ef hs, ef hs, hO, h⟩
  ·
   clear h; rintro e st ⟨x12_k10, Xk10, Rk10, rfl, rfl, hO, h⟩
   rw [ZdV] at h
   refine td hN hNR hNL hcalm hO ?_
   refine cnd h hs (fun hs h => ?_) (fun hs h => ?_)
   ·
    obtain ⟨hg16, h⟩ := Zac h
    have hO := hO.make 7 0
    refine rg [1, 3] hs ?_
    refine Zai (fun e st => ∃ (x3_k19 : List Ty) (ox3_k19 : Ev.Own), Ck e st B Rw L [(3, true, .list (x3_k19.map avT) ox3_k19)] [a0.cs] [(7, x3_k19.length, ox3_k19)] (Zf0 n x3_k19 = some r)) ?_ ?_
    ·
     intro K20 hK20
     refine rg [3, 20, 21, 22] hs ?_
     apply Zad
     refine Zal (fun m e st => ∃ (x3_l22 : List Ty) (x22_l22 : Int) (ox3_l22 : Ev.Own), Ck e st B Rw L [(3, true, .list (x3_l22.map avT) ox3_l22), (20, true, .list (a0.fields.map Zer) .none), (21, true, .val (.int .i64 ((a0.fields.length : Int)))), (22, true, .val (.int .i64 x22_l22))] [a0.cs] [(7, x3_l22.length, ox3_l22)] (Zdg n a0 m x3_l22 x22_l22 = some r)) n ⟨([]), 0, ((.row Rk10.length)), ([]), ((Rk10 ++ [.grow 0 7])), ef hs, ef hs, Owns.of_eq (hO) (by first | rfl | simp only [List.length_append, List.length_cons, List.length_nil, List.length_map, Nat.zero_add, Nat.add_zero]), h⟩ ?_
     rintro ml22 e st ⟨x3_l22, x22_l22, ox3_l22, Xl22, Rl22, rfl, rfl, hO, h⟩ Ul22 Vl22
     cases ml22 with
     | zero => cases h
     | succ ml22 =>
     rw [Zdg] at h
     have hU := hO.unders
     simp only [List.mem_cons, List.not_mem_nil, or_false, forall_eq_or_imp, forall_eq] at hU
     refine td hN hNR hNL hcalm hO ?_
     refine rg [3, 20, 21, 22, 23] hs ?_
     apply Zab; intro K24 hK24
     refine cnd h hs (fun hs h => ?_) (fun hs h => ?_)
     rotate_left
     ·
      refine sx [3] hs hK20 ?_
      exact ⟨x3_l22, ox3_l22, ([]), Rl22, ef hs, ef hs, Owns.of_eq (hO) (by first | rfl | simp only [List.length_append, List.length_cons, List.length_nil, List.length_map, Nat.zero_add, Nat.add_zero]), h⟩
     refine sk [3, 20, 21, 22] hs hK24 ?_
     clear hK24
     apply Zab; intro K26 hK26
     apply Zad
     obtain ⟨x28, hx28, h⟩ := bind_some h
     obtain ⟨hx28a, hx28b, hx28c⟩ := Zar hx28
     have hx28d := Zay (f := Zer) hx28c
     have hs := And.intro hx28d hs
     refine rg [3, 5, 20, 21, 22] hs ?_
     obtain ⟨hg29, h⟩ := Zac h
     obtain ⟨o30, rows31, hO, hap32⟩ := hO.append (P := Tryz.prog) Zob (by rw [Zi7]; rfl) (by decide) 1 hg29.1 hg29.2
     replace hap32 := fun (ys : List AV) B L o2 => hap32 (x3_l22.map avT) ys B L o2 (by first | rfl | simp only [List.length_map, List.length_nil, List.length_append, List.length_cons, Nat.zero_add])
     replace hap32 := fun (y : AV) B L o2 => hap32 [y] B L o2 (by first | rfl | simp only [List.length_map, List.length_nil, List.length_cons]) ev
     try simp only [List.mem_singleton, List.mem_cons, List.not_mem_nil, or_false, forall_eq_or_imp, forall_eq, List.map_append, List.map_cons, List.map_nil, Zcn, ZcQ, Zcy, Zcs, Zcw, Zcm, ZbF, ZbK, ZcC, Za8, Za9, ZbE, ZbC, ZbH] at hap32
     have hs := And.intro hap32 hs
     refine rl [3, 20, 21, 22] hs hK26 ?_
     clear hK26
     obtain ⟨hg33, h⟩ := Zac h
     refine rl [3, 20, 21, 22] hs (fun e s => Vl22 ml22 e s (Nat.lt_succ_self _)) ?_
     exact ⟨(x3_l22 ++ ([x28.2.2.2.1])), (x22_l22 + 1), o30, ([.val (.int .i64 x28.1) :: (.val (.string x28.2.1) :: (.val (.int .i64 x28.2.2.1) :: ((x28.2.2.2.1.cs) ++ ([.list (x28.2.2.2.2.map avV) .none]))))]), rows31, ef hs, ef hs, Owns.of_eq (hO) (by first | rfl | simp only [List.length_append, List.length_cons, List.length_nil, List.length_map, Nat.zero_add, Nat.add_zero]), h⟩
    ·
     clear h; rintro e st ⟨x3_k19, ox3_k19, Xk19, Rk19, rfl, rfl, hO, h⟩
     rw [Zf0] at h
     have hU := hO.unders
     simp only [List.mem_cons, List.not_mem_nil, or_false, forall_eq_or_imp, forall_eq] at hU
     refine td hN hNR hNL hcalm hO ?_
     refine rg [2] hs ?_
     exact rt h hs hcalm hO
   refine sk [] hs hK4 ?_
   exact ⟨([]), Rk10, ef hs, ef hs, hO, h⟩
 ·
  clear h; rintro e st ⟨Xk3, Rk3, rfl, rfl, hO, h⟩
  rw [Zib] at h
  refine td hN hNR hNL hcalm hO ?_
  refine rg [2] hs ?_
  exact rt h hs hcalm hO
def ZeR (t : Ty) : List Ty := if t.kind = 8 then t.elem else if t.kind = 9 ∨ t.kind = 10 then t.fields.map fun p => p.2.2.2.1 else []
theorem Zt5 (n : Nat) (t : Ty) (hs : t.fields.length ≤ 1000000000) : ∀ (k m i : Nat) (x : List Ty), i + k = t.fields.length → k < m → x.length = i → Zdg n t m x i = some (x ++ (t.fields.drop i).map fun p => p.2.2.2.1)
 | k, 0, i, _, _, h, _ => absurd h (Nat.not_lt_zero _)
 | 0, m + 1, i, x, hi, _, _ => by
  rw [Zdg, Zao, decide_eq_false (by omega)]
  simp only [Bool.false_eq_true, if_false, Zf0]
  rw [List.drop_eq_nil_of_le (by omega), List.map_nil, List.append_nil]
 | k + 1, m + 1, i, x, hi, hm, hx => by
  have hlt : i < t.fields.length := by omega
  rw [Zdg, Zao, decide_eq_true hlt]
  simp only [if_true, Zap hlt, Option.bind_some]
  rw [if_pos (by omega), if_pos (Zaq (by omega))]
  have ih := Zt5 n t hs k m (i + 1) (x ++ [t.fields[i].2.2.2.1]) (by omega) (by omega) (by simp [hx])
  rw [List.drop_eq_getElem_cons hlt, List.map_cons]
  rw [List.append_assoc] at ih
  exact ih
theorem Zmy (n : Nat) (t : Ty) (hn : t.fields.length < n) (hs : t.fields.length ≤ 1000000000) : ZeU n t = some (ZeR t) := by
 have h9 : ZdV n t true = some (t.fields.map fun p => p.2.2.2.1) := by
  rw [ZdV, if_pos rfl, if_pos (by omega)]
  have := Zt5 n t hs t.fields.length n 0 [] (by omega) hn rfl
  rw [List.drop_zero, List.nil_append] at this
  exact this
 rw [ZeU, ZeR]
 by_cases h1 : t.kind = 8
 ·
  rw [if_pos (decide_eq_true h1), if_pos h1]
 rw [if_neg (by rw [decide_eq_true_eq]; exact h1), if_neg h1]
 by_cases h2 : t.kind = 9
 ·
  rw [if_pos (decide_eq_true h2), h9, if_pos (.inl h2)]
 rw [if_neg (by rw [decide_eq_true_eq]; exact h2)]
 by_cases h3 : t.kind = 10
 ·
  rw [decide_eq_true h3, h9, if_pos (.inr h3)]
 ·
  rw [decide_eq_false h3, if_neg (by omega)]; rfl
theorem Zxo {a b : ByteArray} (h : a.data.toList = b.data.toList) : a = b := by
 cases a; cases b; simp at h; rw [h]
theorem ZjE (x y : ByteArray) : sEq x y = true ↔ x = y := by
 unfold sEq
 rw [beq_iff_eq]
 exact ⟨Zxo, fun h => by rw [h]⟩
theorem Zon (x : ByteArray) : sEq x x = true := (ZjE x x).2 rfl
theorem Zkv {n : Nat} (h : n ≤ 2000) : n ≤ maxLen := by unfold maxLen; omega
theorem Vl.ext' {a b : Vl} (h1 : a.kind = b.kind) (h2 : a.int = b.int) (h3 : a.scale = b.scale) (h4 : a.text = b.text) (h5 : a.list = b.list) (h6 : a.fields = b.fields) : a = b := by
 rw [← a.eta, ← b.eta, h1, h2, h3, h4, h5, h6]
theorem TF.ext' {p q : TF} (h1 : p.1 = q.1) (h2 : p.2.1 = q.2.1) (h3 : p.2.2.1 = q.2.2.1) (h4 : p.2.2.2.1 = q.2.2.2.1) (h5 : p.2.2.2.2 = q.2.2.2.2) : p = q := by
 obtain ⟨a, b, c, d, e⟩ := p
 obtain ⟨a', b', c', d', e'⟩ := q
 simp only at h1 h2 h3 h4 h5
 rw [h1, h2, h3, h4, h5]
theorem Ty.ext' {a b : Ty} (h1 : a.kind = b.kind) (h2 : a.min = b.min) (h3 : a.max = b.max) (h4 : a.scale = b.scale) (h5 : a.words = b.words) (h6 : a.elem = b.elem) (h7 : a.fields = b.fields) : a = b := by
 rw [← a.eta, ← b.eta, h1, h2, h3, h4, h5, h6, h7]
end Go.Proofs.YtgpmlelfkjfbiaaGreatDoor
namespace Go.Ev
open Go
structure VStk (Rw rows : List RowA) (sz : Nat) (xs : List AV) (id ver : Nat) : Prop where
 pre : Rw <+: rows
 calm : ∀ r ∈ rows.drop Rw.length, ∀ y ∈ r.cells, ∀ a b c, Under a b c y
 own : Rw.length ≤ id
 len : ∀ y ∈ xs, y.cells.length = sz
 at_ : ∃ rest, rows[id]? = some (.vec ver sz (xs.flatMap AV.cells ++ rest))
theorem VStk.under {Rw rows : List RowA} {sz : Nat} {xs : List AV} {id ver : Nat} (h : VStk Rw rows sz xs id ver) : id < rows.length := by
 obtain ⟨rest, h⟩ := h.at_
 exact (List.getElem?_eq_some_iff.1 h).1
theorem VStk.read {Rw rows : List RowA} {sz : Nat} {xs : List AV} {id ver : Nat} (h : VStk Rw rows sz xs id ver) :
  ∃ cs, ZfF rows id ver = some (sz, cs) ∧ ∀ i y, xs[i]? = some y → (cs.drop (i * sz)).take sz = y.cells ∧ i * sz + sz ≤ cs.length := by
 obtain ⟨rest, h1⟩ := h.at_
 refine ⟨xs.flatMap AV.cells ++ rest, by simp only [ZfF, h1, if_true], fun i y hy => ?_⟩
 obtain ⟨hi, rfl⟩ := List.getElem?_eq_some_iff.1 hy
 have q := h.len _ (List.getElem_mem hi)
 have hl : (xs.flatMap AV.cells).length = xs.length * sz := Zhp h.len
 have hm : i * sz + sz ≤ xs.length * sz := by rw [← Nat.succ_mul]; exact Nat.mul_le_mul_right _ hi
 refine ⟨List.ext_getElem? fun j => ?_, by rw [List.length_append]; omega⟩
 by_cases hj : j < sz
 ·
  rw [List.getElem?_take_of_lt hj, List.getElem?_drop, List.getElem?_append_left (by omega), ZjA h.len i hi j hj]
 ·
  rw [List.getElem?_eq_none (by simp; omega), List.getElem?_eq_none (by omega)]
theorem VStk.start (Rw : List RowA) {sz : Nat} {y : AV} {cs : List AV} (hc : cs = y.cells) (hy : y.cells.length = sz) (hu : ∀ c ∈ y.cells, ∀ a b d, Under a b d c) : VStk Rw (Rw ++ [.vec 0 sz cs]) sz [y] Rw.length 0 := by
 subst hc
 refine ⟨List.prefix_append _ _, fun r hr x hx a b c => ?_, Nat.le_refl _, fun x hx => by rw [List.mem_singleton.1 hx]; exact hy, ⟨[], by simp⟩⟩
 rw [List.drop_left] at hr
 rw [List.mem_singleton.1 hr] at hx
 exact hu x hx a b c
theorem VStk.take {Rw rows : List RowA} {sz : Nat} {xs : List AV} {id ver : Nat} (h : VStk Rw rows sz xs id ver) (k : Nat) : VStk Rw rows sz (xs.take k) id ver := by
 obtain ⟨rest, h1⟩ := h.at_
 refine ⟨h.pre, h.calm, h.own, fun y hy => h.len y (List.mem_of_mem_take hy), ⟨(xs.drop k).flatMap AV.cells ++ rest, ?_⟩⟩
 rw [h1, ← List.append_assoc, ← List.flatMap_append, List.take_append_drop]
theorem VStk.of_eq {Rw rows : List RowA} {sz : Nat} {xs ys : List AV} {id ver : Nat} (h : VStk Rw rows sz xs id ver) (he : xs = ys) : VStk Rw rows sz ys id ver := he ▸ h
theorem VStk.append {P : Program} {t el : TypeId} {sz by8 : Nat} {ag : Bool} {Rw rows : List RowA} {xs : List AV} {y : AV} {id ver : Nat} (h : VStk Rw rows sz xs id ver) (he : elT P t = some (el, sz, ag, by8)) (hz : (Zcj P el).isSome = true) (hs : 0 < sz)
  (hb : (xs.length + 1) * by8 ≤ 140737488355328) (hb2 : xs.length + 1 ≤ 4611686018427387904) (hy : y.cells.length = sz ∧ ZaN y = true) (hp : y.pub = y) (hu : ∀ c ∈ y.cells, ∀ a b d, Under a b d c) :
  ∃ rows', VStk Rw rows' sz (xs ++ [y]) id (ver + 1) ∧ ∀ (B : List (List AV)) (L : List LoopA) (o2 : Own), Zbo P ⟨B, rows, L⟩ t (.vec id ver 0 xs.length) (.list [y] o2) = (True, .vec id (ver + 1) 0 (xs.length + 1), ⟨B, rows', L⟩) := by
 have hl := h.pre.length_le
 have h2 := h.own
 obtain ⟨rest, h3⟩ := h.at_
 have hlt := (List.getElem?_eq_some_iff.1 h3).1
 have hcl : (xs.flatMap AV.cells).length = xs.length * sz := Zhp h.len
 have ob : ZbM P el sz by8 xs.length [y] = True := by
  simp only [ZbM, hs, hz, List.length_singleton, hb, hb2, true_and, List.mem_singleton, forall_eq, hy, and_self]
 refine ⟨rows.set id (.vec (ver + 1) sz (xs.flatMap AV.cells ++ y.cells)), ⟨Zfe h.pre h2 _, fun r hr z hz' a b c => ?_, h2, fun z hz => ?_, ⟨[], by simp [hlt, List.flatMap_append]⟩⟩, fun B L o2 => ?_⟩
 ·
  rw [List.drop_set, if_neg (by omega)] at hr
  rcases List.mem_or_eq_of_mem_set hr with hr | rfl
  ·
   exact h.calm r hr z hz' a b c
  ·
   rcases List.mem_append.1 hz' with q | q
   ·
    exact h.calm (.vec ver sz (xs.flatMap AV.cells ++ rest)) (by
     rw [List.mem_iff_getElem?]
     exact ⟨id - Rw.length, by rw [List.getElem?_drop, Nat.add_sub_cancel' h2]; exact h3⟩) z (List.mem_append_left _ q) a b c
   ·
    exact hu z q a b c
 ·
  rcases List.mem_append.1 hz with q | q
  ·
   exact h.len z q
  ·
   rw [List.mem_singleton.1 q]; exact hy.1
 ·
  simp only [Zbo, he, ZaI, Zbw, List.length_singleton, List.flatMap_cons, List.flatMap_nil, List.append_nil, hp, ZfF, h3, if_true]
  rw [ob]
  have e1 : (xs.flatMap AV.cells ++ rest).take (xs.length * sz) = xs.flatMap AV.cells := by rw [← hcl, List.take_left]
  have e2 : xs.length * sz ≤ (xs.flatMap AV.cells ++ rest).length := by rw [List.length_append]; omega
  simp only [true_and, e1, eq_true e2, and_self]
section
variable {P : Program} {w0 : World} {n : Nat} {e : Env} {st : St} {M0 : Mem} {W0 : World} {ro : Option Nat} {Q : AQ} {c : Code}
theorem tdS {B0 B bs X : List (List AV)} {Rw rows : List RowA} {L : List LoopA} {sz : Nat} {xs : List AV} {id ver : Nat} (hN : M0.N = B0.length) (hNR : M0.NR = Rw.length) (hNL : M0.NL = L.length) (hc : Calm B0.length Rw.length L.length ⟨B, Rw, L⟩) (ho : VStk Rw rows sz xs id ver)
  (h : awp P w0 n M0 W0 ro c Q e ⟨B ++ bs, rows, L⟩) (hB : B.length = B0.length := by first | rfl | simp only [List.length_set])
  (hbs : ∀ cs ∈ bs, ∀ x ∈ cs, Under (B0.length + bs.length) rows.length L.length x := by (simp +decide only [go_sem, Nat.reduceAdd]) <;> (try (repeat' apply And.intro)) <;> first | omega | assumption)
  (he : Zb2 (B0.length + bs.length) rows.length L.length e := by (simp +decide only [go_sem, Nat.reduceAdd, Zb2]) <;> (try (repeat' apply And.intro)) <;> first | omega | assumption) : awp P w0 n M0 W0 ro c Q e ⟨B ++ (bs ++ X), rows, L⟩ := by
 rw [← hB] at hN hc hbs he
 clear hB B0
 have hl := ho.pre.length_le
 have e1 : St.cut ⟨B ++ (bs ++ X), rows, L⟩ (B.length + bs.length) rows.length L.length = ⟨B ++ bs, rows, L⟩ := by
  simp only [St.cut, List.take_length, ← List.append_assoc]
  rw [List.take_left' (by simp)]
 refine ZjI (B.length + bs.length) rows.length L.length (by simp) (Nat.le_refl _) (Nat.le_refl _) (by omega) (by omega) (by omega) ?_ he (by rw [e1]; exact h)
 rw [e1]
 refine ⟨fun r hr x hx => ?_, fun cs hcs x hx => ?_, fun la hla k x hx ht => ?_⟩
 ·
  obtain ⟨t, rfl⟩ := ho.pre
  rcases List.mem_append.1 hr with hr | hr
  ·
   exact Zbh (by omega) (by omega) (Nat.le_refl _) (hc.rows r hr x hx)
  ·
   exact ho.calm r (by simpa using hr) x hx _ _ _
 ·
  rcases List.mem_append.1 hcs with hcs | hcs
  ·
   exact Zbh (by omega) (by omega) (Nat.le_refl _) (hc.boxes cs hcs x hx)
  ·
   exact hbs cs hcs x hx
 ·
  exact Zbh (by omega) (by omega) (Nat.le_refl _) (hc.loops la hla k x hx ht)
end
end Go.Ev
namespace Go.Proofs.YtgpmlelfkjfbiaaGreatDoor
open Go Go.RowKit Go.Ev
def Ze8 (n : Nat)  : Option Int :=
 some (0)
def ZbP (n : Nat) (a0 : List (ByteArray × Vl)) : Nat → Int → Option Int
 | 0, _ => none
 | m + 1, x3_l10 =>
  if decide (x3_l10 < ((a0.length : Int))) then
   (idx a0 x3_l10).bind fun x16 =>
   if x16.1.size ≤ maxLen then
    if !(Zc3 x16.1) then
     some (12)
    else
     if decide (0 < x3_l10) then
      if I64 (x3_l10 - 1) then
       (idx a0 (x3_l10 - 1)).bind fun x23 =>
       if sEq x16.1 x23.1 then
        some (7)
       else
        if I64 (x3_l10 - 1) then
         if sLt x16.1 x23.1 then
          some (24)
         else
          if I64 (x3_l10 + 1) then
           (ZbP n a0 m) (x3_l10 + 1)
          else none
        else none
      else none
     else
      if I64 (x3_l10 + 1) then
       (ZbP n a0 m) (x3_l10 + 1)
      else none
   else none
  else
   Ze8 n 
def Ze0 (n : Nat) (a0 : List (ByteArray × Vl)) : Option Int :=
 if decide (64 < ((a0.length : Int))) then
  some (9)
 else
  ZbP n a0 n 0
theorem Zl5 (w0 : World) (n : Nat) (B : List (List AV)) (Rw : List RowA) (L : List LoopA) (a0 : List (ByteArray × Vl)) (r : Int) (h : Ze0 n a0 = some r) :
  ACalls Tryz.prog w0 241 [.list (a0.map avF) .none] ⟨B, Rw, L⟩ fun x st => x = .val (.int .i64 r) ∧ st = ⟨B, Rw, L⟩ := by
 rw [Ze0] at h
 refine hd [.tmp 2] Tryz.func241 Tryz.ntmps241 fun M0 W0 hN hNR hNL hcalm hu hO hs => ?_
 simp only [Zav]
 refine rg [0] hs ?_
 apply Zab; intro K2 hK2
 refine rg [0, 6] hs ?_
 refine cnd h hs (fun hs h => ?_) (fun hs h => ?_)
 ·
  have hb4 := hs.1
  refine rg [2] hs ?_
  exact rt h hs hcalm hO
 have hb4 := hs.1
 refine sk [0] hs hK2 ?_
 clear hK2
 refine Zai (fun e st => Ck e st B Rw L [] [] [] (Ze8 n  = some r)) ?_ ?_
 ·
  intro K8 hK8
  refine rg [0, 3] hs ?_
  apply Zad
  refine Zal (fun m e st => ∃ (x3_l10 : Int), Ck e st B Rw L [(0, true, .list (a0.map avF) .none), (3, true, .val (.int .i64 x3_l10))] [] [] (ZbP n a0 m x3_l10 = some r)) n ⟨0, ([]), Rw, ef hs, ef hs, hO, h⟩ ?_
  rintro ml10 e st ⟨x3_l10, Xl10, Rl10, rfl, rfl, hO, h⟩ Ul10 Vl10
  cases ml10 with
  | zero => cases h
  | succ ml10 =>
  rw [ZbP] at h
  refine td hN hNR hNL hcalm hO ?_
  apply Zab; intro K11 hK11
  refine rg [0, 3, 10] hs ?_
  refine cnd h hs (fun hs h => ?_) (fun hs h => ?_)
  rotate_left
  ·
   have hb13 := hs.1
   refine sx [] hs hK8 ?_
   exact ⟨([]), Rl10, ef hs, ef hs, hO, h⟩
  have hb13 := hs.1
  refine sk [0, 3] hs hK11 ?_
  clear hK11
  apply Zab; intro K14 hK14
  apply Zad
  apply Zad
  obtain ⟨x16, hx16, h⟩ := bind_some h
  obtain ⟨hx16a, hx16b, hx16c⟩ := Zar hx16
  have hx16d := Zay (f := avF) hx16c
  obtain ⟨hg17, h⟩ := Zac h
  have hs := And.intro hx16d hs
  refine rc 2 [0, 3, 13] hs ?_; intro K15 hK15
  refine Zaf _ (ZlN w0 _ _ _ x16.1 hg17) (hv hs) ?_
  refine ne hs hK15 ?_
  clear hK15
  refine cnd h hs (fun hs h => ?_) (fun hs h => ?_)
  ·
   have hb18 := hs.1
   refine rg [2] hs ?_
   exact rt h hs hcalm hO
  have hb18 := hs.1
  apply Zab; intro K20 hK20
  rcases Bool.eq_false_or_eq_true (decide (0 < x3_l10)) with hf21 | hf21
  ·
   replace h := Za2 h hf21
   obtain ⟨hg22, h⟩ := Zac h
   obtain ⟨x23, hx23a, hx23b, hx23d, h⟩ := ix avF h
   apply Zat mix 17 1 1 [0, 3, 21] (by kernel_rfl)
   rw [Zaa]; simp +decide only [go_sem, Nat.reduceAdd, hb4, hb13, hx16d, hb18, hf21, hx23d]
   (repeat' with_reducible apply And.intro) <;> first | (rw [Zaa]; simp +decide only [go_sem, Nat.reduceAdd, hb4, hb13, hx16d, hb18, hf21, hx23d]) | exact cl
   (repeat' apply And.intro) <;> first | refine hK20 _ _ ?_ | exact cl
   clear hK20
   have hs := And.intro hf21 hs
   have hs := And.intro hx23d hs
   refine cnd h hs (fun hs h => ?_) (fun hs h => ?_)
   ·
    refine rg [2] hs ?_
    exact rt h hs hcalm hO
   obtain ⟨hg27, h⟩ := Zac h
   refine dg 17 1 1 [0, 3, 38] hs mix ?_
   refine cnd h hs (fun hs h => ?_) (fun hs h => ?_)
   ·
    refine rg [2] hs ?_
    exact rt h hs hcalm hO
   refine sk [0, 3] hs hK14 ?_
   clear hK14
   obtain ⟨hg30, h⟩ := Zac h
   refine rl [0, 3] hs (fun e s => Vl10 ml10 e s (Nat.lt_succ_self _)) ?_
   exact ⟨(x3_l10 + 1), ([]), Rl10, ef hs, ef hs, hO, h⟩
  ·
   replace h := ZaZ h hf21
   apply Zat mix 17 1 1 [0, 3, 21] (by kernel_rfl)
   rw [Zaa]; simp +decide only [go_sem, Nat.reduceAdd, hb4, hb13, hx16d, hb18, hf21]
   (repeat' with_reducible apply And.intro) <;> first | (rw [Zaa]; simp +decide only [go_sem, Nat.reduceAdd, hb4, hb13, hx16d, hb18, hf21]) | exact cl
   (repeat' apply And.intro) <;> first | refine hK20 _ _ ?_ | exact cl
   clear hK20
   have hs := And.intro hf21 hs
   refine Zaz false ev (ef hs) (fun hb31 => by cases hb31) (fun hb31 => ?_)
   refine dg 17 1 1 [0, 3, 38] hs mix ?_
   refine Zaz false ev (ef hs) (fun hb33 => by cases hb33) (fun hb33 => ?_)
   refine sk [0, 3] hs hK14 ?_
   clear hK14
   obtain ⟨hg34, h⟩ := Zac h
   refine rl [0, 3] hs (fun e s => Vl10 ml10 e s (Nat.lt_succ_self _)) ?_
   exact ⟨(x3_l10 + 1), ([]), Rl10, ef hs, ef hs, hO, h⟩
 ·
  clear h; rintro e st ⟨Xk7, Rk7, rfl, rfl, hO, h⟩
  rw [Ze8] at h
  refine td hN hNR hNL hcalm hO ?_
  refine rg [2] hs ?_
  exact rt h hs hcalm hO
def ZgC (a0 : Vl) : Bool :=
 (((((decide (a0.kind = 0)) && (decide (a0.int = 0))) && (decide (a0.scale = 0))) && (sEq a0.text ((⟨#[]⟩ : ByteArray)))) && (decide (((a0.list.length : Int)) = 0))) && (decide (((a0.fields.length : Int)) = 0))
theorem ZoZ (w0 : World) (B : List (List AV)) (Rw : List RowA) (L : List LoopA) (a0 : Vl) (r : Bool) (h : ZgC a0 = r) :
  ACalls Tryz.prog w0 238 [.agg (a0.cs)] ⟨B, Rw, L⟩ fun x st => x = .val (.bool r) ∧ st = ⟨B, Rw, L⟩ := by
 rw [ZgC] at h
 refine hd [.tmp 2] Tryz.func238 Tryz.ntmps238 fun M0 W0 hN hNR hNL hcalm hu hO hs => ?_
 simp only [Zav]
 refine rg [1] hs ?_
 refine rg [2] hs ?_
 apply Zah; simp +decide only [go_sem, Nat.reduceAdd]
 subst h
 first | refine ZaG hcalm rfl hO.pre ev ⟨?_, rfl⟩ | refine Zbg hcalm rfl hO.pre ev ⟨?_, rfl⟩
 first | rfl | (simp +decide only [go_sem, Nat.reduceAdd]; done) | (simp +decide only [go_sem, Nat.reduceAdd, Vl.cs, Ty.cs]; done)
theorem ZnS (w0 : World) (B : List (List AV)) (Rw : List RowA) (L : List LoopA) (a0 : Vl) :
  ACalls Tryz.prog w0 238 [.agg (a0.cs)] ⟨B, Rw, L⟩ fun x st => x = .val (.bool (ZgC a0)) ∧ st = ⟨B, Rw, L⟩ := ZoZ w0 B Rw L a0 _ rfl
def ZaD (a0 : Int) (a1 : Int) (a2 : Int) : Bool :=
 (decide (a0 < a1)) || (decide (a2 < a0))
theorem Zlf (w0 : World) (B : List (List AV)) (Rw : List RowA) (L : List LoopA) (a0 : Int) (a1 : Int) (a2 : Int) (r : Bool) (h : ZaD a0 a1 a2 = r) :
  ACalls Tryz.prog w0 240 [.val (.int .i64 a0), .val (.int .i64 a1), .val (.int .i64 a2)] ⟨B, Rw, L⟩ fun x st => x = .val (.bool r) ∧ st = ⟨B, Rw, L⟩ := by
 rw [ZaD] at h
 refine hd [.tmp 6] Tryz.func240 Tryz.ntmps240 fun M0 W0 hN hNR hNL hcalm hu hO hs => ?_
 simp only [Zav]
 refine rg [0, 1, 2] hs ?_
 refine rg [6] hs ?_
 apply Zah; simp +decide only [go_sem, Nat.reduceAdd]
 subst h
 first | refine ZaG hcalm rfl hO.pre ev ⟨?_, rfl⟩ | refine Zbg hcalm rfl hO.pre ev ⟨?_, rfl⟩
 first | rfl | (simp +decide only [go_sem, Nat.reduceAdd]; done) | (simp +decide only [go_sem, Nat.reduceAdd, Vl.cs, Ty.cs]; done)
theorem Zc4 (w0 : World) (B : List (List AV)) (Rw : List RowA) (L : List LoopA) (a0 : Int) (a1 : Int) (a2 : Int) :
  ACalls Tryz.prog w0 240 [.val (.int .i64 a0), .val (.int .i64 a1), .val (.int .i64 a2)] ⟨B, Rw, L⟩ fun x st => x = .val (.bool (ZaD a0 a1 a2)) ∧ st = ⟨B, Rw, L⟩ := Zlf w0 B Rw L a0 a1 a2 _ rfl
def Za4 (a0 : Vl) : Bool :=
 (((((!((((decide (1 ≤ a0.kind)) && (decide (a0.kind ≤ 3))) || (decide (a0.kind = 6))) || (decide (a0.kind = 7)))) && (!(decide (a0.int = 0)))) || ((!(decide (a0.kind = 3))) && (!(decide (a0.scale = 0))))) || ((!(((decide (a0.kind = 4)) || (decide (a0.kind = 5))) || (decide (a0.kind = 10)))) && (!(sEq a0.text ((⟨#[]⟩ : ByteArray)))))) || ((!((decide (a0.kind = 8)) || (decide (a0.kind = 10)))) && (decide (0 < ((a0.list.length : Int)))))) || ((!(decide (a0.kind = 9))) && (decide (0 < ((a0.fields.length : Int)))))
theorem ZmT (w0 : World) (B : List (List AV)) (Rw : List RowA) (L : List LoopA) (a0 : Vl) (r : Bool) (h : Za4 a0 = r) :
  ACalls Tryz.prog w0 239 [.agg (a0.cs)] ⟨B, Rw, L⟩ fun x st => x = .val (.bool r) ∧ st = ⟨B, Rw, L⟩ := by
 rw [Za4] at h
 refine hd [.tmp 2] Tryz.func239 Tryz.ntmps239 fun M0 W0 hN hNR hNL hcalm hu hO hs => ?_
 simp only [Zav]
 refine rg [1] hs ?_
 refine rg [1, 3] hs ?_
 refine rg [1, 3, 4] hs ?_
 refine rg [1, 3, 4, 5] hs ?_
 refine rg [2] hs ?_
 apply Zah; simp +decide only [go_sem, Nat.reduceAdd]
 subst h
 first | refine ZaG hcalm rfl hO.pre ev ⟨?_, rfl⟩ | refine Zbg hcalm rfl hO.pre ev ⟨?_, rfl⟩
 first | rfl | (simp +decide only [go_sem, Nat.reduceAdd]; done) | (simp +decide only [go_sem, Nat.reduceAdd, Vl.cs, Ty.cs]; done)
theorem Zk8 (w0 : World) (B : List (List AV)) (Rw : List RowA) (L : List LoopA) (a0 : Vl) :
  ACalls Tryz.prog w0 239 [.agg (a0.cs)] ⟨B, Rw, L⟩ fun x st => x = .val (.bool (Za4 a0)) ∧ st = ⟨B, Rw, L⟩ := ZmT w0 B Rw L a0 _ rfl
def Zb1 (n : Nat)  : Option Int :=
 some (0)
def Zfv (n : Nat) (a0 : Vl) (x51_k31 : Bool) : Option Int :=
 if x51_k31 then
  if decide (1024 < ((a0.text.size : Int))) then
   some (5)
  else
   if decide (a0.kind = 4) then
    if a0.text.size ≤ maxLen then
     if !(Lib.validD a0.text.data.toList) then
      some (16)
     else
      Zb1 n 
    else none
   else
    Zb1 n 
 else
  if decide (a0.kind = 6) then
   if ZaD a0.int ((-719162)) 2932896 then
    some (2)
   else
    Zb1 n 
  else
   if decide (a0.kind = 7) then
    if ZaD a0.int ((-62135596800000)) 253402300799999 then
     some (2)
    else
     Zb1 n 
   else
    if decide (a0.kind = 8) then
     if decide (256 < ((a0.list.length : Int))) then
      some (9)
     else
      Zb1 n 
    else
     if decide (a0.kind = 9) then
      (Ze0 n a0.fields).bind fun y64 =>
      some (y64)
     else
      if a0.text.size ≤ maxLen then
       if !(Zc3 a0.text) then
        some (12)
       else
        if decide (((a0.list.length : Int)) = 0) then
         some (4)
        else
         if decide (1 < ((a0.list.length : Int))) then
          some (3)
         else
          Zb1 n 
      else none
def Zfx (n : Nat) (a0 : Vl) (x40_k22 : Bool) : Option Int :=
 if x40_k22 then
  if (ZaD a0.int ((-999999999999999)) 999999999999999) || (ZaD a0.scale 0 12) then
   some (2)
  else
   Zb1 n 
 else
  if decide (a0.kind = 4) then
   Zfv n a0 true
  else
   Zfv n a0 (decide (a0.kind = 5))
def ZhJ (n : Nat) (a0 : Vl) : Option Int :=
 if ZgC a0 then
  some (19)
 else
  if (decide (a0.kind < 1)) || (decide (10 < a0.kind)) then
   some (11)
  else
   if Za4 a0 then
    some (3)
   else
    if decide (a0.kind = 1) then
     if ZaD a0.int 0 1 then
      some (2)
     else
      Zb1 n 
    else
     if decide (a0.kind = 2) then
      Zfx n a0 true
     else
      Zfx n a0 (decide (a0.kind = 3))
theorem Zp4 (w0 : World) (hT : Lib.Utf8Tabs 0 1 w0) (n : Nat) (B : List (List AV)) (Rw : List RowA) (L : List LoopA) (a0 : Vl) (r : Int) (h : ZhJ n a0 = some r) :
  ACalls Tryz.prog w0 221 [.agg (a0.cs)] ⟨B, Rw, L⟩ fun x st => x = .val (.int .i64 r) ∧ st = ⟨B, Rw, L⟩ := by
 rw [ZhJ] at h
 refine hd [.tmp 2] Tryz.func221 Tryz.ntmps221 fun M0 W0 hN hNR hNL hcalm hu hO hs => ?_
 simp only [Zav]
 refine rg [1] hs ?_
 apply Zab; intro K2 hK2
 apply Zad
 refine rc 2 [1, 3] hs ?_; intro K3 hK3
 refine Zaf _ (ZnS w0 _ _ _ a0) (hv hs) ?_
 refine ne hs hK3 ?_
 clear hK3
 refine cnd h hs (fun hs h => ?_) (fun hs h => ?_)
 ·
  have hb4 := hs.1
  refine rg [2] hs ?_
  exact rt h hs hcalm hO
 have hb4 := hs.1
 refine rg [1, 6] hs ?_
 refine cnd h hs (fun hs h => ?_) (fun hs h => ?_)
 ·
  have hb7 := hs.1
  refine rg [2] hs ?_
  exact rt h hs hcalm hO
 have hb7 := hs.1
 refine rc 2 [1, 15] hs ?_; intro K9 hK9
 refine Zaf _ (Zk8 w0 _ _ _ a0) (hv hs) ?_
 refine ne hs hK9 ?_
 clear hK9
 refine cnd h hs (fun hs h => ?_) (fun hs h => ?_)
 ·
  have hb10 := hs.1
  refine rg [2] hs ?_
  exact rt h hs hcalm hO
 have hb10 := hs.1
 refine sk [1] hs hK2 ?_
 clear hK2
 refine Zai (fun e st => Ck e st B Rw L [] [a0.cs] [] (Zb1 n  = some r)) ?_ ?_
 ·
  intro K14 hK14
  refine rg [1, 19] hs ?_
  apply Zad
  refine rg [1, 19, 35] hs ?_
  refine cnd h hs (fun hs h => ?_) (fun hs h => ?_)
  ·
   have hb17 := hs.1
   refine rc 2 [39] hs ?_; intro K18 hK18
   refine Zaf _ (Zc4 w0 _ _ _ a0.int 0 1) (hv hs) ?_
   refine ne hs hK18 ?_
   clear hK18
   refine cnd h hs (fun hs h => ?_) (fun hs h => ?_)
   ·
    refine rg [2] hs ?_
    exact rt h hs hcalm hO
   refine sk [] hs hK14 ?_
   exact ⟨([]), Rw, ef hs, ef hs, hO, h⟩
  have hb17 := hs.1
  refine Zai (fun e st => ∃ (x40_k22 : Bool), Ck e st B Rw L [(1, true, .box B.length 0), (19, true, .val (.int .i64 a0.kind)), (40, true, .val (.bool x40_k22))] [a0.cs] [] (Zfx n a0 x40_k22 = some r)) ?_ ?_
  ·
   intro K23 hK23
   refine rg [1, 19, 40] hs ?_
   refine cnd h hs (fun hs h => ?_) (fun hs h => ?_)
   ·
    refine sk [1, 19, 40] hs hK23 ?_
    exact ⟨true, ([]), Rw, ef hs, ef hs, hO, h⟩
   refine rl [1, 19, 40] hs hK23 ?_
   exact ⟨(decide (a0.kind = 3)), ([]), Rw, ef hs, ef hs, hO, h⟩
  ·
   clear h; rintro e st ⟨x40_k22, Xk22, Rk22, rfl, rfl, hO, h⟩
   rw [Zfx] at h
   refine td hN hNR hNL hcalm hO ?_
   refine cnd h hs (fun hs h => ?_) (fun hs h => ?_)
   ·
    have hb26 := hs.1
    refine rc 3 [50] hs ?_; intro K27 hK27
    refine Zaf _ (Zc4 w0 _ _ _ a0.int ((-999999999999999)) 999999999999999) (hv hs) ?_
    refine nc hs ?_
    refine ZdT _ (fun _ => Zc4 w0 _ _ _ a0.scale 0 12) (hv hs) ?_
    refine ne hs hK27 ?_
    clear hK27
    refine cnd h hs (fun hs h => ?_) (fun hs h => ?_)
    ·
     refine rg [2] hs ?_
     exact rt h hs hcalm hO
    refine sk [] hs hK14 ?_
    exact ⟨([]), Rk22, ef hs, ef hs, hO, h⟩
   have hb26 := hs.1
   refine Zai (fun e st => ∃ (x51_k31 : Bool), Ck e st B Rw L [(1, true, .box B.length 0), (19, true, .val (.int .i64 a0.kind)), (51, true, .val (.bool x51_k31))] [a0.cs] [] (Zfv n a0 x51_k31 = some r)) ?_ ?_
   ·
    intro K32 hK32
    refine rg [1, 19, 51] hs ?_
    refine cnd h hs (fun hs h => ?_) (fun hs h => ?_)
    ·
     refine sk [1, 19, 51] hs hK32 ?_
     exact ⟨true, ([]), Rk22, ef hs, ef hs, hO, h⟩
    refine rl [1, 19, 51] hs hK32 ?_
    exact ⟨(decide (a0.kind = 5)), ([]), Rk22, ef hs, ef hs, hO, h⟩
   ·
    clear h; rintro e st ⟨x51_k31, Xk31, Rk31, rfl, rfl, hO, h⟩
    rw [Zfv] at h
    refine td hN hNR hNL hcalm hO ?_
    refine cnd h hs (fun hs h => ?_) (fun hs h => ?_)
    ·
     have hb35 := hs.1
     apply Zab; intro K36 hK36
     refine rg [1, 57] hs ?_
     refine cnd h hs (fun hs h => ?_) (fun hs h => ?_)
     ·
      have hb38 := hs.1
      refine rg [2] hs ?_
      exact rt h hs hcalm hO
     have hb38 := hs.1
     refine sk [1] hs hK36 ?_
     clear hK36
     apply Zab; intro K40 hK40
     rcases Bool.eq_false_or_eq_true (decide (a0.kind = 4)) with hf41 | hf41
     ·
      replace h := Za2 h hf41
      obtain ⟨hg42, h⟩ := Zac h
      have hs := And.intro hf41 hs
      refine rk 2 [66] hs ?_
      refine Zaf _ (ZkS w0 _ _ _ hT a0.text hg42) (hv hs) ?_
      refine ne hs hK40 ?_
      clear hK40
      refine cnd h hs (fun hs h => ?_) (fun hs h => ?_)
      ·
       refine rg [2] hs ?_
       exact rt h hs hcalm hO
      refine sk [] hs hK14 ?_
      exact ⟨([]), Rk31, ef hs, ef hs, hO, h⟩
     ·
      replace h := ZaZ h hf41
      apply Zae 2 [66]
      rw [Zaa]; simp +decide only [go_sem, Nat.reduceAdd, hb4, hb7, hb10, hb17, hb26, hb35, hb38, hf41]
      (repeat' apply And.intro) <;> first | refine ZaL ?_ | exact cl
      rw [Zaa]; simp +decide only [go_sem, Nat.reduceAdd, hb4, hb7, hb10, hb17, hb26, hb35, hb38, hf41]
      (repeat' apply And.intro) <;> first | refine hK40 _ _ ?_ | exact cl
      clear hK40
      have hs := And.intro hf41 hs
      refine Zaz false ev (ef hs) (fun hb45 => by cases hb45) (fun hb45 => ?_)
      refine sk [] hs hK14 ?_
      exact ⟨([]), Rk31, ef hs, ef hs, hO, h⟩
    have hb35 := hs.1
    refine rg [1, 19, 67] hs ?_
    refine cnd h hs (fun hs h => ?_) (fun hs h => ?_)
    ·
     refine rc 2 [71] hs ?_; intro K48 hK48
     refine Zaf _ (Zc4 w0 _ _ _ a0.int ((-719162)) 2932896) (hv hs) ?_
     refine ne hs hK48 ?_
     clear hK48
     refine cnd h hs (fun hs h => ?_) (fun hs h => ?_)
     ·
      refine rg [2] hs ?_
      exact rt h hs hcalm hO
     refine sk [] hs hK14 ?_
     exact ⟨([]), Rk31, ef hs, ef hs, hO, h⟩
    refine rg [1, 19, 72] hs ?_
    refine cnd h hs (fun hs h => ?_) (fun hs h => ?_)
    ·
     refine rc 2 [76] hs ?_; intro K53 hK53
     refine Zaf _ (Zc4 w0 _ _ _ a0.int ((-62135596800000)) 253402300799999) (hv hs) ?_
     refine ne hs hK53 ?_
     clear hK53
     refine cnd h hs (fun hs h => ?_) (fun hs h => ?_)
     ·
      refine rg [2] hs ?_
      exact rt h hs hcalm hO
     refine sk [] hs hK14 ?_
     exact ⟨([]), Rk31, ef hs, ef hs, hO, h⟩
    refine rg [1, 19, 77] hs ?_
    refine cnd h hs (fun hs h => ?_) (fun hs h => ?_)
    ·
     refine rg [82] hs ?_
     refine cnd h hs (fun hs h => ?_) (fun hs h => ?_)
     ·
      refine rg [2] hs ?_
      exact rt h hs hcalm hO
     refine sk [] hs hK14 ?_
     exact ⟨([]), Rk31, ef hs, ef hs, hO, h⟩
    refine rg [1, 83] hs ?_
    refine cnd h hs (fun hs h => ?_) (fun hs h => ?_)
    ·
     obtain ⟨y64, hy64, h⟩ := bind_some h
     refine rc 2 [2] hs ?_; intro K63 hK63
     refine Zaf _ (Zl5 w0 n _ _ _ a0.fields _ hy64) (hv hs) ?_
     refine ne hs hK63 ?_
     clear hK63
     exact rt h hs hcalm hO
    apply Zad
    obtain ⟨hg66, h⟩ := Zac h
    refine rc 2 [1, 20] hs ?_; intro K65 hK65
    refine Zaf _ (ZlN w0 _ _ _ a0.text hg66) (hv hs) ?_
    refine ne hs hK65 ?_
    clear hK65
    refine cnd h hs (fun hs h => ?_) (fun hs h => ?_)
    ·
     refine rg [2] hs ?_
     exact rt h hs hcalm hO
    refine rg [1, 25] hs ?_
    refine cnd h hs (fun hs h => ?_) (fun hs h => ?_)
    ·
     refine rg [2] hs ?_
     exact rt h hs hcalm hO
    refine rg [30] hs ?_
    refine cnd h hs (fun hs h => ?_) (fun hs h => ?_)
    ·
     refine rg [2] hs ?_
     exact rt h hs hcalm hO
    refine sk [] hs hK14 ?_
    exact ⟨([]), Rk31, ef hs, ef hs, hO, h⟩
 ·
  clear h; rintro e st ⟨Xk13, Rk13, rfl, rfl, hO, h⟩
  rw [Zb1] at h
  refine td hN hNR hNL hcalm hO ?_
  refine rg [2] hs ?_
  exact rt h hs hcalm hO
def ZdU (n : Nat)  (x3_k4 : List Vl) : Option ((List Vl)) :=
 some (x3_k4)
def Zcq (n : Nat) (a0 : Vl) : Nat → (List Vl) → Int → Option ((List Vl))
 | 0, _, _ => none
 | m + 1, x3_l21, x4_l21 =>
  if decide (x4_l21 < ((a0.fields.length : Int))) then
   (idx a0.fields x4_l21).bind fun x26 =>
   if (x3_l21.length + 1) * 88 ≤ 140737488355328 ∧ x3_l21.length + 1 ≤ 4611686018427387904 then
    if I64 (x4_l21 + 1) then
     (Zcq n a0 m) (x3_l21 ++ ([x26.2])) (x4_l21 + 1)
    else none
   else none
  else
   ZdU n x3_l21
def Zdh (n : Nat) (a0 : Vl) (x7_k8 : Bool) : Option ((List Vl)) :=
 if x7_k8 then
  if (0 + a0.list.length) * 88 ≤ 140737488355328 ∧ 0 + a0.list.length ≤ 4611686018427387904 then
   ZdU n a0.list
  else none
 else
  if decide (a0.kind = 9) then
   Zcq n a0 n ([]) 0
  else
   ZdU n ([])
def ZeD (n : Nat) (a0 : Vl) : Option ((List Vl)) :=
 if decide (a0.kind = 8) then
  Zdh n a0 true
 else
  Zdh n a0 (decide (a0.kind = 10))
theorem ZjY (w0 : World) (n : Nat) (B : List (List AV)) (Rw : List RowA) (L : List LoopA) (a0 : Vl) (r : (List Vl)) (h : ZeD n a0 = some r) :
  ACalls Tryz.prog w0 222 [.agg (a0.cs)] ⟨B, Rw, L⟩ fun x st => x = .list (r.map avV) .none ∧ st = ⟨B, Rw, L⟩ := by
 rw [ZeD] at h
 refine hd [.tmp 2] Tryz.func222 Tryz.ntmps222 fun M0 W0 hN hNR hNL hcalm hu hO hs => ?_
 simp only [Zav]
 refine rg [1] hs ?_
 refine rg [1, 3] hs ?_
 refine Zai (fun e st => ∃ (x3_k4 : List Vl) (ox3_k4 : Ev.Own), Ck e st B Rw L [(3, true, .list (x3_k4.map avV) ox3_k4)] [a0.cs] [(6, x3_k4.length, ox3_k4)] (ZdU n x3_k4 = some r)) ?_ ?_
 ·
  intro K5 hK5
  refine rg [1, 3, 6] hs ?_
  apply Zad
  refine Zai (fun e st => ∃ (x7_k8 : Bool), Ck e st B Rw L [(1, true, .box B.length 0), (3, true, .list ([]) .full), (6, true, .val (.int .i64 a0.kind)), (7, true, .val (.bool x7_k8))] [a0.cs] [] (Zdh n a0 x7_k8 = some r)) ?_ ?_
  ·
   intro K9 hK9
   refine rg [1, 3, 6, 7] hs ?_
   refine cnd h hs (fun hs h => ?_) (fun hs h => ?_)
   ·
    refine sk [1, 3, 6, 7] hs hK9 ?_
    exact ⟨true, ([]), Rw, ef hs, ef hs, hO, h⟩
   refine rl [1, 3, 6, 7] hs hK9 ?_
   exact ⟨(decide (a0.kind = 10)), ([]), Rw, ef hs, ef hs, hO, h⟩
  ·
   clear h; rintro e st ⟨x7_k8, Xk8, Rk8, rfl, rfl, hO, h⟩
   rw [Zdh] at h
   refine td hN hNR hNL hcalm hO ?_
   refine cnd h hs (fun hs h => ?_) (fun hs h => ?_)
   ·
    obtain ⟨hg13, h⟩ := Zac h
    have hO := hO.full 6 0
    obtain ⟨o15, rows16, hO, hap17⟩ := hO.append (P := Tryz.prog) ZkR (by rw [ZgZ]; rfl) (by decide) a0.list.length hg13.1 hg13.2
    simp only [Nat.zero_add] at hO
    replace hap17 := fun (ys : List AV) B L o2 => hap17 ([]) ys B L o2 (by first | rfl | simp only [List.length_map, List.length_nil, List.length_append, List.length_cons, Nat.zero_add])
    replace hap17 := fun B L o2 => hap17 (a0.list.map avV) B L o2 (by first | rfl | simp only [List.length_map, List.length_nil, List.length_cons]) ev
    try simp only [List.mem_singleton, List.mem_cons, List.not_mem_nil, or_false, forall_eq_or_imp, forall_eq, List.map_append, List.map_cons, List.map_nil, Zcn, ZcQ, Zcy, Zcs, Zcw, Zcm, ZbF, ZbK, ZcC, Za8, Za9, ZbE, ZbC, ZbH] at hap17
    have hs := And.intro hap17 hs
    refine rl [3] hs hK5 ?_
    exact ⟨a0.list, o15, ([]), rows16, ef hs, ef hs, Owns.of_eq (hO) (by first | rfl | simp only [List.length_append, List.length_cons, List.length_nil, List.length_map, Nat.zero_add, Nat.add_zero]), h⟩
   refine rg [1, 3, 14] hs ?_
   refine cnd h hs (fun hs h => ?_) (fun hs h => ?_)
   ·
    refine rg [1, 3, 4] hs ?_
    apply Zad
    refine Zal (fun m e st => ∃ (x3_l21 : List Vl) (x4_l21 : Int) (ox3_l21 : Ev.Own), Ck e st B Rw L [(1, true, .box B.length 0), (3, true, .list (x3_l21.map avV) ox3_l21), (4, true, .val (.int .i64 x4_l21))] [a0.cs] [(6, x3_l21.length, ox3_l21)] (Zcq n a0 m x3_l21 x4_l21 = some r)) n ⟨([]), 0, .full, ([]), Rk8, ef hs, ef hs, Owns.of_eq ((hO).full 6 0) (by first | rfl | simp only [List.length_append, List.length_cons, List.length_nil, List.length_map, Nat.zero_add, Nat.add_zero]), h⟩ ?_
    rintro ml21 e st ⟨x3_l21, x4_l21, ox3_l21, Xl21, Rl21, rfl, rfl, hO, h⟩ Ul21 Vl21
    cases ml21 with
    | zero => cases h
    | succ ml21 =>
    rw [Zcq] at h
    have hU := hO.unders
    simp only [List.mem_cons, List.not_mem_nil, or_false, forall_eq_or_imp, forall_eq] at hU
    refine td hN hNR hNL hcalm hO ?_
    apply Zab; intro K22 hK22
    refine rg [1, 3, 4, 20] hs ?_
    refine cnd h hs (fun hs h => ?_) (fun hs h => ?_)
    rotate_left
    ·
     refine sx [3] hs hK5 ?_
     exact ⟨x3_l21, ox3_l21, ([]), Rl21, ef hs, ef hs, Owns.of_eq (hO) (by first | rfl | simp only [List.length_append, List.length_cons, List.length_nil, List.length_map, Nat.zero_add, Nat.add_zero]), h⟩
    refine sk [1, 3, 4] hs hK22 ?_
    clear hK22
    apply Zab; intro K25 hK25
    apply Zad
    obtain ⟨x26, hx26a, hx26b, hx26d, h⟩ := ix avF h
    obtain ⟨hg27, h⟩ := Zac h
    obtain ⟨o28, rows29, hO, hap30⟩ := hO.append (P := Tryz.prog) ZkR (by rw [ZgZ]; rfl) (by decide) 1 hg27.1 hg27.2
    replace hap30 := fun (ys : List AV) B L o2 => hap30 (x3_l21.map avV) ys B L o2 (by first | rfl | simp only [List.length_map, List.length_nil, List.length_append, List.length_cons, Nat.zero_add])
    replace hap30 := fun (y : AV) B L o2 => hap30 [y] B L o2 (by first | rfl | simp only [List.length_map, List.length_nil, List.length_cons]) ev
    try simp only [List.mem_singleton, List.mem_cons, List.not_mem_nil, or_false, forall_eq_or_imp, forall_eq, List.map_append, List.map_cons, List.map_nil, Zcn, ZcQ, Zcy, Zcs, Zcw, Zcm, ZbF, ZbK, ZcC, Za8, Za9, ZbE, ZbC, ZbH] at hap30
    have hs := And.intro hx26d hs
    have hs := And.intro hap30 hs
    refine rl [1, 3, 4] hs hK25 ?_
    clear hK25
    obtain ⟨hg31, h⟩ := Zac h
    refine rl [1, 3, 4] hs (fun e s => Vl21 ml21 e s (Nat.lt_succ_self _)) ?_
    exact ⟨(x3_l21 ++ ([x26.2])), (x4_l21 + 1), o28, ([]), rows29, ef hs, ef hs, Owns.of_eq (hO) (by first | rfl | simp only [List.length_append, List.length_cons, List.length_nil, List.length_map, Nat.zero_add, Nat.add_zero]), h⟩
   refine sk [3] hs hK5 ?_
   exact ⟨([]), .full, ([]), Rk8, ef hs, ef hs, Owns.of_eq ((hO).full 6 0) (by first | rfl | simp only [List.length_append, List.length_cons, List.length_nil, List.length_map, Nat.zero_add, Nat.add_zero]), h⟩
 ·
  clear h; rintro e st ⟨x3_k4, ox3_k4, Xk4, Rk4, rfl, rfl, hO, h⟩
  rw [ZdU] at h
  have hU := hO.unders
  simp only [List.mem_cons, List.not_mem_nil, or_false, forall_eq_or_imp, forall_eq] at hU
  refine td hN hNR hNL hcalm hO ?_
  refine rg [2] hs ?_
  exact rt h hs hcalm hO
@[go_sem] theorem vl_a6 (v : Vl) (x d : AV) : (v.cs ++ [x]).getD 6 d = x := by cases v; rfl
@[go_sem] theorem ZvT (v : Vl) (a b c d e f g : AV) : ZbO [a, b, c, d, e, f, g] 0 v.cs = v.cs ++ [g] := by
 cases v; rfl
@[go_sem] theorem Zwk (v : Vl) (g x : AV) : ZbO (v.cs ++ [g]) 6 [x] = v.cs ++ [x] := by
 cases v; rfl
theorem ZmN (x : Itm) : (ZfK x).cells.length = 7 ∧ ZaN (ZfK x) = true := by simp +decide only [go_sem, and_self]
theorem ZiQ (x : Itm) : (ZfK x).pub = ZfK x := by simp +decide only [go_sem]
theorem Zhd (x : Itm) : ∀ c ∈ (ZfK x).cells, ∀ a b d, Under a b d c := by
 intro c hc a b d
 simp only [ZfK, AV.cells, List.mem_append, List.mem_singleton] at hc
 rcases hc with hc | rfl
 ·
  exact x.v.under a b d c hc
 ·
  exact .val _
def Zfc (n : Nat) (again_l8 : (List Itm) → Int → Option Int) (x4_l8 : Int) (x3_k13 : List Itm) : Option Int :=
 if I64 (x4_l8 + 1) then
  again_l8 x3_k13 (x4_l8 + 1)
 else none
def Zhh (n : Nat)  : Option Int :=
 some (0)
def ZcH (n : Nat) (again_l8 : (List Itm) → Int → Option Int) (x4_l8 : Int) (x17 : Itm) (y35 : (List Vl)) : Nat → (List Itm) → Int → Option Int
 | 0, _, _ => none
 | m + 1, x3_l38, x8_l38 =>
  if decide (0 ≤ x8_l38) then
   (idx y35 x8_l38).bind fun x43 =>
   if I64 (x17.level + 1) then
    if (x3_l38.length + 1) * 96 ≤ 140737488355328 ∧ x3_l38.length + 1 ≤ 4611686018427387904 then
     if I64 (x8_l38 - 1) then
      (ZcH n again_l8 x4_l8 x17 y35 m) (x3_l38 ++ ([Itm.mk x43 (x17.level + 1)])) (x8_l38 - 1)
     else none
    else none
   else none
  else
   Zfc n again_l8 x4_l8 x3_l38
def Zch (n : Nat)  : Nat → (List Itm) → Int → Option Int
 | 0, _, _ => none
 | m + 1, x3_l8, x4_l8 =>
  if decide (0 < ((x3_l8.length : Int))) then
   if I64 (((x3_l8.length : Int)) - 1) then
    (idx x3_l8 (((x3_l8.length : Int)) - 1)).bind fun x17 =>
    if I64 (((x3_l8.length : Int)) - 1) then
     if 0 ≤ ((x3_l8.length : Int)) - 1 ∧ ((x3_l8.length : Int)) - 1 ≤ (x3_l8.length : Int) then
      if decide (4096 ≤ x4_l8) then
       some (9)
      else
       if decide (8 < x17.level) then
        some (23)
       else
        (ZhJ n x17.v).bind fun y30 =>
        if !(decide (y30 = 0)) then
         some (y30)
        else
         (ZeD n x17.v).bind fun y35 =>
         if I64 (((y35.length : Int)) - 1) then
          ZcH n (Zch n m) x4_l8 x17 y35 n (x3_l8.take (((x3_l8.length : Int)) - 1).toNat) (((y35.length : Int)) - 1)
         else none
     else none
    else none
   else none
  else
   Zhh n 
def Zd1 (n : Nat) (a0 : Vl) : Option Int :=
 Zch n n ([Itm.mk a0 1]) 0
theorem Zhg (w0 : World) (hT : Lib.Utf8Tabs 0 1 w0) (n : Nat) (B : List (List AV)) (Rw : List RowA) (L : List LoopA) (a0 : Vl) (r : Int) (h : Zd1 n a0 = some r) :
  ACalls Tryz.prog w0 178 [.agg (a0.cs)] ⟨B, Rw, L⟩ fun x st => x = .val (.int .i64 r) ∧ st = ⟨B, Rw, L⟩ := by
 rw [Zd1] at h
 refine hd [.tmp 2] Tryz.func178 Tryz.ntmps178 fun M0 W0 hN hNR hNL hcalm hu hO hs => ?_
 simp only [Zav]
 refine rg [1] hs ?_
 apply Zab; intro K2 hK2
 refine Zsm 213 (by decide) ?_
 apply Zae 1 [3]
 rw [Zaa]; simp +decide only [go_sem, Nat.reduceAdd, ZaF, Zan, Zam]
 (repeat' apply And.intro) <;> first | refine hK2 _ _ ?_ | exact cl
 clear hK2
 refine Zai (fun e st => ∃ (xs_k5 : List AV) (id_k5 ver_k5 : Nat) (Xk5 : List (List AV)) (Rk5 : List RowA), e = [] ∧ st = ⟨B ++ ([a0.cs] ++ Xk5), Rk5, L⟩ ∧ VStk Rw Rk5 7 xs_k5 id_k5 ver_k5 ∧ Zhh n  = some r) ?_ ?_
 ·
  intro K6 hK6
  refine rg [3, 4] hs ?_
  apply Zad
  refine Zal (fun m e st => ∃ (x3_l8 : List Itm) (x4_l8 : Int) (id_l8 ver_l8 : Nat) (Xl8 : List (List AV)) (Rl8 : List RowA), e = [(3, true, .vec id_l8 ver_l8 0 x3_l8.length), (4, true, .val (.int .i64 x4_l8))] ∧ st = ⟨B ++ ([a0.cs] ++ Xl8), Rl8, L⟩ ∧ VStk Rw Rl8 7 (x3_l8.map ZfK) id_l8 ver_l8 ∧ Zch n m x3_l8 x4_l8 = some r) n ⟨([Itm.mk a0 1]), 0, Rw.length, 0, ([]), Rw ++ [.vec 0 7 ([ZfK (Itm.mk a0 1)].flatMap fun x => x.pub.cells)], ef hs, ef hs, VStk.start (y := ZfK (Itm.mk a0 1)) Rw (by simp only [List.flatMap_cons, List.flatMap_nil, List.append_nil, ZiQ]) (ZmN _).1 (Zhd _), h⟩ ?_
  rintro ml8 e st ⟨x3_l8, x4_l8, id_l8, ver_l8, Xl8, Rl8, rfl, rfl, hO, h⟩ Ul8 Vl8
  cases ml8 with
  | zero => cases h
  | succ ml8 =>
  rw [Zch] at h
  obtain ⟨cs, hvr, hget⟩ := hO.read
  have hU := hO.under
  refine tdS hN hNR hNL hcalm hO ?_
  have hs := And.intro hvr hs
  apply Zab; intro K9 hK9
  refine rg [3, 4, 14] hs ?_
  refine cnd h hs (fun hs h => ?_) (fun hs h => ?_)
  rotate_left
  ·
   have hb11 := hs.1
   refine sx [] hs hK6 ?_
   exact ⟨_, _, _, ([]), Rl8, ef hs, ef hs, hO, h⟩
  have hb11 := hs.1
  refine sk [3, 4] hs hK9 ?_
  clear hK9
  refine Zai (fun e st => ∃ (x3_k13 : List Itm) (id_k13 ver_k13 : Nat) (Xk13 : List (List AV)) (Rk13 : List RowA), e = [(3, true, .vec id_k13 ver_k13 0 x3_k13.length), (4, true, .val (.int .i64 x4_l8))] ∧ st = ⟨B ++ ([a0.cs] ++ Xk13), Rk13, L⟩ ∧ VStk Rw Rk13 7 (x3_k13.map ZfK) id_k13 ver_k13 ∧ Zfc n (Zch n ml8) x4_l8 x3_k13 = some r) ?_ ?_
  ·
   intro K14 hK14
   apply Zad
   obtain ⟨hg16, h⟩ := Zac h
   obtain ⟨x17, hx17, h⟩ := bind_some h
   obtain ⟨hx17a, hx17b, hx17c⟩ := Zar hx17
   obtain ⟨hx17d, hx17e⟩ := hget _ (ZfK x17) (by rw [List.getElem?_map, hx17c]; rfl)
   replace hx17d : _ = x17.v.cs ++ [.val (.int .i64 x17.level)] := hx17d
   have hs := And.intro hx17d hs
   refine rg [3, 4, 5] hs ?_
   obtain ⟨hg19, h⟩ := Zac h
   obtain ⟨hg20, h⟩ := Zac h
   obtain ⟨x3t, hx3t⟩ : ∃ l, l = x3_l8.take (((x3_l8.length : Int)) - 1).toNat := ⟨_, rfl⟩
   have hx3n : (((x3_l8.length : Int)) - 1).toNat = x3t.length := by rw [hx3t, List.length_take]; omega
   rw [← hx3t] at h
   have hO := (hO.take (((x3_l8.length : Int)) - 1).toNat).of_eq (by rw [← List.map_take, ← hx3t])
   have hs := And.intro hx3n hs
   refine rg [3, 4, 5] hs ?_
   apply Zab; intro K21 hK21
   apply Zad
   refine rg [3, 4, 5, 28] hs ?_
   refine cnd h hs (fun hs h => ?_) (fun hs h => ?_)
   ·
    have hb23 := hs.1
    refine rg [2] hs ?_
    exact rt h hs hcalm hO
   have hb23 := hs.1
   refine rg [3, 4, 5, 31] hs ?_
   refine cnd h hs (fun hs h => ?_) (fun hs h => ?_)
   ·
    have hb26 := hs.1
    refine rg [2] hs ?_
    exact rt h hs hcalm hO
   have hb26 := hs.1
   refine sk [3, 4, 5] hs hK21 ?_
   clear hK21
   apply Zab; intro K28 hK28
   obtain ⟨y30, hy30, h⟩ := bind_some h
   refine rc 2 [3, 4, 5, 6] hs ?_; intro K29 hK29
   refine Zaf _ (Zp4 w0 hT n _ _ _ x17.v _ hy30) (hv hs) ?_
   refine ne hs hK29 ?_
   clear hK29
   refine rg [3, 4, 5, 6, 39] hs ?_
   refine cnd h hs (fun hs h => ?_) (fun hs h => ?_)
   ·
    have hb32 := hs.1
    refine rg [2] hs ?_
    exact rt h hs hcalm hO
   have hb32 := hs.1
   refine sk [3, 4, 5] hs hK28 ?_
   clear hK28
   obtain ⟨y35, hy35, h⟩ := bind_some h
   refine rc 2 [3, 4, 5, 7] hs ?_; intro K34 hK34
   refine Zaf _ (ZjY w0 n _ _ _ x17.v _ hy35) (hv hs) ?_
   refine ne hs hK34 ?_
   clear hK34
   obtain ⟨hg37, h⟩ := Zac h
   refine rg [3, 4, 5, 7, 8] hs ?_
   apply Zad
   refine Zal (fun m e st => ∃ (x3_l38 : List Itm) (x8_l38 : Int) (id_l38 ver_l38 : Nat) (Xl38 : List (List AV)) (Rl38 : List RowA), e = [(3, true, .vec id_l38 ver_l38 0 x3_l38.length), (4, true, .val (.int .i64 x4_l8)), (5, true, .box (B.length + 1) 0), (7, true, .list (y35.map avV) .none), (8, true, .val (.int .i64 x8_l38))] ∧ st = ⟨B ++ ([a0.cs, (x17.v.cs) ++ ([.val (.int .i64 x17.level)])] ++ Xl38), Rl38, L⟩ ∧ VStk Rw Rl38 7 (x3_l38.map ZfK) id_l38 ver_l38 ∧ ZcH n (Zch n ml8) x4_l8 x17 y35 m x3_l38 x8_l38 = some r) n ⟨x3t, (((y35.length : Int)) - 1), id_l8, ver_l8, ([]), Rl8, ef hs, ef hs, hO, h⟩ ?_
   rintro ml38 e st ⟨x3_l38, x8_l38, id_l38, ver_l38, Xl38, Rl38, rfl, rfl, hO, h⟩ Ul38 Vl38
   cases ml38 with
   | zero => cases h
   | succ ml38 =>
   rw [ZcH] at h
   obtain ⟨cs, hvr, hget⟩ := hO.read
   have hU := hO.under
   refine tdS hN hNR hNL hcalm hO ?_
   have hs := And.intro hvr hs
   apply Zab; intro K39 hK39
   refine rg [3, 4, 5, 7, 8, 48] hs ?_
   refine cnd h hs (fun hs h => ?_) (fun hs h => ?_)
   rotate_left
   ·
    have hb41 := hs.1
    refine sx [3, 4] hs hK14 ?_
    exact ⟨x3_l38, id_l38, ver_l38, ([(x17.v.cs) ++ ([.val (.int .i64 x17.level)])]), Rl38, ef hs, ef hs, hO, h⟩
   have hb41 := hs.1
   refine sk [3, 4, 5, 7, 8] hs hK39 ?_
   clear hK39
   apply Zab; intro K42 hK42
   apply Zad
   obtain ⟨x43, hx43a, hx43b, hx43d, h⟩ := ix avV h
   obtain ⟨hg44, h⟩ := Zac h
   obtain ⟨hg45, h⟩ := Zac h
   obtain ⟨rows47, hO, hap48⟩ := hO.append (P := Tryz.prog) (y := ZfK (Itm.mk x43 (x17.level + 1))) ZuV (by rw [Zq6]; rfl) (by decide) (by rw [List.length_map]; exact hg45.1) (by rw [List.length_map]; exact hg45.2) (ZmN _) (ZiQ _) (Zhd _)
   rw [List.length_map] at hap48
   try simp only [List.mem_singleton, List.mem_cons, List.not_mem_nil, or_false, forall_eq_or_imp, forall_eq, List.map_append, List.map_cons, List.map_nil, Zcn, ZcQ, Zcy, Zcs, Zcw, Zcm, ZbF, ZbK, ZcC, Za8, Za9, ZbE, ZbC, ZbH] at hap48
   apply Zat mix 10 1 1 [3, 4, 5, 7, 8] (by kernel_rfl)
   rw [Zaa]; simp +decide only [go_sem, Nat.reduceAdd, hb11, hx17d, hb23, hb26, hb32, hb41, hx43d, hap48, ZaF, Zan, Zam]
   (repeat' with_reducible apply And.intro) <;> first | (rw [Zaa]; simp +decide only [go_sem, Nat.reduceAdd, hb11, hx17d, hb23, hb26, hb32, hb41, hx43d, hap48, ZaF, Zan, Zam]) | exact cl
   (repeat' apply And.intro) <;> first | refine hK42 _ _ ?_ | exact cl
   clear hK42
   obtain ⟨hg49, h⟩ := Zac h
   have hs := And.intro hx43d hs
   have hs := And.intro hap48 hs
   refine rl [3, 4, 5, 7, 8] hs (fun e s => Vl38 ml38 e s (Nat.lt_succ_self _)) ?_
   exact ⟨(x3_l38 ++ ([Itm.mk x43 (x17.level + 1)])), (x8_l38 - 1), id_l38, ver_l38 + 1, ([]), rows47, ef hs, ef hs, hO.of_eq (by rw [List.map_append]; rfl), h⟩
  ·
   clear h; rintro e st ⟨x3_k13, id_k13, ver_k13, Xk13, Rk13, rfl, rfl, hO, h⟩
   rw [Zfc] at h
   obtain ⟨cs, hvr, hget⟩ := hO.read
   have hU := hO.under
   refine tdS hN hNR hNL hcalm hO ?_
   have hs := And.intro hvr hs
   obtain ⟨hg50, h⟩ := Zac h
   refine rl [3, 4] hs (fun e s => Vl8 ml8 e s (Nat.lt_succ_self _)) ?_
   exact ⟨x3_k13, (x4_l8 + 1), id_k13, ver_k13, ([]), Rk13, ef hs, ef hs, hO, h⟩
 ·
  clear h; rintro e st ⟨xs_k5, id_k5, ver_k5, Xk5, Rk5, rfl, rfl, hO, h⟩
  rw [Zhh] at h
  have hU := hO.under
  refine tdS hN hNR hNL hcalm hO ?_
  refine rg [2] hs ?_
  exact rt h hs hcalm hO
def ZbB (a0 : Vl) : Bool :=
 (((((decide (a0.kind = 0)) && (decide (a0.int = 0))) && (decide (a0.scale = 0))) && (sEq a0.text ((⟨#[]⟩ : ByteArray)))) && (decide (((a0.list.length : Int)) = 0))) && (decide (((a0.fields.length : Int)) = 0))
theorem ZnD (w0 : World) (B : List (List AV)) (Rw : List RowA) (L : List LoopA) (a0 : Vl) (r : Bool) (h : ZbB a0 = r) :
  ACalls Tryz.prog w0 62 [.agg (a0.cs)] ⟨B, Rw, L⟩ fun x st => x = .val (.bool r) ∧ st = ⟨B, Rw, L⟩ := by
 rw [ZbB] at h
 refine hd [.tmp 2] Tryz.func62 Tryz.ntmps62 fun M0 W0 hN hNR hNL hcalm hu hO hs => ?_
 simp only [Zav]
 refine rg [1] hs ?_
 refine rg [2] hs ?_
 apply Zah; simp +decide only [go_sem, Nat.reduceAdd]
 subst h
 first | refine ZaG hcalm rfl hO.pre ev ⟨?_, rfl⟩ | refine Zbg hcalm rfl hO.pre ev ⟨?_, rfl⟩
 first | rfl | (simp +decide only [go_sem, Nat.reduceAdd]; done) | (simp +decide only [go_sem, Nat.reduceAdd, Vl.cs, Ty.cs]; done)
theorem Zgs (w0 : World) (B : List (List AV)) (Rw : List RowA) (L : List LoopA) (a0 : Vl) :
  ACalls Tryz.prog w0 62 [.agg (a0.cs)] ⟨B, Rw, L⟩ fun x st => x = .val (.bool (ZbB a0)) ∧ st = ⟨B, Rw, L⟩ := ZnD w0 B Rw L a0 _ rfl
def ZaV (a0 : Int) (a1 : Int) (a2 : Int) : Int :=
 if (decide (a0 < a1)) || (decide (a2 < a0)) then
  2
 else
  0
theorem Zm2 (w0 : World) (B : List (List AV)) (Rw : List RowA) (L : List LoopA) (a0 : Int) (a1 : Int) (a2 : Int) (r : Int) (h : ZaV a0 a1 a2 = r) :
  ACalls Tryz.prog w0 109 [.val (.int .i64 a0), .val (.int .i64 a1), .val (.int .i64 a2)] ⟨B, Rw, L⟩ fun x st => x = .val (.int .i64 r) ∧ st = ⟨B, Rw, L⟩ := by
 rw [ZaV] at h
 refine hd [.tmp 6] Tryz.func109 Tryz.ntmps109 fun M0 W0 hN hNR hNL hcalm hu hO hs => ?_
 simp only [Zav]
 refine rg [0, 1, 2] hs ?_
 apply Zab; intro K2 hK2
 refine rg [14] hs ?_
 refine cnd h hs (fun hs h => ?_) (fun hs h => ?_)
 ·
  have hb4 := hs.1
  refine rg [6] hs ?_
  apply Zah; simp +decide only [go_sem, Nat.reduceAdd, hb4]
  subst h
  first | refine ZaG hcalm rfl hO.pre ev ⟨?_, rfl⟩ | refine Zbg hcalm rfl hO.pre ev ⟨?_, rfl⟩
  first | rfl | (simp +decide only [go_sem, Nat.reduceAdd, hb4]; done) | (simp +decide only [go_sem, Nat.reduceAdd, Vl.cs, Ty.cs, hb4]; done)
 have hb4 := hs.1
 refine sk [] hs hK2 ?_
 clear hK2
 refine rg [6] hs ?_
 apply Zah; simp +decide only [go_sem, Nat.reduceAdd, hb4]
 subst h
 first | refine ZaG hcalm rfl hO.pre ev ⟨?_, rfl⟩ | refine Zbg hcalm rfl hO.pre ev ⟨?_, rfl⟩
 first | rfl | (simp +decide only [go_sem, Nat.reduceAdd, hb4]; done) | (simp +decide only [go_sem, Nat.reduceAdd, Vl.cs, Ty.cs, hb4]; done)
theorem ZcT (w0 : World) (B : List (List AV)) (Rw : List RowA) (L : List LoopA) (a0 : Int) (a1 : Int) (a2 : Int) :
  ACalls Tryz.prog w0 109 [.val (.int .i64 a0), .val (.int .i64 a1), .val (.int .i64 a2)] ⟨B, Rw, L⟩ fun x st => x = .val (.int .i64 (ZaV a0 a1 a2)) ∧ st = ⟨B, Rw, L⟩ := Zm2 w0 B Rw L a0 a1 a2 _ rfl
def Zcu (a0 : Vl) : Int :=
 ZaV a0.int 0 1
theorem Zm0 (w0 : World) (B : List (List AV)) (Rw : List RowA) (L : List LoopA) (a0 : Vl) (r : Int) (h : Zcu a0 = r) :
  ACalls Tryz.prog w0 108 [.agg (a0.cs)] ⟨B, Rw, L⟩ fun x st => x = .val (.int .i64 r) ∧ st = ⟨B, Rw, L⟩ := by
 rw [Zcu] at h
 refine hd [.tmp 2] Tryz.func108 Tryz.ntmps108 fun M0 W0 hN hNR hNL hcalm hu hO hs => ?_
 simp only [Zav]
 refine rg [1] hs ?_
 refine rc 2 [2] hs ?_; intro K2 hK2
 refine Zaf _ (ZcT w0 _ _ _ a0.int 0 1) (hv hs) ?_
 refine ne hs hK2 ?_
 clear hK2
 apply Zah; simp +decide only [go_sem, Nat.reduceAdd]
 subst h
 first | refine ZaG hcalm rfl hO.pre ev ⟨?_, rfl⟩ | refine Zbg hcalm rfl hO.pre ev ⟨?_, rfl⟩
 first | rfl | (simp +decide only [go_sem, Nat.reduceAdd]; done) | (simp +decide only [go_sem, Nat.reduceAdd, Vl.cs, Ty.cs]; done)
theorem Zld (w0 : World) (B : List (List AV)) (Rw : List RowA) (L : List LoopA) (a0 : Vl) :
  ACalls Tryz.prog w0 108 [.agg (a0.cs)] ⟨B, Rw, L⟩ fun x st => x = .val (.int .i64 (Zcu a0)) ∧ st = ⟨B, Rw, L⟩ := Zm0 w0 B Rw L a0 _ rfl
def Zbp (a0 : Int) (a1 : Int) (a2 : Int) : Int :=
 if decide (a1 < a0) then
  a2
 else
  0
theorem Zq1 (w0 : World) (B : List (List AV)) (Rw : List RowA) (L : List LoopA) (a0 : Int) (a1 : Int) (a2 : Int) (r : Int) (h : Zbp a0 a1 a2 = r) :
  ACalls Tryz.prog w0 114 [.val (.int .i64 a0), .val (.int .i64 a1), .val (.int .i64 a2)] ⟨B, Rw, L⟩ fun x st => x = .val (.int .i64 r) ∧ st = ⟨B, Rw, L⟩ := by
 rw [Zbp] at h
 refine hd [.tmp 6] Tryz.func114 Tryz.ntmps114 fun M0 W0 hN hNR hNL hcalm hu hO hs => ?_
 simp only [Zav]
 refine rg [0, 1, 2] hs ?_
 apply Zab; intro K2 hK2
 refine rg [2, 9] hs ?_
 refine cnd h hs (fun hs h => ?_) (fun hs h => ?_)
 ·
  have hb4 := hs.1
  refine rg [6] hs ?_
  apply Zah; simp +decide only [go_sem, Nat.reduceAdd, hb4]
  subst h
  first | refine ZaG hcalm rfl hO.pre ev ⟨?_, rfl⟩ | refine Zbg hcalm rfl hO.pre ev ⟨?_, rfl⟩
  first | rfl | (simp +decide only [go_sem, Nat.reduceAdd, hb4]; done) | (simp +decide only [go_sem, Nat.reduceAdd, Vl.cs, Ty.cs, hb4]; done)
 have hb4 := hs.1
 refine sk [] hs hK2 ?_
 clear hK2
 refine rg [6] hs ?_
 apply Zah; simp +decide only [go_sem, Nat.reduceAdd, hb4]
 subst h
 first | refine ZaG hcalm rfl hO.pre ev ⟨?_, rfl⟩ | refine Zbg hcalm rfl hO.pre ev ⟨?_, rfl⟩
 first | rfl | (simp +decide only [go_sem, Nat.reduceAdd, hb4]; done) | (simp +decide only [go_sem, Nat.reduceAdd, Vl.cs, Ty.cs, hb4]; done)
theorem ZfA (w0 : World) (B : List (List AV)) (Rw : List RowA) (L : List LoopA) (a0 : Int) (a1 : Int) (a2 : Int) :
  ACalls Tryz.prog w0 114 [.val (.int .i64 a0), .val (.int .i64 a1), .val (.int .i64 a2)] ⟨B, Rw, L⟩ fun x st => x = .val (.int .i64 (Zbp a0 a1 a2)) ∧ st = ⟨B, Rw, L⟩ := Zq1 w0 B Rw L a0 a1 a2 _ rfl
def Zeq (a0 : Vl) : Option Int :=
 if a0.text.size ≤ maxLen then
  if !(Zc3 a0.text) then
   some (12)
  else
   if decide (((a0.list.length : Int)) = 0) then
    some (4)
   else
    some (Zbp ((a0.list.length : Int)) 1 3)
 else none
theorem Zk9 (w0 : World) (B : List (List AV)) (Rw : List RowA) (L : List LoopA) (a0 : Vl) (r : Int) (h : Zeq a0 = some r) :
  ACalls Tryz.prog w0 121 [.agg (a0.cs)] ⟨B, Rw, L⟩ fun x st => x = .val (.int .i64 r) ∧ st = ⟨B, Rw, L⟩ := by
 rw [Zeq] at h
 refine hd [.tmp 2] Tryz.func121 Tryz.ntmps121 fun M0 W0 hN hNR hNL hcalm hu hO hs => ?_
 simp only [Zav]
 refine rg [1] hs ?_
 apply Zab; intro K2 hK2
 apply Zad
 obtain ⟨hg4, h⟩ := Zac h
 refine rc 2 [1, 3] hs ?_; intro K3 hK3
 refine Zaf _ (Zhx w0 _ _ _ a0.text hg4) (hv hs) ?_
 refine ne hs hK3 ?_
 clear hK3
 refine cnd h hs (fun hs h => ?_) (fun hs h => ?_)
 ·
  refine rg [2] hs ?_
  exact rt h hs hcalm hO
 refine rg [1, 8] hs ?_
 refine cnd h hs (fun hs h => ?_) (fun hs h => ?_)
 ·
  refine rg [2] hs ?_
  exact rt h hs hcalm hO
 refine sk [1] hs hK2 ?_
 clear hK2
 refine rc 2 [2] hs ?_; intro K10 hK10
 refine Zaf _ (ZfA w0 _ _ _ ((a0.list.length : Int)) 1 3) (hv hs) ?_
 refine ne hs hK10 ?_
 clear hK10
 exact rt h hs hcalm hO
def ZcL (a0 : Vl) : Int :=
 ZaV a0.int ((-999999999999999)) 999999999999999
theorem Zmp (w0 : World) (B : List (List AV)) (Rw : List RowA) (L : List LoopA) (a0 : Vl) (r : Int) (h : ZcL a0 = r) :
  ACalls Tryz.prog w0 110 [.agg (a0.cs)] ⟨B, Rw, L⟩ fun x st => x = .val (.int .i64 r) ∧ st = ⟨B, Rw, L⟩ := by
 rw [ZcL] at h
 refine hd [.tmp 2] Tryz.func110 Tryz.ntmps110 fun M0 W0 hN hNR hNL hcalm hu hO hs => ?_
 simp only [Zav]
 refine rg [1] hs ?_
 refine rc 2 [2] hs ?_; intro K2 hK2
 refine Zaf _ (ZcT w0 _ _ _ a0.int ((-999999999999999)) 999999999999999) (hv hs) ?_
 refine ne hs hK2 ?_
 clear hK2
 apply Zah; simp +decide only [go_sem, Nat.reduceAdd]
 subst h
 first | refine ZaG hcalm rfl hO.pre ev ⟨?_, rfl⟩ | refine Zbg hcalm rfl hO.pre ev ⟨?_, rfl⟩
 first | rfl | (simp +decide only [go_sem, Nat.reduceAdd]; done) | (simp +decide only [go_sem, Nat.reduceAdd, Vl.cs, Ty.cs]; done)
theorem Zlk (w0 : World) (B : List (List AV)) (Rw : List RowA) (L : List LoopA) (a0 : Vl) :
  ACalls Tryz.prog w0 110 [.agg (a0.cs)] ⟨B, Rw, L⟩ fun x st => x = .val (.int .i64 (ZcL a0)) ∧ st = ⟨B, Rw, L⟩ := Zmp w0 B Rw L a0 _ rfl
def Zg2 (n : Nat)  : Option Int :=
 some (0)
def Zd3 (n : Nat) (a0 : List Int) : Nat → Int → Option Int
 | 0, _ => none
 | m + 1, x7_l6 =>
  if decide (x7_l6 < ((a0.length : Int))) then
   (idx a0 x7_l6).bind fun x12 =>
   if !(decide (x12 = 0)) then
    some (x12)
   else
    if I64 (x7_l6 + 1) then
     (Zd3 n a0 m) (x7_l6 + 1)
    else none
  else
   Zg2 n 
def Zgv (n : Nat) (a0 : List Int) : Option Int :=
 Zd3 n a0 n 0
theorem ZpF (w0 : World) (n : Nat) (B : List (List AV)) (Rw : List RowA) (L : List LoopA) (a0 : List Int) (r : Int) (h : Zgv n a0 = some r) :
  ACalls Tryz.prog w0 112 [.list (a0.map avI) .none] ⟨B, Rw, L⟩ fun x st => x = .val (.int .i64 r) ∧ st = ⟨B, Rw, L⟩ := by
 rw [Zgv] at h
 refine hd [.tmp 2] Tryz.func112 Tryz.ntmps112 fun M0 W0 hN hNR hNL hcalm hu hO hs => ?_
 simp only [Zav]
 refine rg [0] hs ?_
 refine Zai (fun e st => Ck e st B Rw L [] [] [] (Zg2 n  = some r)) ?_ ?_
 ·
  intro K4 hK4
  refine rg [5, 6, 7] hs ?_
  apply Zad
  refine Zal (fun m e st => ∃ (x7_l6 : Int), Ck e st B Rw L [(5, true, .list (a0.map avI) .none), (6, true, .val (.int .i64 ((a0.length : Int)))), (7, true, .val (.int .i64 x7_l6))] [] [] (Zd3 n a0 m x7_l6 = some r)) n ⟨0, ([]), Rw, ef hs, ef hs, hO, h⟩ ?_
  rintro ml6 e st ⟨x7_l6, Xl6, Rl6, rfl, rfl, hO, h⟩ Ul6 Vl6
  cases ml6 with
  | zero => cases h
  | succ ml6 =>
  rw [Zd3] at h
  refine td hN hNR hNL hcalm hO ?_
  refine rg [5, 6, 7, 8] hs ?_
  apply Zab; intro K8 hK8
  refine cnd h hs (fun hs h => ?_) (fun hs h => ?_)
  rotate_left
  ·
   refine sx [] hs hK4 ?_
   exact ⟨([]), Rl6, ef hs, ef hs, hO, h⟩
  refine sk [5, 6, 7] hs hK8 ?_
  clear hK8
  apply Zab; intro K10 hK10
  apply Zad
  obtain ⟨x12, hx12, h⟩ := bind_some h
  obtain ⟨hx12a, hx12b, hx12c⟩ := Zar hx12
  have hx12d := Zay (f := avI) hx12c
  have hs := And.intro hx12d hs
  refine rg [4, 5, 6, 7] hs ?_
  refine rg [4, 5, 6, 7, 12] hs ?_
  refine cnd h hs (fun hs h => ?_) (fun hs h => ?_)
  ·
   refine rg [2] hs ?_
   exact rt h hs hcalm hO
  refine sk [5, 6, 7] hs hK10 ?_
  clear hK10
  obtain ⟨hg16, h⟩ := Zac h
  refine rl [5, 6, 7] hs (fun e s => Vl6 ml6 e s (Nat.lt_succ_self _)) ?_
  exact ⟨(x7_l6 + 1), ([]), Rl6, ef hs, ef hs, hO, h⟩
 ·
  clear h; rintro e st ⟨Xk3, Rk3, rfl, rfl, hO, h⟩
  rw [Zg2] at h
  refine td hN hNR hNL hcalm hO ?_
  refine rg [2] hs ?_
  exact rt h hs hcalm hO
def ZeX (n : Nat) (a0 : Vl) : Option Int :=
 (Zgv n ([ZaV a0.int ((-999999999999999)) 999999999999999, ZaV a0.scale 0 12])).bind fun y3 =>
 some (y3)
theorem Zmd (w0 : World) (n : Nat) (B : List (List AV)) (Rw : List RowA) (L : List LoopA) (a0 : Vl) (r : Int) (h : ZeX n a0 = some r) :
  ACalls Tryz.prog w0 111 [.agg (a0.cs)] ⟨B, Rw, L⟩ fun x st => x = .val (.int .i64 r) ∧ st = ⟨B, Rw, L⟩ := by
 rw [ZeX] at h
 refine hd [.tmp 2] Tryz.func111 Tryz.ntmps111 fun M0 W0 hN hNR hNL hcalm hu hO hs => ?_
 simp only [Zav]
 refine rg [1] hs ?_
 apply Zab; intro K2 hK2
 obtain ⟨y3, hy3, h⟩ := bind_some h
 apply Zat mix 9 4 1 [2] (by kernel_rfl)
 rw [Zaa]; simp +decide only [go_sem, Nat.reduceAdd]
 (repeat' apply And.intro) <;> first | refine Zaf _ (ZcT w0 _ _ _ a0.int ((-999999999999999)) 999999999999999) (hv hs) ?_ | exact cl
 rw [Zaa]; simp +decide only [go_sem, Nat.reduceAdd]
 (repeat' apply And.intro) <;> first | refine Zaf _ (ZcT w0 _ _ _ a0.scale 0 12) (hv hs) ?_ | exact cl
 rw [Zaa]; simp +decide only [go_sem, Nat.reduceAdd]
 (repeat' apply And.intro) <;> first | refine Zaf _ (ZpF w0 n _ _ _ ([ZaV a0.int ((-999999999999999)) 999999999999999, ZaV a0.scale 0 12]) _ hy3) (hv hs) ?_ | exact cl
 rw [Zaa]; simp +decide only [go_sem, Nat.reduceAdd]
 (repeat' with_reducible apply And.intro) <;> first | (rw [Zaa]; simp +decide only [go_sem, Nat.reduceAdd]) | exact cl
 (repeat' apply And.intro) <;> first | refine hK2 _ _ ?_ | exact cl
 clear hK2
 exact rt h hs hcalm hO
def Zdp  (x3_k4 : Int) : Option Int :=
 some (x3_k4)
def ZeI (a0 : Vl) : Option Int :=
 if decide ((Zbp ((a0.text.size : Int)) 1024 5) = 0) then
  if a0.text.size ≤ maxLen then
   if !(Lib.validD a0.text.data.toList) then
    Zdp  16
   else
    Zdp  (Zbp ((a0.text.size : Int)) 1024 5)
  else none
 else
  Zdp  (Zbp ((a0.text.size : Int)) 1024 5)
theorem Znc (w0 : World) (hT : Lib.Utf8Tabs 0 1 w0) (B : List (List AV)) (Rw : List RowA) (L : List LoopA) (a0 : Vl) (r : Int) (h : ZeI a0 = some r) :
  ACalls Tryz.prog w0 113 [.agg (a0.cs)] ⟨B, Rw, L⟩ fun x st => x = .val (.int .i64 r) ∧ st = ⟨B, Rw, L⟩ := by
 rw [ZeI] at h
 refine hd [.tmp 2] Tryz.func113 Tryz.ntmps113 fun M0 W0 hN hNR hNL hcalm hu hO hs => ?_
 simp only [Zav]
 refine rg [1] hs ?_
 refine rc 2 [1, 3] hs ?_; intro K2 hK2
 refine Zaf _ (ZfA w0 _ _ _ ((a0.text.size : Int)) 1024 5) (hv hs) ?_
 refine ne hs hK2 ?_
 clear hK2
 refine Zai (fun e st => ∃ (x3_k4 : Int), Ck e st B Rw L [(3, true, .val (.int .i64 x3_k4))] [a0.cs] [] (Zdp  x3_k4 = some r)) ?_ ?_
 ·
  intro K5 hK5
  apply Zab; intro K6 hK6
  rcases Bool.eq_false_or_eq_true (decide ((Zbp ((a0.text.size : Int)) 1024 5) = 0)) with hf7 | hf7
  ·
   replace h := Za2 h hf7
   obtain ⟨hg8, h⟩ := Zac h
   have hs := And.intro hf7 hs
   refine rk 2 [3, 15] hs ?_
   refine Zaf _ (ZkS w0 _ _ _ hT a0.text hg8) (hv hs) ?_
   refine ne hs hK6 ?_
   clear hK6
   refine cnd h hs (fun hs h => ?_) (fun hs h => ?_)
   ·
    refine rl [3] hs hK5 ?_
    exact ⟨16, ([]), Rw, ef hs, ef hs, hO, h⟩
   refine sk [3] hs hK5 ?_
   exact ⟨(Zbp ((a0.text.size : Int)) 1024 5), ([]), Rw, ef hs, ef hs, hO, h⟩
  ·
   replace h := ZaZ h hf7
   apply Zae 2 [3, 15]
   rw [Zaa]; simp +decide only [go_sem, Nat.reduceAdd, hf7]
   (repeat' apply And.intro) <;> first | refine ZaL ?_ | exact cl
   rw [Zaa]; simp +decide only [go_sem, Nat.reduceAdd, hf7]
   (repeat' apply And.intro) <;> first | refine hK6 _ _ ?_ | exact cl
   clear hK6
   have hs := And.intro hf7 hs
   refine Zaz false ev (ef hs) (fun hb10 => by cases hb10) (fun hb10 => ?_)
   refine sk [3] hs hK5 ?_
   exact ⟨(Zbp ((a0.text.size : Int)) 1024 5), ([]), Rw, ef hs, ef hs, hO, h⟩
 ·
  clear h; rintro e st ⟨x3_k4, Xk4, Rk4, rfl, rfl, hO, h⟩
  rw [Zdp] at h
  refine td hN hNR hNL hcalm hO ?_
  refine rg [2] hs ?_
  exact rt h hs hcalm hO
def ZcG (a0 : Vl) : Int :=
 Zbp ((a0.text.size : Int)) 1024 5
theorem Zns (w0 : World) (B : List (List AV)) (Rw : List RowA) (L : List LoopA) (a0 : Vl) (r : Int) (h : ZcG a0 = r) :
  ACalls Tryz.prog w0 116 [.agg (a0.cs)] ⟨B, Rw, L⟩ fun x st => x = .val (.int .i64 r) ∧ st = ⟨B, Rw, L⟩ := by
 rw [ZcG] at h
 refine hd [.tmp 2] Tryz.func116 Tryz.ntmps116 fun M0 W0 hN hNR hNL hcalm hu hO hs => ?_
 simp only [Zav]
 refine rg [1] hs ?_
 refine rc 2 [2] hs ?_; intro K2 hK2
 refine Zaf _ (ZfA w0 _ _ _ ((a0.text.size : Int)) 1024 5) (hv hs) ?_
 refine ne hs hK2 ?_
 clear hK2
 apply Zah; simp +decide only [go_sem, Nat.reduceAdd]
 subst h
 first | refine ZaG hcalm rfl hO.pre ev ⟨?_, rfl⟩ | refine Zbg hcalm rfl hO.pre ev ⟨?_, rfl⟩
 first | rfl | (simp +decide only [go_sem, Nat.reduceAdd]; done) | (simp +decide only [go_sem, Nat.reduceAdd, Vl.cs, Ty.cs]; done)
theorem ZlG (w0 : World) (B : List (List AV)) (Rw : List RowA) (L : List LoopA) (a0 : Vl) :
  ACalls Tryz.prog w0 116 [.agg (a0.cs)] ⟨B, Rw, L⟩ fun x st => x = .val (.int .i64 (ZcG a0)) ∧ st = ⟨B, Rw, L⟩ := Zns w0 B Rw L a0 _ rfl
def ZcN (a0 : Vl) : Int :=
 ZaV a0.int ((-719162)) 2932896
theorem Zms (w0 : World) (B : List (List AV)) (Rw : List RowA) (L : List LoopA) (a0 : Vl) (r : Int) (h : ZcN a0 = r) :
  ACalls Tryz.prog w0 117 [.agg (a0.cs)] ⟨B, Rw, L⟩ fun x st => x = .val (.int .i64 r) ∧ st = ⟨B, Rw, L⟩ := by
 rw [ZcN] at h
 refine hd [.tmp 2] Tryz.func117 Tryz.ntmps117 fun M0 W0 hN hNR hNL hcalm hu hO hs => ?_
 simp only [Zav]
 refine rg [1] hs ?_
 refine rc 2 [2] hs ?_; intro K2 hK2
 refine Zaf _ (ZcT w0 _ _ _ a0.int ((-719162)) 2932896) (hv hs) ?_
 refine ne hs hK2 ?_
 clear hK2
 apply Zah; simp +decide only [go_sem, Nat.reduceAdd]
 subst h
 first | refine ZaG hcalm rfl hO.pre ev ⟨?_, rfl⟩ | refine Zbg hcalm rfl hO.pre ev ⟨?_, rfl⟩
 first | rfl | (simp +decide only [go_sem, Nat.reduceAdd]; done) | (simp +decide only [go_sem, Nat.reduceAdd, Vl.cs, Ty.cs]; done)
theorem Zlw (w0 : World) (B : List (List AV)) (Rw : List RowA) (L : List LoopA) (a0 : Vl) :
  ACalls Tryz.prog w0 117 [.agg (a0.cs)] ⟨B, Rw, L⟩ fun x st => x = .val (.int .i64 (ZcN a0)) ∧ st = ⟨B, Rw, L⟩ := Zms w0 B Rw L a0 _ rfl
def Zcz (a0 : Vl) : Int :=
 ZaV a0.int ((-62135596800000)) 253402300799999
theorem Zmj (w0 : World) (B : List (List AV)) (Rw : List RowA) (L : List LoopA) (a0 : Vl) (r : Int) (h : Zcz a0 = r) :
  ACalls Tryz.prog w0 118 [.agg (a0.cs)] ⟨B, Rw, L⟩ fun x st => x = .val (.int .i64 r) ∧ st = ⟨B, Rw, L⟩ := by
 rw [Zcz] at h
 refine hd [.tmp 2] Tryz.func118 Tryz.ntmps118 fun M0 W0 hN hNR hNL hcalm hu hO hs => ?_
 simp only [Zav]
 refine rg [1] hs ?_
 refine rc 2 [2] hs ?_; intro K2 hK2
 refine Zaf _ (ZcT w0 _ _ _ a0.int ((-62135596800000)) 253402300799999) (hv hs) ?_
 refine ne hs hK2 ?_
 clear hK2
 apply Zah; simp +decide only [go_sem, Nat.reduceAdd]
 subst h
 first | refine ZaG hcalm rfl hO.pre ev ⟨?_, rfl⟩ | refine Zbg hcalm rfl hO.pre ev ⟨?_, rfl⟩
 first | rfl | (simp +decide only [go_sem, Nat.reduceAdd]; done) | (simp +decide only [go_sem, Nat.reduceAdd, Vl.cs, Ty.cs]; done)
theorem ZlD (w0 : World) (B : List (List AV)) (Rw : List RowA) (L : List LoopA) (a0 : Vl) :
  ACalls Tryz.prog w0 118 [.agg (a0.cs)] ⟨B, Rw, L⟩ fun x st => x = .val (.int .i64 (Zcz a0)) ∧ st = ⟨B, Rw, L⟩ := Zmj w0 B Rw L a0 _ rfl
def ZcJ (a0 : Vl) : Int :=
 Zbp ((a0.list.length : Int)) 256 9
theorem Zmo (w0 : World) (B : List (List AV)) (Rw : List RowA) (L : List LoopA) (a0 : Vl) (r : Int) (h : ZcJ a0 = r) :
  ACalls Tryz.prog w0 119 [.agg (a0.cs)] ⟨B, Rw, L⟩ fun x st => x = .val (.int .i64 r) ∧ st = ⟨B, Rw, L⟩ := by
 rw [ZcJ] at h
 refine hd [.tmp 2] Tryz.func119 Tryz.ntmps119 fun M0 W0 hN hNR hNL hcalm hu hO hs => ?_
 simp only [Zav]
 refine rg [1] hs ?_
 refine rc 2 [2] hs ?_; intro K2 hK2
 refine Zaf _ (ZfA w0 _ _ _ ((a0.list.length : Int)) 256 9) (hv hs) ?_
 refine ne hs hK2 ?_
 clear hK2
 apply Zah; simp +decide only [go_sem, Nat.reduceAdd]
 subst h
 first | refine ZaG hcalm rfl hO.pre ev ⟨?_, rfl⟩ | refine Zbg hcalm rfl hO.pre ev ⟨?_, rfl⟩
 first | rfl | (simp +decide only [go_sem, Nat.reduceAdd]; done) | (simp +decide only [go_sem, Nat.reduceAdd, Vl.cs, Ty.cs]; done)
theorem Zlu (w0 : World) (B : List (List AV)) (Rw : List RowA) (L : List LoopA) (a0 : Vl) :
  ACalls Tryz.prog w0 119 [.agg (a0.cs)] ⟨B, Rw, L⟩ fun x st => x = .val (.int .i64 (ZcJ a0)) ∧ st = ⟨B, Rw, L⟩ := Zmo w0 B Rw L a0 _ rfl
def Zff (n : Nat)  : Option Int :=
 some (0)
def ZbQ (n : Nat) (a0 : Vl) : Nat → Int → Option Int
 | 0, _ => none
 | m + 1, x16_l11 =>
  if decide (x16_l11 < ((a0.fields.length : Int))) then
   (idx a0.fields x16_l11).bind fun x17 =>
   if x17.1.size ≤ maxLen then
    if !(Zc3 x17.1) then
     some (12)
    else
     if decide (0 < x16_l11) then
      if I64 (x16_l11 - 1) then
       (idx a0.fields (x16_l11 - 1)).bind fun x25 =>
       if sEq x17.1 x25.1 then
        some (7)
       else
        if I64 (x16_l11 - 1) then
         if sLt x17.1 x25.1 then
          some (24)
         else
          if I64 (x16_l11 + 1) then
           (ZbQ n a0 m) (x16_l11 + 1)
          else none
        else none
      else none
     else
      if I64 (x16_l11 + 1) then
       (ZbQ n a0 m) (x16_l11 + 1)
      else none
   else none
  else
   Zff n 
def ZeS (n : Nat) (a0 : Vl) : Option Int :=
 if !(decide ((Zbp ((a0.fields.length : Int)) 64 9) = 0)) then
  some (Zbp ((a0.fields.length : Int)) 64 9)
 else
  ZbQ n a0 n 0
theorem Zl1 (w0 : World) (n : Nat) (B : List (List AV)) (Rw : List RowA) (L : List LoopA) (a0 : Vl) (r : Int) (h : ZeS n a0 = some r) :
  ACalls Tryz.prog w0 120 [.agg (a0.cs)] ⟨B, Rw, L⟩ fun x st => x = .val (.int .i64 r) ∧ st = ⟨B, Rw, L⟩ := by
 rw [ZeS] at h
 refine hd [.tmp 2] Tryz.func120 Tryz.ntmps120 fun M0 W0 hN hNR hNL hcalm hu hO hs => ?_
 simp only [Zav]
 refine rg [1] hs ?_
 apply Zab; intro K2 hK2
 refine rc 2 [1, 3] hs ?_; intro K3 hK3
 refine Zaf _ (ZfA w0 _ _ _ ((a0.fields.length : Int)) 64 9) (hv hs) ?_
 refine ne hs hK3 ?_
 clear hK3
 refine rg [1, 3, 11] hs ?_
 refine cnd h hs (fun hs h => ?_) (fun hs h => ?_)
 ·
  have hb5 := hs.1
  refine rg [2] hs ?_
  exact rt h hs hcalm hO
 have hb5 := hs.1
 refine sk [1] hs hK2 ?_
 clear hK2
 refine Zai (fun e st => Ck e st B Rw L [] [a0.cs] [] (Zff n  = some r)) ?_ ?_
 ·
  intro K9 hK9
  refine rg [1, 14, 15, 16] hs ?_
  apply Zad
  refine Zal (fun m e st => ∃ (x16_l11 : Int), Ck e st B Rw L [(1, true, .box B.length 0), (14, true, .list (a0.fields.map avF) .none), (15, true, .val (.int .i64 ((a0.fields.length : Int)))), (16, true, .val (.int .i64 x16_l11))] [a0.cs] [] (ZbQ n a0 m x16_l11 = some r)) n ⟨0, ([]), Rw, ef hs, ef hs, hO, h⟩ ?_
  rintro ml11 e st ⟨x16_l11, Xl11, Rl11, rfl, rfl, hO, h⟩ Ul11 Vl11
  cases ml11 with
  | zero => cases h
  | succ ml11 =>
  rw [ZbQ] at h
  refine td hN hNR hNL hcalm hO ?_
  refine rg [1, 14, 15, 16, 17] hs ?_
  apply Zab; intro K13 hK13
  refine cnd h hs (fun hs h => ?_) (fun hs h => ?_)
  rotate_left
  ·
   have hb14 := hs.1
   refine sx [] hs hK9 ?_
   exact ⟨([]), Rl11, ef hs, ef hs, hO, h⟩
  have hb14 := hs.1
  refine sk [1, 14, 15, 16] hs hK13 ?_
  clear hK13
  apply Zab; intro K15 hK15
  apply Zad
  obtain ⟨x17, hx17, h⟩ := bind_some h
  obtain ⟨hx17a, hx17b, hx17c⟩ := Zar hx17
  have hx17d := Zay (f := avF) hx17c
  have hs := And.intro hx17d hs
  refine rg [1, 4, 5, 14, 15, 16] hs ?_
  apply Zad
  obtain ⟨hg19, h⟩ := Zac h
  refine rc 2 [1, 4, 5, 14, 15, 16, 21] hs ?_; intro K18 hK18
  refine Zaf _ (Zhx w0 _ _ _ x17.1 hg19) (hv hs) ?_
  refine ne hs hK18 ?_
  clear hK18
  refine cnd h hs (fun hs h => ?_) (fun hs h => ?_)
  ·
   have hb20 := hs.1
   refine rg [2] hs ?_
   exact rt h hs hcalm hO
  have hb20 := hs.1
  apply Zab; intro K22 hK22
  rcases Bool.eq_false_or_eq_true (decide (0 < x16_l11)) with hf23 | hf23
  ·
   replace h := Za2 h hf23
   obtain ⟨hg24, h⟩ := Zac h
   obtain ⟨x25, hx25a, hx25b, hx25d, h⟩ := ix avF h
   apply Zat mix 15 1 1 [1, 4, 5, 14, 15, 16, 26] (by kernel_rfl)
   rw [Zaa]; simp +decide only [go_sem, Nat.reduceAdd, hb5, hb14, hx17d, hb20, hf23, hx25d]
   (repeat' with_reducible apply And.intro) <;> first | (rw [Zaa]; simp +decide only [go_sem, Nat.reduceAdd, hb5, hb14, hx17d, hb20, hf23, hx25d]) | exact cl
   (repeat' apply And.intro) <;> first | refine hK22 _ _ ?_ | exact cl
   clear hK22
   have hs := And.intro hf23 hs
   have hs := And.intro hx25d hs
   refine cnd h hs (fun hs h => ?_) (fun hs h => ?_)
   ·
    refine rg [2] hs ?_
    exact rt h hs hcalm hO
   obtain ⟨hg29, h⟩ := Zac h
   refine dg 15 1 1 [1, 14, 15, 16, 41] hs mix ?_
   refine cnd h hs (fun hs h => ?_) (fun hs h => ?_)
   ·
    refine rg [2] hs ?_
    exact rt h hs hcalm hO
   refine sk [1, 14, 15, 16] hs hK15 ?_
   clear hK15
   obtain ⟨hg32, h⟩ := Zac h
   refine rl [1, 14, 15, 16] hs (fun e s => Vl11 ml11 e s (Nat.lt_succ_self _)) ?_
   exact ⟨(x16_l11 + 1), ([.val (.string x17.1) :: (x17.2.cs)]), Rl11, ef hs, ef hs, hO, h⟩
  ·
   replace h := ZaZ h hf23
   apply Zat mix 15 1 1 [1, 4, 5, 14, 15, 16, 26] (by kernel_rfl)
   rw [Zaa]; simp +decide only [go_sem, Nat.reduceAdd, hb5, hb14, hx17d, hb20, hf23]
   (repeat' with_reducible apply And.intro) <;> first | (rw [Zaa]; simp +decide only [go_sem, Nat.reduceAdd, hb5, hb14, hx17d, hb20, hf23]) | exact cl
   (repeat' apply And.intro) <;> first | refine hK22 _ _ ?_ | exact cl
   clear hK22
   have hs := And.intro hf23 hs
   refine Zaz false ev (ef hs) (fun hb33 => by cases hb33) (fun hb33 => ?_)
   refine dg 15 1 1 [1, 14, 15, 16, 41] hs mix ?_
   refine Zaz false ev (ef hs) (fun hb35 => by cases hb35) (fun hb35 => ?_)
   refine sk [1, 14, 15, 16] hs hK15 ?_
   clear hK15
   obtain ⟨hg36, h⟩ := Zac h
   refine rl [1, 14, 15, 16] hs (fun e s => Vl11 ml11 e s (Nat.lt_succ_self _)) ?_
   exact ⟨(x16_l11 + 1), ([.val (.string x17.1) :: (x17.2.cs)]), Rl11, ef hs, ef hs, hO, h⟩
 ·
  clear h; rintro e st ⟨Xk8, Rk8, rfl, rfl, hO, h⟩
  rw [Zff] at h
  refine td hN hNR hNL hcalm hO ?_
  refine rg [2] hs ?_
  exact rt h hs hcalm hO
def ZgL (a0 : Vl) : Bool :=
 (((((((((decide (a0.kind = 1)) || (decide (a0.kind = 2))) || (decide (a0.kind = 6))) || (decide (a0.kind = 7))) || (decide (a0.kind = 3))) || (decide (a0.int = 0))) && ((decide (a0.kind = 3)) || (decide (a0.scale = 0)))) && ((((decide (a0.kind = 4)) || (decide (a0.kind = 5))) || (decide (a0.kind = 10))) || (sEq a0.text ((⟨#[]⟩ : ByteArray))))) && (((decide (a0.kind = 8)) || (decide (a0.kind = 10))) || (decide (((a0.list.length : Int)) = 0)))) && ((decide (a0.kind = 9)) || (decide (((a0.fields.length : Int)) = 0)))
theorem ZqF (w0 : World) (B : List (List AV)) (Rw : List RowA) (L : List LoopA) (a0 : Vl) (r : Bool) (h : ZgL a0 = r) :
  ACalls Tryz.prog w0 63 [.agg (a0.cs)] ⟨B, Rw, L⟩ fun x st => x = .val (.bool r) ∧ st = ⟨B, Rw, L⟩ := by
 rw [ZgL] at h
 refine hd [.tmp 2] Tryz.func63 Tryz.ntmps63 fun M0 W0 hN hNR hNL hcalm hu hO hs => ?_
 simp only [Zav]
 refine rg [1] hs ?_
 refine rg [1, 3] hs ?_
 refine rg [1, 3, 4] hs ?_
 refine rg [1, 3, 4, 5] hs ?_
 refine rg [2] hs ?_
 apply Zah; simp +decide only [go_sem, Nat.reduceAdd]
 subst h
 first | refine ZaG hcalm rfl hO.pre ev ⟨?_, rfl⟩ | refine Zbg hcalm rfl hO.pre ev ⟨?_, rfl⟩
 first | rfl | (simp +decide only [go_sem, Nat.reduceAdd]; done) | (simp +decide only [go_sem, Nat.reduceAdd, Vl.cs, Ty.cs]; done)
theorem Zpl (w0 : World) (B : List (List AV)) (Rw : List RowA) (L : List LoopA) (a0 : Vl) :
  ACalls Tryz.prog w0 63 [.agg (a0.cs)] ⟨B, Rw, L⟩ fun x st => x = .val (.bool (ZgL a0)) ∧ st = ⟨B, Rw, L⟩ := ZqF w0 B Rw L a0 _ rfl
def ZaY (n : Nat)  : List (Nat × Vl) → Int → Option Int
 | [], b3_r7 =>
  some (0)
 | p_r7 :: rest, b3_r7 =>
  if I64 (b3_r7 + 1) then
   if decide (4096 < (b3_r7 + 1)) then
    some (9)
   else
    if decide (8 < ((p_r7.1 : Int))) then
     some (23)
    else
     if ZbB p_r7.2 then
      some (19)
     else
      if (decide (p_r7.2.kind < 1)) || (decide (10 < p_r7.2.kind)) then
       some (11)
      else
       if !(ZgL p_r7.2) then
        some (3)
       else
        if decide (p_r7.2.kind = 0) then
         none
        else
         if decide (p_r7.2.kind = 1) then
          if !(decide ((Zcu p_r7.2) = 0)) then
           some (Zcu p_r7.2)
          else
           (ZaY n rest) (b3_r7 + 1)
         else
          if decide (p_r7.2.kind = 2) then
           if !(decide ((ZcL p_r7.2) = 0)) then
            some (ZcL p_r7.2)
           else
            (ZaY n rest) (b3_r7 + 1)
          else
           if decide (p_r7.2.kind = 3) then
            (ZeX n p_r7.2).bind fun y42 =>
            if !(decide (y42 = 0)) then
             some (y42)
            else
             (ZaY n rest) (b3_r7 + 1)
           else
            if decide (p_r7.2.kind = 4) then
             (ZeI p_r7.2).bind fun y48 =>
             if !(decide (y48 = 0)) then
              some (y48)
             else
              (ZaY n rest) (b3_r7 + 1)
            else
             if decide (p_r7.2.kind = 5) then
              if !(decide ((ZcG p_r7.2) = 0)) then
               some (ZcG p_r7.2)
              else
               (ZaY n rest) (b3_r7 + 1)
             else
              if decide (p_r7.2.kind = 6) then
               if !(decide ((ZcN p_r7.2) = 0)) then
                some (ZcN p_r7.2)
               else
                (ZaY n rest) (b3_r7 + 1)
              else
               if decide (p_r7.2.kind = 7) then
                if !(decide ((Zcz p_r7.2) = 0)) then
                 some (Zcz p_r7.2)
                else
                 (ZaY n rest) (b3_r7 + 1)
               else
                if decide (p_r7.2.kind = 8) then
                 if !(decide ((ZcJ p_r7.2) = 0)) then
                  some (ZcJ p_r7.2)
                 else
                  (ZaY n rest) (b3_r7 + 1)
                else
                 if decide (p_r7.2.kind = 9) then
                  (ZeS n p_r7.2).bind fun y74 =>
                  if !(decide (y74 = 0)) then
                   some (y74)
                  else
                   (ZaY n rest) (b3_r7 + 1)
                 else
                  if decide (p_r7.2.kind = 10) then
                   (Zeq p_r7.2).bind fun y80 =>
                   if !(decide (y80 = 0)) then
                    some (y80)
                   else
                    (ZaY n rest) (b3_r7 + 1)
                  else
                   none
  else none
def ZeP (n : Nat) (a0 : Vl) : Option Int :=
 if a0.size < 1048576 then
  ZaY n (Zge 1 a0) 0
 else none
theorem ZiF (w0 : World) (hT : Lib.Utf8Tabs 0 1 w0) (n : Nat) (B : List (List AV)) (Rw : List RowA) (L : List LoopA) (a0 : Vl) (r : Int) (h : ZeP n a0 = some r) :
  ACalls Tryz.prog w0 22 [.agg (a0.cs)] ⟨B, Rw, L⟩ fun x st => x = .val (.int .i64 r) ∧ st = ⟨B, Rw, L⟩ := by
 rw [ZeP] at h
 refine hd [.cell 2 32] Tryz.func22 Tryz.ntmps22 fun M0 W0 hN hNR hNL hcalm hu hO hs => ?_
 simp only [Zav]
 refine rg [1, 2] hs ?_
 apply Zab; intro K2 hK2
 apply Zae 2 [1, 2, 3]
 rw [Zaa]; simp +decide only [go_sem, Nat.reduceAdd, Zni]
 (repeat' apply And.intro) <;> first | refine Zaf _ (ZsK w0 _ _ _ ) (by first | rfl | (simp +decide only [go_sem, Nat.reduceAdd, Zni]; done) | (simp +decide only [go_sem, Nat.reduceAdd, Vl.cs, Ty.cs, Zni]; done)) ?_ | exact cl
 rw [Zaa]; simp +decide only [go_sem, Nat.reduceAdd, Zni]
 (repeat' apply And.intro) <;> first | refine hK2 _ _ ?_ | exact cl
 clear hK2
 refine rg [1, 2, 3, 4] hs ?_
 apply Zab; intro K4 hK4
 refine rc 2 [2, 3, 4, 10] hs ?_; intro K5 hK5
 refine Zca _ (ZjD w0 _ _ _ a0) (hv hs) ?_; rintro _ _ ⟨rfl, rfl⟩
 refine ne hs hK5 ?_
 clear hK5
 apply Zad
 obtain ⟨hg6, h⟩ := Zac h
 refine ZmK (Zgh a0) (fun st => st.boxes[(B.length + 4)]? = some a0.cs) (fun i st => ∃ (b3_r7 : Int) (Rr7 : List RowA), st = ⟨B ++ ([a0.cs, [.val (.int .i64 0)], [.val .nilFunc, .clo 108 [], .clo 110 [], .clo 111 [], .clo 113 [], .clo 116 [], .clo 117 [], .clo 118 [], .clo 119 [], .clo 120 [], .clo 121 []], [.val (.int .i64 b3_r7)], a0.cs]), Rr7, L⟩ ∧ Owns Rw Rr7 [] ∧ ZaY n ((Zge 1 a0).drop i) b3_r7 = some r) (fun ex st => ex = .ret ∧ ∃ (z0 : List AV) (z2 : List AV) (z3 : List AV) (z4 : List AV) (rows : List RowA), st = ⟨B ++ [z0, [.val (.int .i64 r)], z2, z3, z4], rows, L⟩ ∧ Owns Rw rows []) ev ev (Zh8 w0 a0 hg6 _) (fun x hx => ZkY a0 x hx) (by decide) ?_ ⟨0, Rw, ef hs, hO, h⟩ (fun _ _ h => .inl h.1) ?_ ?_ ?_
 ·
  rintro i st la ⟨b3_r7, Rr7, rfl, hO, h⟩ _ _; simp +decide [St.push]
 ·
  rintro i s1 ⟨XB, XR, XL⟩ x M1 W1 l la la' hX hI hlike hloops hx hra K hK
  obtain ⟨p_r7, hpi, rfl, hi⟩ := ZkN a0 i x hx
  (try simp only at hX)
  subst hX
  obtain ⟨b3_r7, Rr7, rfl, hO, h⟩ := hI
  rw [Zoq hpi, ZaY] at h
  have hra0_r7 := hO
  simp only [St.ext, St.push, List.append_assoc, List.append_nil]
  refine rg [2, 3, 4, 5, 12] hs ?_
  apply Zae 1 [2, 3, 4, 5, 6]
  rw [Zaa]; simp +decide only [go_sem, Nat.reduceAdd]
  (repeat' apply And.intro) <;> first | refine hK _ _ (by simp [St.ext, St.push]) (fun KQ hKQ => ?_) | exact cl
  clear hK
  dsimp only [St.ext, St.push]
  apply Zad
  obtain ⟨hg10, h⟩ := Zac h
  refine rg [2, 3, 4, 5, 6] hs ?_
  apply Zab; intro K11 hK11
  apply Zad
  refine rg [2, 3, 5, 6, 15] hs ?_
  refine cnd h hs (fun hs h => ?_) (fun hs h => ?_)
  ·
   have hb13 := hs.1
   refine rg [2] hs ?_
   apply Zah; simp +decide only [go_sem, Nat.reduceAdd, hb13]
   have hgt := Option.some.inj h; subst hgt
   refine hKQ _ _ _ ⟨⟨B ++ [a0.cs, [.val (.int .i64 9)], [.val .nilFunc, .clo 108 [], .clo 110 [], .clo 111 [], .clo 113 [], .clo 116 [], .clo 117 [], .clo 118 [], .clo 119 [], .clo 120 [], .clo 121 []], [.val (.int .i64 (b3_r7 + 1))], a0.cs], Rr7, L⟩, [p_r7.2.cs], by first | rfl | (simp only [List.append_assoc, List.append_nil, List.cons_append, List.nil_append]; done), ⟨by simp, by first | exact Nat.le_refl _ | (have := hO.len; simp; omega), rfl⟩, rfl, ⟨rfl, _, _, _, _, Rr7, ef hs, hO.sub (List.nil_sublist _)⟩, ?_⟩
   exact .inr (ZaE hra hra0_r7 hO rfl (by have := hO.len; have := hra0_r7.len; first | exact Nat.le_refl _ | omega) (by simp only [List.append_assoc, List.cons_append, List.nil_append]) (by (simp +decide only [go_sem, Nat.reduceAdd]) <;> (try (repeat' apply And.intro)) <;> first | omega | assumption))
  have hb13 := hs.1
  refine rg [2, 3, 6, 18] hs ?_
  refine cnd h hs (fun hs h => ?_) (fun hs h => ?_)
  ·
   have hb16 := hs.1
   refine rg [2] hs ?_
   apply Zah; simp +decide only [go_sem, Nat.reduceAdd, hb13, hb16]
   have hgt := Option.some.inj h; subst hgt
   refine hKQ _ _ _ ⟨⟨B ++ [a0.cs, [.val (.int .i64 23)], [.val .nilFunc, .clo 108 [], .clo 110 [], .clo 111 [], .clo 113 [], .clo 116 [], .clo 117 [], .clo 118 [], .clo 119 [], .clo 120 [], .clo 121 []], [.val (.int .i64 (b3_r7 + 1))], a0.cs], Rr7, L⟩, [p_r7.2.cs], by first | rfl | (simp only [List.append_assoc, List.append_nil, List.cons_append, List.nil_append]; done), ⟨by simp, by first | exact Nat.le_refl _ | (have := hO.len; simp; omega), rfl⟩, rfl, ⟨rfl, _, _, _, _, Rr7, ef hs, hO.sub (List.nil_sublist _)⟩, ?_⟩
   exact .inr (ZaE hra hra0_r7 hO rfl (by have := hO.len; have := hra0_r7.len; first | exact Nat.le_refl _ | omega) (by simp only [List.append_assoc, List.cons_append, List.nil_append]) (by (simp +decide only [go_sem, Nat.reduceAdd]) <;> (try (repeat' apply And.intro)) <;> first | omega | assumption))
  have hb16 := hs.1
  refine rc 2 [2, 3, 6, 21] hs ?_; intro K18 hK18
  refine Zaf _ (Zgs w0 _ _ _ p_r7.2) (hv hs) ?_
  refine ne hs hK18 ?_
  clear hK18
  refine cnd h hs (fun hs h => ?_) (fun hs h => ?_)
  ·
   have hb19 := hs.1
   refine rg [2] hs ?_
   apply Zah; simp +decide only [go_sem, Nat.reduceAdd, hb13, hb16, hb19]
   have hgt := Option.some.inj h; subst hgt
   refine hKQ _ _ _ ⟨⟨B ++ [a0.cs, [.val (.int .i64 19)], [.val .nilFunc, .clo 108 [], .clo 110 [], .clo 111 [], .clo 113 [], .clo 116 [], .clo 117 [], .clo 118 [], .clo 119 [], .clo 120 [], .clo 121 []], [.val (.int .i64 (b3_r7 + 1))], a0.cs], Rr7, L⟩, [p_r7.2.cs], by first | rfl | (simp only [List.append_assoc, List.append_nil, List.cons_append, List.nil_append]; done), ⟨by simp, by first | exact Nat.le_refl _ | (have := hO.len; simp; omega), rfl⟩, rfl, ⟨rfl, _, _, _, _, Rr7, ef hs, hO.sub (List.nil_sublist _)⟩, ?_⟩
   exact .inr (ZaE hra hra0_r7 hO rfl (by have := hO.len; have := hra0_r7.len; first | exact Nat.le_refl _ | omega) (by simp only [List.append_assoc, List.cons_append, List.nil_append]) (by (simp +decide only [go_sem, Nat.reduceAdd]) <;> (try (repeat' apply And.intro)) <;> first | omega | assumption))
  have hb19 := hs.1
  refine rg [2, 3, 6, 24] hs ?_
  refine cnd h hs (fun hs h => ?_) (fun hs h => ?_)
  ·
   have hb22 := hs.1
   refine rg [2] hs ?_
   apply Zah; simp +decide only [go_sem, Nat.reduceAdd, hb13, hb16, hb19, hb22]
   have hgt := Option.some.inj h; subst hgt
   refine hKQ _ _ _ ⟨⟨B ++ [a0.cs, [.val (.int .i64 11)], [.val .nilFunc, .clo 108 [], .clo 110 [], .clo 111 [], .clo 113 [], .clo 116 [], .clo 117 [], .clo 118 [], .clo 119 [], .clo 120 [], .clo 121 []], [.val (.int .i64 (b3_r7 + 1))], a0.cs], Rr7, L⟩, [p_r7.2.cs], by first | rfl | (simp only [List.append_assoc, List.append_nil, List.cons_append, List.nil_append]; done), ⟨by simp, by first | exact Nat.le_refl _ | (have := hO.len; simp; omega), rfl⟩, rfl, ⟨rfl, _, _, _, _, Rr7, ef hs, hO.sub (List.nil_sublist _)⟩, ?_⟩
   exact .inr (ZaE hra hra0_r7 hO rfl (by have := hO.len; have := hra0_r7.len; first | exact Nat.le_refl _ | omega) (by simp only [List.append_assoc, List.cons_append, List.nil_append]) (by (simp +decide only [go_sem, Nat.reduceAdd]) <;> (try (repeat' apply And.intro)) <;> first | omega | assumption))
  have hb22 := hs.1
  refine rc 2 [2, 3, 6, 33] hs ?_; intro K24 hK24
  refine Zaf _ (Zpl w0 _ _ _ p_r7.2) (hv hs) ?_
  refine ne hs hK24 ?_
  clear hK24
  refine cnd h hs (fun hs h => ?_) (fun hs h => ?_)
  ·
   have hb25 := hs.1
   refine rg [2] hs ?_
   apply Zah; simp +decide only [go_sem, Nat.reduceAdd, hb13, hb16, hb19, hb22, hb25]
   have hgt := Option.some.inj h; subst hgt
   refine hKQ _ _ _ ⟨⟨B ++ [a0.cs, [.val (.int .i64 3)], [.val .nilFunc, .clo 108 [], .clo 110 [], .clo 111 [], .clo 113 [], .clo 116 [], .clo 117 [], .clo 118 [], .clo 119 [], .clo 120 [], .clo 121 []], [.val (.int .i64 (b3_r7 + 1))], a0.cs], Rr7, L⟩, [p_r7.2.cs], by first | rfl | (simp only [List.append_assoc, List.append_nil, List.cons_append, List.nil_append]; done), ⟨by simp, by first | exact Nat.le_refl _ | (have := hO.len; simp; omega), rfl⟩, rfl, ⟨rfl, _, _, _, _, Rr7, ef hs, hO.sub (List.nil_sublist _)⟩, ?_⟩
   exact .inr (ZaE hra hra0_r7 hO rfl (by have := hO.len; have := hra0_r7.len; first | exact Nat.le_refl _ | omega) (by simp only [List.append_assoc, List.cons_append, List.nil_append]) (by (simp +decide only [go_sem, Nat.reduceAdd]) <;> (try (repeat' apply And.intro)) <;> first | omega | assumption))
  have hb25 := hs.1
  refine sk [2, 3, 6] hs hK11 ?_
  clear hK11
  apply Zab; intro K27 hK27
  rcases Bool.eq_false_or_eq_true (decide (p_r7.2.kind = 0)) with hf28 | hf28
  ·
   replace h := Za2 h hf28
   have hk29 : p_r7.2.kind = 0 := of_decide_eq_true hf28
   cases h
  ·
   replace h := ZaZ h hf28
   rcases Bool.eq_false_or_eq_true (decide (p_r7.2.kind = 1)) with hf30 | hf30
   ·
    replace h := Za2 h hf30
    have hk31 : p_r7.2.kind = 1 := of_decide_eq_true hf30
    apply Zat mix 7 2 1 [2, 7] (by kernel_rfl)
    rw [Zaa]; simp +decide only [go_sem, Nat.reduceAdd, hb13, hb16, hb19, hb22, hb25, hf28, hf30, hk31]
    have hs := And.intro hf28 hs
    have hs := And.intro hf30 hs
    have hs := And.intro hk31 hs
    (repeat' apply And.intro) <;> first | refine Zaf _ (Zld w0 _ _ _ p_r7.2) (hv hs) ?_ | exact cl
    rw [Zaa]; simp +decide only [go_sem, Nat.reduceAdd, hb13, hb16, hb19, hb22, hb25, hf28, hf30, hk31]
    (repeat' with_reducible apply And.intro) <;> first | (rw [Zaa]; simp +decide only [go_sem, Nat.reduceAdd, hb13, hb16, hb19, hb22, hb25, hf28, hf30, hk31]) | exact cl
    (repeat' apply And.intro) <;> first | refine hK27 _ _ ?_ | exact cl
    clear hK27
    refine rg [2, 7, 44] hs ?_
    refine cnd h hs (fun hs h => ?_) (fun hs h => ?_)
    ·
     have hb33 := hs.1
     refine rg [2] hs ?_
     apply Zah; simp +decide only [go_sem, Nat.reduceAdd, hb13, hb16, hb19, hb22, hb25, hf28, hf30, hk31, hb33]
     have hgt := Option.some.inj h; subst hgt
     refine hKQ _ _ _ ⟨⟨B ++ [a0.cs, [.val (.int .i64 (Zcu p_r7.2))], [.val .nilFunc, .clo 108 [], .clo 110 [], .clo 111 [], .clo 113 [], .clo 116 [], .clo 117 [], .clo 118 [], .clo 119 [], .clo 120 [], .clo 121 []], [.val (.int .i64 (b3_r7 + 1))], a0.cs], Rr7, L⟩, [p_r7.2.cs], by first | rfl | (simp only [List.append_assoc, List.append_nil, List.cons_append, List.nil_append]; done), ⟨by simp, by first | exact Nat.le_refl _ | (have := hO.len; simp; omega), rfl⟩, rfl, ⟨rfl, _, _, _, _, Rr7, ef hs, hO.sub (List.nil_sublist _)⟩, ?_⟩
     exact .inr (ZaE hra hra0_r7 hO rfl (by have := hO.len; have := hra0_r7.len; first | exact Nat.le_refl _ | omega) (by simp only [List.append_assoc, List.cons_append, List.nil_append]) (by (simp +decide only [go_sem, Nat.reduceAdd]) <;> (try (repeat' apply And.intro)) <;> first | omega | assumption))
    have hb33 := hs.1
    refine ZdE (Zc0 [] _) ?_ (Za6 _ _)
    apply Zba; simp +decide only [go_sem, Nat.reduceAdd]
    (repeat' apply And.intro) <;> first | refine hKQ _ _ _ ⟨⟨B ++ [a0.cs, [.val (.int .i64 0)], [.val .nilFunc, .clo 108 [], .clo 110 [], .clo 111 [], .clo 113 [], .clo 116 [], .clo 117 [], .clo 118 [], .clo 119 [], .clo 120 [], .clo 121 []], [.val (.int .i64 (b3_r7 + 1))], a0.cs], Rr7, L⟩, [p_r7.2.cs], by first | rfl | (simp only [List.append_assoc, List.append_nil, List.cons_append, List.nil_append]; done), ⟨by simp, by first | exact Nat.le_refl _ | (have := hO.len; simp; omega), rfl⟩, rfl, ⟨(b3_r7 + 1), Rr7, ef hs, hO, h⟩, ?_⟩ | exact cl
    exact .inr (ZaE hra hra0_r7 hO rfl (by have := hO.len; have := hra0_r7.len; first | exact Nat.le_refl _ | omega) (by simp only [List.append_assoc, List.cons_append, List.nil_append]) (by (simp +decide only [go_sem, Nat.reduceAdd]) <;> (try (repeat' apply And.intro)) <;> first | omega | assumption))
   ·
    replace h := ZaZ h hf30
    rcases Bool.eq_false_or_eq_true (decide (p_r7.2.kind = 2)) with hf35 | hf35
    ·
     replace h := Za2 h hf35
     have hk36 : p_r7.2.kind = 2 := of_decide_eq_true hf35
     apply Zat mix 7 2 1 [2, 7] (by kernel_rfl)
     rw [Zaa]; simp +decide only [go_sem, Nat.reduceAdd, hb13, hb16, hb19, hb22, hb25, hf28, hf30, hf35, hk36]
     have hs := And.intro hf28 hs
     have hs := And.intro hf30 hs
     have hs := And.intro hf35 hs
     have hs := And.intro hk36 hs
     (repeat' apply And.intro) <;> first | refine Zaf _ (Zlk w0 _ _ _ p_r7.2) (hv hs) ?_ | exact cl
     rw [Zaa]; simp +decide only [go_sem, Nat.reduceAdd, hb13, hb16, hb19, hb22, hb25, hf28, hf30, hf35, hk36]
     (repeat' with_reducible apply And.intro) <;> first | (rw [Zaa]; simp +decide only [go_sem, Nat.reduceAdd, hb13, hb16, hb19, hb22, hb25, hf28, hf30, hf35, hk36]) | exact cl
     (repeat' apply And.intro) <;> first | refine hK27 _ _ ?_ | exact cl
     clear hK27
     refine rg [2, 7, 44] hs ?_
     refine cnd h hs (fun hs h => ?_) (fun hs h => ?_)
     ·
      have hb38 := hs.1
      refine rg [2] hs ?_
      apply Zah; simp +decide only [go_sem, Nat.reduceAdd, hb13, hb16, hb19, hb22, hb25, hf28, hf30, hf35, hk36, hb38]
      have hgt := Option.some.inj h; subst hgt
      refine hKQ _ _ _ ⟨⟨B ++ [a0.cs, [.val (.int .i64 (ZcL p_r7.2))], [.val .nilFunc, .clo 108 [], .clo 110 [], .clo 111 [], .clo 113 [], .clo 116 [], .clo 117 [], .clo 118 [], .clo 119 [], .clo 120 [], .clo 121 []], [.val (.int .i64 (b3_r7 + 1))], a0.cs], Rr7, L⟩, [p_r7.2.cs], by first | rfl | (simp only [List.append_assoc, List.append_nil, List.cons_append, List.nil_append]; done), ⟨by simp, by first | exact Nat.le_refl _ | (have := hO.len; simp; omega), rfl⟩, rfl, ⟨rfl, _, _, _, _, Rr7, ef hs, hO.sub (List.nil_sublist _)⟩, ?_⟩
      exact .inr (ZaE hra hra0_r7 hO rfl (by have := hO.len; have := hra0_r7.len; first | exact Nat.le_refl _ | omega) (by simp only [List.append_assoc, List.cons_append, List.nil_append]) (by (simp +decide only [go_sem, Nat.reduceAdd]) <;> (try (repeat' apply And.intro)) <;> first | omega | assumption))
     have hb38 := hs.1
     refine ZdE (Zc0 [] _) ?_ (Za6 _ _)
     apply Zba; simp +decide only [go_sem, Nat.reduceAdd]
     (repeat' apply And.intro) <;> first | refine hKQ _ _ _ ⟨⟨B ++ [a0.cs, [.val (.int .i64 0)], [.val .nilFunc, .clo 108 [], .clo 110 [], .clo 111 [], .clo 113 [], .clo 116 [], .clo 117 [], .clo 118 [], .clo 119 [], .clo 120 [], .clo 121 []], [.val (.int .i64 (b3_r7 + 1))], a0.cs], Rr7, L⟩, [p_r7.2.cs], by first | rfl | (simp only [List.append_assoc, List.append_nil, List.cons_append, List.nil_append]; done), ⟨by simp, by first | exact Nat.le_refl _ | (have := hO.len; simp; omega), rfl⟩, rfl, ⟨(b3_r7 + 1), Rr7, ef hs, hO, h⟩, ?_⟩ | exact cl
     exact .inr (ZaE hra hra0_r7 hO rfl (by have := hO.len; have := hra0_r7.len; first | exact Nat.le_refl _ | omega) (by simp only [List.append_assoc, List.cons_append, List.nil_append]) (by (simp +decide only [go_sem, Nat.reduceAdd]) <;> (try (repeat' apply And.intro)) <;> first | omega | assumption))
    ·
     replace h := ZaZ h hf35
     rcases Bool.eq_false_or_eq_true (decide (p_r7.2.kind = 3)) with hf40 | hf40
     ·
      replace h := Za2 h hf40
      have hk41 : p_r7.2.kind = 3 := of_decide_eq_true hf40
      obtain ⟨y42, hy42, h⟩ := bind_some h
      apply Zat mix 7 2 1 [2, 7] (by kernel_rfl)
      rw [Zaa]; simp +decide only [go_sem, Nat.reduceAdd, hb13, hb16, hb19, hb22, hb25, hf28, hf30, hf35, hf40, hk41]
      have hs := And.intro hf28 hs
      have hs := And.intro hf30 hs
      have hs := And.intro hf35 hs
      have hs := And.intro hf40 hs
      have hs := And.intro hk41 hs
      (repeat' apply And.intro) <;> first | refine Zaf _ (Zmd w0 n _ _ _ p_r7.2 _ hy42) (hv hs) ?_ | exact cl
      rw [Zaa]; simp +decide only [go_sem, Nat.reduceAdd, hb13, hb16, hb19, hb22, hb25, hf28, hf30, hf35, hf40, hk41]
      (repeat' with_reducible apply And.intro) <;> first | (rw [Zaa]; simp +decide only [go_sem, Nat.reduceAdd, hb13, hb16, hb19, hb22, hb25, hf28, hf30, hf35, hf40, hk41]) | exact cl
      (repeat' apply And.intro) <;> first | refine hK27 _ _ ?_ | exact cl
      clear hK27
      refine rg [2, 7, 44] hs ?_
      refine cnd h hs (fun hs h => ?_) (fun hs h => ?_)
      ·
       have hb44 := hs.1
       refine rg [2] hs ?_
       apply Zah; simp +decide only [go_sem, Nat.reduceAdd, hb13, hb16, hb19, hb22, hb25, hf28, hf30, hf35, hf40, hk41, hb44]
       have hgt := Option.some.inj h; subst hgt
       refine hKQ _ _ _ ⟨⟨B ++ [a0.cs, [.val (.int .i64 y42)], [.val .nilFunc, .clo 108 [], .clo 110 [], .clo 111 [], .clo 113 [], .clo 116 [], .clo 117 [], .clo 118 [], .clo 119 [], .clo 120 [], .clo 121 []], [.val (.int .i64 (b3_r7 + 1))], a0.cs], Rr7, L⟩, [p_r7.2.cs], by first | rfl | (simp only [List.append_assoc, List.append_nil, List.cons_append, List.nil_append]; done), ⟨by simp, by first | exact Nat.le_refl _ | (have := hO.len; simp; omega), rfl⟩, rfl, ⟨rfl, _, _, _, _, Rr7, ef hs, hO.sub (List.nil_sublist _)⟩, ?_⟩
       exact .inr (ZaE hra hra0_r7 hO rfl (by have := hO.len; have := hra0_r7.len; first | exact Nat.le_refl _ | omega) (by simp only [List.append_assoc, List.cons_append, List.nil_append]) (by (simp +decide only [go_sem, Nat.reduceAdd]) <;> (try (repeat' apply And.intro)) <;> first | omega | assumption))
      have hb44 := hs.1
      refine ZdE (Zc0 [] _) ?_ (Za6 _ _)
      apply Zba; simp +decide only [go_sem, Nat.reduceAdd]
      (repeat' apply And.intro) <;> first | refine hKQ _ _ _ ⟨⟨B ++ [a0.cs, [.val (.int .i64 0)], [.val .nilFunc, .clo 108 [], .clo 110 [], .clo 111 [], .clo 113 [], .clo 116 [], .clo 117 [], .clo 118 [], .clo 119 [], .clo 120 [], .clo 121 []], [.val (.int .i64 (b3_r7 + 1))], a0.cs], Rr7, L⟩, [p_r7.2.cs], by first | rfl | (simp only [List.append_assoc, List.append_nil, List.cons_append, List.nil_append]; done), ⟨by simp, by first | exact Nat.le_refl _ | (have := hO.len; simp; omega), rfl⟩, rfl, ⟨(b3_r7 + 1), Rr7, ef hs, hO, h⟩, ?_⟩ | exact cl
      exact .inr (ZaE hra hra0_r7 hO rfl (by have := hO.len; have := hra0_r7.len; first | exact Nat.le_refl _ | omega) (by simp only [List.append_assoc, List.cons_append, List.nil_append]) (by (simp +decide only [go_sem, Nat.reduceAdd]) <;> (try (repeat' apply And.intro)) <;> first | omega | assumption))
     ·
      replace h := ZaZ h hf40
      rcases Bool.eq_false_or_eq_true (decide (p_r7.2.kind = 4)) with hf46 | hf46
      ·
       replace h := Za2 h hf46
       have hk47 : p_r7.2.kind = 4 := of_decide_eq_true hf46
       obtain ⟨y48, hy48, h⟩ := bind_some h
       apply Zat mix 7 2 1 [2, 7] (by kernel_rfl)
       rw [Zaa]; simp +decide only [go_sem, Nat.reduceAdd, hb13, hb16, hb19, hb22, hb25, hf28, hf30, hf35, hf40, hf46, hk47]
       have hs := And.intro hf28 hs
       have hs := And.intro hf30 hs
       have hs := And.intro hf35 hs
       have hs := And.intro hf40 hs
       have hs := And.intro hf46 hs
       have hs := And.intro hk47 hs
       (repeat' apply And.intro) <;> first | refine Zaf _ (Znc w0 hT _ _ _ p_r7.2 _ hy48) (hv hs) ?_ | exact cl
       rw [Zaa]; simp +decide only [go_sem, Nat.reduceAdd, hb13, hb16, hb19, hb22, hb25, hf28, hf30, hf35, hf40, hf46, hk47]
       (repeat' with_reducible apply And.intro) <;> first | (rw [Zaa]; simp +decide only [go_sem, Nat.reduceAdd, hb13, hb16, hb19, hb22, hb25, hf28, hf30, hf35, hf40, hf46, hk47]) | exact cl
       (repeat' apply And.intro) <;> first | refine hK27 _ _ ?_ | exact cl
       clear hK27
       refine rg [2, 7, 44] hs ?_
       refine cnd h hs (fun hs h => ?_) (fun hs h => ?_)
       ·
        have hb50 := hs.1
        refine rg [2] hs ?_
        apply Zah; simp +decide only [go_sem, Nat.reduceAdd, hb13, hb16, hb19, hb22, hb25, hf28, hf30, hf35, hf40, hf46, hk47, hb50]
        have hgt := Option.some.inj h; subst hgt
        refine hKQ _ _ _ ⟨⟨B ++ [a0.cs, [.val (.int .i64 y48)], [.val .nilFunc, .clo 108 [], .clo 110 [], .clo 111 [], .clo 113 [], .clo 116 [], .clo 117 [], .clo 118 [], .clo 119 [], .clo 120 [], .clo 121 []], [.val (.int .i64 (b3_r7 + 1))], a0.cs], Rr7, L⟩, [p_r7.2.cs], by first | rfl | (simp only [List.append_assoc, List.append_nil, List.cons_append, List.nil_append]; done), ⟨by simp, by first | exact Nat.le_refl _ | (have := hO.len; simp; omega), rfl⟩, rfl, ⟨rfl, _, _, _, _, Rr7, ef hs, hO.sub (List.nil_sublist _)⟩, ?_⟩
        exact .inr (ZaE hra hra0_r7 hO rfl (by have := hO.len; have := hra0_r7.len; first | exact Nat.le_refl _ | omega) (by simp only [List.append_assoc, List.cons_append, List.nil_append]) (by (simp +decide only [go_sem, Nat.reduceAdd]) <;> (try (repeat' apply And.intro)) <;> first | omega | assumption))
       have hb50 := hs.1
       refine ZdE (Zc0 [] _) ?_ (Za6 _ _)
       apply Zba; simp +decide only [go_sem, Nat.reduceAdd]
       (repeat' apply And.intro) <;> first | refine hKQ _ _ _ ⟨⟨B ++ [a0.cs, [.val (.int .i64 0)], [.val .nilFunc, .clo 108 [], .clo 110 [], .clo 111 [], .clo 113 [], .clo 116 [], .clo 117 [], .clo 118 [], .clo 119 [], .clo 120 [], .clo 121 []], [.val (.int .i64 (b3_r7 + 1))], a0.cs], Rr7, L⟩, [p_r7.2.cs], by first | rfl | (simp only [List.append_assoc, List.append_nil, List.cons_append, List.nil_append]; done), ⟨by simp, by first | exact Nat.le_refl _ | (have := hO.len; simp; omega), rfl⟩, rfl, ⟨(b3_r7 + 1), Rr7, ef hs, hO, h⟩, ?_⟩ | exact cl
       exact .inr (ZaE hra hra0_r7 hO rfl (by have := hO.len; have := hra0_r7.len; first | exact Nat.le_refl _ | omega) (by simp only [List.append_assoc, List.cons_append, List.nil_append]) (by (simp +decide only [go_sem, Nat.reduceAdd]) <;> (try (repeat' apply And.intro)) <;> first | omega | assumption))
      ·
       replace h := ZaZ h hf46
       rcases Bool.eq_false_or_eq_true (decide (p_r7.2.kind = 5)) with hf52 | hf52
       ·
        replace h := Za2 h hf52
        have hk53 : p_r7.2.kind = 5 := of_decide_eq_true hf52
        apply Zat mix 7 2 1 [2, 7] (by kernel_rfl)
        rw [Zaa]; simp +decide only [go_sem, Nat.reduceAdd, hb13, hb16, hb19, hb22, hb25, hf28, hf30, hf35, hf40, hf46, hf52, hk53]
        have hs := And.intro hf28 hs
        have hs := And.intro hf30 hs
        have hs := And.intro hf35 hs
        have hs := And.intro hf40 hs
        have hs := And.intro hf46 hs
        have hs := And.intro hf52 hs
        have hs := And.intro hk53 hs
        (repeat' apply And.intro) <;> first | refine Zaf _ (ZlG w0 _ _ _ p_r7.2) (hv hs) ?_ | exact cl
        rw [Zaa]; simp +decide only [go_sem, Nat.reduceAdd, hb13, hb16, hb19, hb22, hb25, hf28, hf30, hf35, hf40, hf46, hf52, hk53]
        (repeat' with_reducible apply And.intro) <;> first | (rw [Zaa]; simp +decide only [go_sem, Nat.reduceAdd, hb13, hb16, hb19, hb22, hb25, hf28, hf30, hf35, hf40, hf46, hf52, hk53]) | exact cl
        (repeat' apply And.intro) <;> first | refine hK27 _ _ ?_ | exact cl
        clear hK27
        refine rg [2, 7, 44] hs ?_
        refine cnd h hs (fun hs h => ?_) (fun hs h => ?_)
        ·
         have hb55 := hs.1
         refine rg [2] hs ?_
         apply Zah; simp +decide only [go_sem, Nat.reduceAdd, hb13, hb16, hb19, hb22, hb25, hf28, hf30, hf35, hf40, hf46, hf52, hk53, hb55]
         have hgt := Option.some.inj h; subst hgt
         refine hKQ _ _ _ ⟨⟨B ++ [a0.cs, [.val (.int .i64 (ZcG p_r7.2))], [.val .nilFunc, .clo 108 [], .clo 110 [], .clo 111 [], .clo 113 [], .clo 116 [], .clo 117 [], .clo 118 [], .clo 119 [], .clo 120 [], .clo 121 []], [.val (.int .i64 (b3_r7 + 1))], a0.cs], Rr7, L⟩, [p_r7.2.cs], by first | rfl | (simp only [List.append_assoc, List.append_nil, List.cons_append, List.nil_append]; done), ⟨by simp, by first | exact Nat.le_refl _ | (have := hO.len; simp; omega), rfl⟩, rfl, ⟨rfl, _, _, _, _, Rr7, ef hs, hO.sub (List.nil_sublist _)⟩, ?_⟩
         exact .inr (ZaE hra hra0_r7 hO rfl (by have := hO.len; have := hra0_r7.len; first | exact Nat.le_refl _ | omega) (by simp only [List.append_assoc, List.cons_append, List.nil_append]) (by (simp +decide only [go_sem, Nat.reduceAdd]) <;> (try (repeat' apply And.intro)) <;> first | omega | assumption))
        have hb55 := hs.1
        refine ZdE (Zc0 [] _) ?_ (Za6 _ _)
        apply Zba; simp +decide only [go_sem, Nat.reduceAdd]
        (repeat' apply And.intro) <;> first | refine hKQ _ _ _ ⟨⟨B ++ [a0.cs, [.val (.int .i64 0)], [.val .nilFunc, .clo 108 [], .clo 110 [], .clo 111 [], .clo 113 [], .clo 116 [], .clo 117 [], .clo 118 [], .clo 119 [], .clo 120 [], .clo 121 []], [.val (.int .i64 (b3_r7 + 1))], a0.cs], Rr7, L⟩, [p_r7.2.cs], by first | rfl | (simp only [List.append_assoc, List.append_nil, List.cons_append, List.nil_append]; done), ⟨by simp, by first | exact Nat.le_refl _ | (have := hO.len; simp; omega), rfl⟩, rfl, ⟨(b3_r7 + 1), Rr7, ef hs, hO, h⟩, ?_⟩ | exact cl
        exact .inr (ZaE hra hra0_r7 hO rfl (by have := hO.len; have := hra0_r7.len; first | exact Nat.le_refl _ | omega) (by simp only [List.append_assoc, List.cons_append, List.nil_append]) (by (simp +decide only [go_sem, Nat.reduceAdd]) <;> (try (repeat' apply And.intro)) <;> first | omega | assumption))
       ·
        replace h := ZaZ h hf52
        rcases Bool.eq_false_or_eq_true (decide (p_r7.2.kind = 6)) with hf57 | hf57
        ·
         replace h := Za2 h hf57
         have hk58 : p_r7.2.kind = 6 := of_decide_eq_true hf57
         apply Zat mix 7 2 1 [2, 7] (by kernel_rfl)
         rw [Zaa]; simp +decide only [go_sem, Nat.reduceAdd, hb13, hb16, hb19, hb22, hb25, hf28, hf30, hf35, hf40, hf46, hf52, hf57, hk58]
         have hs := And.intro hf28 hs
         have hs := And.intro hf30 hs
         have hs := And.intro hf35 hs
         have hs := And.intro hf40 hs
         have hs := And.intro hf46 hs
         have hs := And.intro hf52 hs
         have hs := And.intro hf57 hs
         have hs := And.intro hk58 hs
         (repeat' apply And.intro) <;> first | refine Zaf _ (Zlw w0 _ _ _ p_r7.2) (hv hs) ?_ | exact cl
         rw [Zaa]; simp +decide only [go_sem, Nat.reduceAdd, hb13, hb16, hb19, hb22, hb25, hf28, hf30, hf35, hf40, hf46, hf52, hf57, hk58]
         (repeat' with_reducible apply And.intro) <;> first | (rw [Zaa]; simp +decide only [go_sem, Nat.reduceAdd, hb13, hb16, hb19, hb22, hb25, hf28, hf30, hf35, hf40, hf46, hf52, hf57, hk58]) | exact cl
         (repeat' apply And.intro) <;> first | refine hK27 _ _ ?_ | exact cl
         clear hK27
         refine rg [2, 7, 44] hs ?_
         refine cnd h hs (fun hs h => ?_) (fun hs h => ?_)
         ·
          have hb60 := hs.1
          refine rg [2] hs ?_
          apply Zah; simp +decide only [go_sem, Nat.reduceAdd, hb13, hb16, hb19, hb22, hb25, hf28, hf30, hf35, hf40, hf46, hf52, hf57, hk58, hb60]
          have hgt := Option.some.inj h; subst hgt
          refine hKQ _ _ _ ⟨⟨B ++ [a0.cs, [.val (.int .i64 (ZcN p_r7.2))], [.val .nilFunc, .clo 108 [], .clo 110 [], .clo 111 [], .clo 113 [], .clo 116 [], .clo 117 [], .clo 118 [], .clo 119 [], .clo 120 [], .clo 121 []], [.val (.int .i64 (b3_r7 + 1))], a0.cs], Rr7, L⟩, [p_r7.2.cs], by first | rfl | (simp only [List.append_assoc, List.append_nil, List.cons_append, List.nil_append]; done), ⟨by simp, by first | exact Nat.le_refl _ | (have := hO.len; simp; omega), rfl⟩, rfl, ⟨rfl, _, _, _, _, Rr7, ef hs, hO.sub (List.nil_sublist _)⟩, ?_⟩
          exact .inr (ZaE hra hra0_r7 hO rfl (by have := hO.len; have := hra0_r7.len; first | exact Nat.le_refl _ | omega) (by simp only [List.append_assoc, List.cons_append, List.nil_append]) (by (simp +decide only [go_sem, Nat.reduceAdd]) <;> (try (repeat' apply And.intro)) <;> first | omega | assumption))
         have hb60 := hs.1
         refine ZdE (Zc0 [] _) ?_ (Za6 _ _)
         apply Zba; simp +decide only [go_sem, Nat.reduceAdd]
         (repeat' apply And.intro) <;> first | refine hKQ _ _ _ ⟨⟨B ++ [a0.cs, [.val (.int .i64 0)], [.val .nilFunc, .clo 108 [], .clo 110 [], .clo 111 [], .clo 113 [], .clo 116 [], .clo 117 [], .clo 118 [], .clo 119 [], .clo 120 [], .clo 121 []], [.val (.int .i64 (b3_r7 + 1))], a0.cs], Rr7, L⟩, [p_r7.2.cs], by first | rfl | (simp only [List.append_assoc, List.append_nil, List.cons_append, List.nil_append]; done), ⟨by simp, by first | exact Nat.le_refl _ | (have := hO.len; simp; omega), rfl⟩, rfl, ⟨(b3_r7 + 1), Rr7, ef hs, hO, h⟩, ?_⟩ | exact cl
         exact .inr (ZaE hra hra0_r7 hO rfl (by have := hO.len; have := hra0_r7.len; first | exact Nat.le_refl _ | omega) (by simp only [List.append_assoc, List.cons_append, List.nil_append]) (by (simp +decide only [go_sem, Nat.reduceAdd]) <;> (try (repeat' apply And.intro)) <;> first | omega | assumption))
        ·
         replace h := ZaZ h hf57
         rcases Bool.eq_false_or_eq_true (decide (p_r7.2.kind = 7)) with hf62 | hf62
         ·
          replace h := Za2 h hf62
          have hk63 : p_r7.2.kind = 7 := of_decide_eq_true hf62
          apply Zat mix 7 2 1 [2, 7] (by kernel_rfl)
          rw [Zaa]; simp +decide only [go_sem, Nat.reduceAdd, hb13, hb16, hb19, hb22, hb25, hf28, hf30, hf35, hf40, hf46, hf52, hf57, hf62, hk63]
          have hs := And.intro hf28 hs
          have hs := And.intro hf30 hs
          have hs := And.intro hf35 hs
          have hs := And.intro hf40 hs
          have hs := And.intro hf46 hs
          have hs := And.intro hf52 hs
          have hs := And.intro hf57 hs
          have hs := And.intro hf62 hs
          have hs := And.intro hk63 hs
          (repeat' apply And.intro) <;> first | refine Zaf _ (ZlD w0 _ _ _ p_r7.2) (hv hs) ?_ | exact cl
          rw [Zaa]; simp +decide only [go_sem, Nat.reduceAdd, hb13, hb16, hb19, hb22, hb25, hf28, hf30, hf35, hf40, hf46, hf52, hf57, hf62, hk63]
          (repeat' with_reducible apply And.intro) <;> first | (rw [Zaa]; simp +decide only [go_sem, Nat.reduceAdd, hb13, hb16, hb19, hb22, hb25, hf28, hf30, hf35, hf40, hf46, hf52, hf57, hf62, hk63]) | exact cl
          (repeat' apply And.intro) <;> first | refine hK27 _ _ ?_ | exact cl
          clear hK27
          refine rg [2, 7, 44] hs ?_
          refine cnd h hs (fun hs h => ?_) (fun hs h => ?_)
          ·
           have hb65 := hs.1
           refine rg [2] hs ?_
           apply Zah; simp +decide only [go_sem, Nat.reduceAdd, hb13, hb16, hb19, hb22, hb25, hf28, hf30, hf35, hf40, hf46, hf52, hf57, hf62, hk63, hb65]
           have hgt := Option.some.inj h; subst hgt
           refine hKQ _ _ _ ⟨⟨B ++ [a0.cs, [.val (.int .i64 (Zcz p_r7.2))], [.val .nilFunc, .clo 108 [], .clo 110 [], .clo 111 [], .clo 113 [], .clo 116 [], .clo 117 [], .clo 118 [], .clo 119 [], .clo 120 [], .clo 121 []], [.val (.int .i64 (b3_r7 + 1))], a0.cs], Rr7, L⟩, [p_r7.2.cs], by first | rfl | (simp only [List.append_assoc, List.append_nil, List.cons_append, List.nil_append]; done), ⟨by simp, by first | exact Nat.le_refl _ | (have := hO.len; simp; omega), rfl⟩, rfl, ⟨rfl, _, _, _, _, Rr7, ef hs, hO.sub (List.nil_sublist _)⟩, ?_⟩
           exact .inr (ZaE hra hra0_r7 hO rfl (by have := hO.len; have := hra0_r7.len; first | exact Nat.le_refl _ | omega) (by simp only [List.append_assoc, List.cons_append, List.nil_append]) (by (simp +decide only [go_sem, Nat.reduceAdd]) <;> (try (repeat' apply And.intro)) <;> first | omega | assumption))
          have hb65 := hs.1
          refine ZdE (Zc0 [] _) ?_ (Za6 _ _)
          apply Zba; simp +decide only [go_sem, Nat.reduceAdd]
          (repeat' apply And.intro) <;> first | refine hKQ _ _ _ ⟨⟨B ++ [a0.cs, [.val (.int .i64 0)], [.val .nilFunc, .clo 108 [], .clo 110 [], .clo 111 [], .clo 113 [], .clo 116 [], .clo 117 [], .clo 118 [], .clo 119 [], .clo 120 [], .clo 121 []], [.val (.int .i64 (b3_r7 + 1))], a0.cs], Rr7, L⟩, [p_r7.2.cs], by first | rfl | (simp only [List.append_assoc, List.append_nil, List.cons_append, List.nil_append]; done), ⟨by simp, by first | exact Nat.le_refl _ | (have := hO.len; simp; omega), rfl⟩, rfl, ⟨(b3_r7 + 1), Rr7, ef hs, hO, h⟩, ?_⟩ | exact cl
          exact .inr (ZaE hra hra0_r7 hO rfl (by have := hO.len; have := hra0_r7.len; first | exact Nat.le_refl _ | omega) (by simp only [List.append_assoc, List.cons_append, List.nil_append]) (by (simp +decide only [go_sem, Nat.reduceAdd]) <;> (try (repeat' apply And.intro)) <;> first | omega | assumption))
         ·
          replace h := ZaZ h hf62
          rcases Bool.eq_false_or_eq_true (decide (p_r7.2.kind = 8)) with hf67 | hf67
          ·
           replace h := Za2 h hf67
           have hk68 : p_r7.2.kind = 8 := of_decide_eq_true hf67
           apply Zat mix 7 2 1 [2, 7] (by kernel_rfl)
           rw [Zaa]; simp +decide only [go_sem, Nat.reduceAdd, hb13, hb16, hb19, hb22, hb25, hf28, hf30, hf35, hf40, hf46, hf52, hf57, hf62, hf67, hk68]
           have hs := And.intro hf28 hs
           have hs := And.intro hf30 hs
           have hs := And.intro hf35 hs
           have hs := And.intro hf40 hs
           have hs := And.intro hf46 hs
           have hs := And.intro hf52 hs
           have hs := And.intro hf57 hs
           have hs := And.intro hf62 hs
           have hs := And.intro hf67 hs
           have hs := And.intro hk68 hs
           (repeat' apply And.intro) <;> first | refine Zaf _ (Zlu w0 _ _ _ p_r7.2) (hv hs) ?_ | exact cl
           rw [Zaa]; simp +decide only [go_sem, Nat.reduceAdd, hb13, hb16, hb19, hb22, hb25, hf28, hf30, hf35, hf40, hf46, hf52, hf57, hf62, hf67, hk68]
           (repeat' with_reducible apply And.intro) <;> first | (rw [Zaa]; simp +decide only [go_sem, Nat.reduceAdd, hb13, hb16, hb19, hb22, hb25, hf28, hf30, hf35, hf40, hf46, hf52, hf57, hf62, hf67, hk68]) | exact cl
           (repeat' apply And.intro) <;> first | refine hK27 _ _ ?_ | exact cl
           clear hK27
           refine rg [2, 7, 44] hs ?_
           refine cnd h hs (fun hs h => ?_) (fun hs h => ?_)
           ·
            have hb70 := hs.1
            refine rg [2] hs ?_
            apply Zah; simp +decide only [go_sem, Nat.reduceAdd, hb13, hb16, hb19, hb22, hb25, hf28, hf30, hf35, hf40, hf46, hf52, hf57, hf62, hf67, hk68, hb70]
            have hgt := Option.some.inj h; subst hgt
            refine hKQ _ _ _ ⟨⟨B ++ [a0.cs, [.val (.int .i64 (ZcJ p_r7.2))], [.val .nilFunc, .clo 108 [], .clo 110 [], .clo 111 [], .clo 113 [], .clo 116 [], .clo 117 [], .clo 118 [], .clo 119 [], .clo 120 [], .clo 121 []], [.val (.int .i64 (b3_r7 + 1))], a0.cs], Rr7, L⟩, [p_r7.2.cs], by first | rfl | (simp only [List.append_assoc, List.append_nil, List.cons_append, List.nil_append]; done), ⟨by simp, by first | exact Nat.le_refl _ | (have := hO.len; simp; omega), rfl⟩, rfl, ⟨rfl, _, _, _, _, Rr7, ef hs, hO.sub (List.nil_sublist _)⟩, ?_⟩
            exact .inr (ZaE hra hra0_r7 hO rfl (by have := hO.len; have := hra0_r7.len; first | exact Nat.le_refl _ | omega) (by simp only [List.append_assoc, List.cons_append, List.nil_append]) (by (simp +decide only [go_sem, Nat.reduceAdd]) <;> (try (repeat' apply And.intro)) <;> first | omega | assumption))
           have hb70 := hs.1
           refine ZdE (Zc0 [] _) ?_ (Za6 _ _)
           apply Zba; simp +decide only [go_sem, Nat.reduceAdd]
           (repeat' apply And.intro) <;> first | refine hKQ _ _ _ ⟨⟨B ++ [a0.cs, [.val (.int .i64 0)], [.val .nilFunc, .clo 108 [], .clo 110 [], .clo 111 [], .clo 113 [], .clo 116 [], .clo 117 [], .clo 118 [], .clo 119 [], .clo 120 [], .clo 121 []], [.val (.int .i64 (b3_r7 + 1))], a0.cs], Rr7, L⟩, [p_r7.2.cs], by first | rfl | (simp only [List.append_assoc, List.append_nil, List.cons_append, List.nil_append]; done), ⟨by simp, by first | exact Nat.le_refl _ | (have := hO.len; simp; omega), rfl⟩, rfl, ⟨(b3_r7 + 1), Rr7, ef hs, hO, h⟩, ?_⟩ | exact cl
           exact .inr (ZaE hra hra0_r7 hO rfl (by have := hO.len; have := hra0_r7.len; first | exact Nat.le_refl _ | omega) (by simp only [List.append_assoc, List.cons_append, List.nil_append]) (by (simp +decide only [go_sem, Nat.reduceAdd]) <;> (try (repeat' apply And.intro)) <;> first | omega | assumption))
          ·
           replace h := ZaZ h hf67
           rcases Bool.eq_false_or_eq_true (decide (p_r7.2.kind = 9)) with hf72 | hf72
           ·
            replace h := Za2 h hf72
            have hk73 : p_r7.2.kind = 9 := of_decide_eq_true hf72
            obtain ⟨y74, hy74, h⟩ := bind_some h
            apply Zat mix 7 2 1 [2, 7] (by kernel_rfl)
            rw [Zaa]; simp +decide only [go_sem, Nat.reduceAdd, hb13, hb16, hb19, hb22, hb25, hf28, hf30, hf35, hf40, hf46, hf52, hf57, hf62, hf67, hf72, hk73]
            have hs := And.intro hf28 hs
            have hs := And.intro hf30 hs
            have hs := And.intro hf35 hs
            have hs := And.intro hf40 hs
            have hs := And.intro hf46 hs
            have hs := And.intro hf52 hs
            have hs := And.intro hf57 hs
            have hs := And.intro hf62 hs
            have hs := And.intro hf67 hs
            have hs := And.intro hf72 hs
            have hs := And.intro hk73 hs
            (repeat' apply And.intro) <;> first | refine Zaf _ (Zl1 w0 n _ _ _ p_r7.2 _ hy74) (hv hs) ?_ | exact cl
            rw [Zaa]; simp +decide only [go_sem, Nat.reduceAdd, hb13, hb16, hb19, hb22, hb25, hf28, hf30, hf35, hf40, hf46, hf52, hf57, hf62, hf67, hf72, hk73]
            (repeat' with_reducible apply And.intro) <;> first | (rw [Zaa]; simp +decide only [go_sem, Nat.reduceAdd, hb13, hb16, hb19, hb22, hb25, hf28, hf30, hf35, hf40, hf46, hf52, hf57, hf62, hf67, hf72, hk73]) | exact cl
            (repeat' apply And.intro) <;> first | refine hK27 _ _ ?_ | exact cl
            clear hK27
            refine rg [2, 7, 44] hs ?_
            refine cnd h hs (fun hs h => ?_) (fun hs h => ?_)
            ·
             have hb76 := hs.1
             refine rg [2] hs ?_
             apply Zah; simp +decide only [go_sem, Nat.reduceAdd, hb13, hb16, hb19, hb22, hb25, hf28, hf30, hf35, hf40, hf46, hf52, hf57, hf62, hf67, hf72, hk73, hb76]
             have hgt := Option.some.inj h; subst hgt
             refine hKQ _ _ _ ⟨⟨B ++ [a0.cs, [.val (.int .i64 y74)], [.val .nilFunc, .clo 108 [], .clo 110 [], .clo 111 [], .clo 113 [], .clo 116 [], .clo 117 [], .clo 118 [], .clo 119 [], .clo 120 [], .clo 121 []], [.val (.int .i64 (b3_r7 + 1))], a0.cs], Rr7, L⟩, [p_r7.2.cs], by first | rfl | (simp only [List.append_assoc, List.append_nil, List.cons_append, List.nil_append]; done), ⟨by simp, by first | exact Nat.le_refl _ | (have := hO.len; simp; omega), rfl⟩, rfl, ⟨rfl, _, _, _, _, Rr7, ef hs, hO.sub (List.nil_sublist _)⟩, ?_⟩
             exact .inr (ZaE hra hra0_r7 hO rfl (by have := hO.len; have := hra0_r7.len; first | exact Nat.le_refl _ | omega) (by simp only [List.append_assoc, List.cons_append, List.nil_append]) (by (simp +decide only [go_sem, Nat.reduceAdd]) <;> (try (repeat' apply And.intro)) <;> first | omega | assumption))
            have hb76 := hs.1
            refine ZdE (Zc0 [] _) ?_ (Za6 _ _)
            apply Zba; simp +decide only [go_sem, Nat.reduceAdd]
            (repeat' apply And.intro) <;> first | refine hKQ _ _ _ ⟨⟨B ++ [a0.cs, [.val (.int .i64 0)], [.val .nilFunc, .clo 108 [], .clo 110 [], .clo 111 [], .clo 113 [], .clo 116 [], .clo 117 [], .clo 118 [], .clo 119 [], .clo 120 [], .clo 121 []], [.val (.int .i64 (b3_r7 + 1))], a0.cs], Rr7, L⟩, [p_r7.2.cs], by first | rfl | (simp only [List.append_assoc, List.append_nil, List.cons_append, List.nil_append]; done), ⟨by simp, by first | exact Nat.le_refl _ | (have := hO.len; simp; omega), rfl⟩, rfl, ⟨(b3_r7 + 1), Rr7, ef hs, hO, h⟩, ?_⟩ | exact cl
            exact .inr (ZaE hra hra0_r7 hO rfl (by have := hO.len; have := hra0_r7.len; first | exact Nat.le_refl _ | omega) (by simp only [List.append_assoc, List.cons_append, List.nil_append]) (by (simp +decide only [go_sem, Nat.reduceAdd]) <;> (try (repeat' apply And.intro)) <;> first | omega | assumption))
           ·
            replace h := ZaZ h hf72
            rcases Bool.eq_false_or_eq_true (decide (p_r7.2.kind = 10)) with hf78 | hf78
            ·
             replace h := Za2 h hf78
             have hk79 : p_r7.2.kind = 10 := of_decide_eq_true hf78
             obtain ⟨y80, hy80, h⟩ := bind_some h
             apply Zat mix 7 2 1 [2, 7] (by kernel_rfl)
             rw [Zaa]; simp +decide only [go_sem, Nat.reduceAdd, hb13, hb16, hb19, hb22, hb25, hf28, hf30, hf35, hf40, hf46, hf52, hf57, hf62, hf67, hf72, hf78, hk79]
             have hs := And.intro hf28 hs
             have hs := And.intro hf30 hs
             have hs := And.intro hf35 hs
             have hs := And.intro hf40 hs
             have hs := And.intro hf46 hs
             have hs := And.intro hf52 hs
             have hs := And.intro hf57 hs
             have hs := And.intro hf62 hs
             have hs := And.intro hf67 hs
             have hs := And.intro hf72 hs
             have hs := And.intro hf78 hs
             have hs := And.intro hk79 hs
             (repeat' apply And.intro) <;> first | refine Zaf _ (Zk9 w0 _ _ _ p_r7.2 _ hy80) (hv hs) ?_ | exact cl
             rw [Zaa]; simp +decide only [go_sem, Nat.reduceAdd, hb13, hb16, hb19, hb22, hb25, hf28, hf30, hf35, hf40, hf46, hf52, hf57, hf62, hf67, hf72, hf78, hk79]
             (repeat' with_reducible apply And.intro) <;> first | (rw [Zaa]; simp +decide only [go_sem, Nat.reduceAdd, hb13, hb16, hb19, hb22, hb25, hf28, hf30, hf35, hf40, hf46, hf52, hf57, hf62, hf67, hf72, hf78, hk79]) | exact cl
             (repeat' apply And.intro) <;> first | refine hK27 _ _ ?_ | exact cl
             clear hK27
             refine rg [2, 7, 44] hs ?_
             refine cnd h hs (fun hs h => ?_) (fun hs h => ?_)
             ·
              have hb82 := hs.1
              refine rg [2] hs ?_
              apply Zah; simp +decide only [go_sem, Nat.reduceAdd, hb13, hb16, hb19, hb22, hb25, hf28, hf30, hf35, hf40, hf46, hf52, hf57, hf62, hf67, hf72, hf78, hk79, hb82]
              have hgt := Option.some.inj h; subst hgt
              refine hKQ _ _ _ ⟨⟨B ++ [a0.cs, [.val (.int .i64 y80)], [.val .nilFunc, .clo 108 [], .clo 110 [], .clo 111 [], .clo 113 [], .clo 116 [], .clo 117 [], .clo 118 [], .clo 119 [], .clo 120 [], .clo 121 []], [.val (.int .i64 (b3_r7 + 1))], a0.cs], Rr7, L⟩, [p_r7.2.cs], by first | rfl | (simp only [List.append_assoc, List.append_nil, List.cons_append, List.nil_append]; done), ⟨by simp, by first | exact Nat.le_refl _ | (have := hO.len; simp; omega), rfl⟩, rfl, ⟨rfl, _, _, _, _, Rr7, ef hs, hO.sub (List.nil_sublist _)⟩, ?_⟩
              exact .inr (ZaE hra hra0_r7 hO rfl (by have := hO.len; have := hra0_r7.len; first | exact Nat.le_refl _ | omega) (by simp only [List.append_assoc, List.cons_append, List.nil_append]) (by (simp +decide only [go_sem, Nat.reduceAdd]) <;> (try (repeat' apply And.intro)) <;> first | omega | assumption))
             have hb82 := hs.1
             refine ZdE (Zc0 [] _) ?_ (Za6 _ _)
             apply Zba; simp +decide only [go_sem, Nat.reduceAdd]
             (repeat' apply And.intro) <;> first | refine hKQ _ _ _ ⟨⟨B ++ [a0.cs, [.val (.int .i64 0)], [.val .nilFunc, .clo 108 [], .clo 110 [], .clo 111 [], .clo 113 [], .clo 116 [], .clo 117 [], .clo 118 [], .clo 119 [], .clo 120 [], .clo 121 []], [.val (.int .i64 (b3_r7 + 1))], a0.cs], Rr7, L⟩, [p_r7.2.cs], by first | rfl | (simp only [List.append_assoc, List.append_nil, List.cons_append, List.nil_append]; done), ⟨by simp, by first | exact Nat.le_refl _ | (have := hO.len; simp; omega), rfl⟩, rfl, ⟨(b3_r7 + 1), Rr7, ef hs, hO, h⟩, ?_⟩ | exact cl
             exact .inr (ZaE hra hra0_r7 hO rfl (by have := hO.len; have := hra0_r7.len; first | exact Nat.le_refl _ | omega) (by simp only [List.append_assoc, List.cons_append, List.nil_append]) (by (simp +decide only [go_sem, Nat.reduceAdd]) <;> (try (repeat' apply And.intro)) <;> first | omega | assumption))
            ·
             replace h := ZaZ h hf78
             cases h
 ·
  rintro s la ⟨XB, XR, XL⟩ hXR ⟨b3_r7, Rr7, rfl, hO, h⟩ _ _
  simp only at hXR
  subst hXR
  rw [List.drop_eq_nil_of_le (by rw [ZhP]; exact Nat.le_refl _), ZaY] at h
  simp only [St.ext, St.push, List.append_assoc, List.append_nil]
  (repeat' apply And.intro) <;> first | refine hK4 _ _ ?_ | exact cl
  clear hK4
  refine ZmX (bs := [a0.cs, [.val (.int .i64 0)], [.val .nilFunc, .clo 108 [], .clo 110 [], .clo 111 [], .clo 113 [], .clo 116 [], .clo 117 [], .clo 118 [], .clo 119 [], .clo 120 [], .clo 121 []], [.val (.int .i64 b3_r7)], a0.cs]) hN hNR hNL rfl hcalm hO (by (simp +decide only [go_sem, Nat.reduceAdd]) <;> (try (repeat' apply And.intro)) <;> first | omega | assumption) (by (simp +decide only [go_sem, Nat.reduceAdd, Zb2]) <;> (try (repeat' apply And.intro)) <;> first | omega | assumption) ?_
  refine rg [2] hs ?_
  exact rt h hs hcalm hO
 ·
  rintro ex s la ⟨XB, XR, XL⟩ hXR ⟨rfl, z0, z2, z3, z4, rows, rfl, hO⟩ _ _
  simp only at hXR
  subst hXR
  simp only [St.ext, St.push, List.append_assoc, List.append_nil]
  simp +decide only [go_sem, Nat.reduceAdd]
  (repeat' with_reducible apply And.intro) <;> first | refine ZzL hcalm rfl hO.pre ev ⟨?_, rfl⟩ | (intros; omega) | (intros; simp_all; done)
  first | rfl | (simp +decide only [go_sem, Nat.reduceAdd]; done)
end Go.Proofs.YtgpmlelfkjfbiaaGreatDoor
