/-
  Part 4 of the proof: rules and walks that the claim's last text uses.
-/
import Derived.Carry
import Derived.ChangeOld
import Derived.ChangeSlices
import Derived.Deep.DeepHandedRow
import Derived.Deep.DeepWitnessRowRef
import Derived.Lib.LaidIn
import Derived.Lib.LaidU8T
import Derived.PinnedBridge
import Derived.ProofKit
import Derived.SevenTiedAt
import Derived.SizedLaws
import Derived.Test.YtggimoedcamonaaGreatDoorCards
import Derived.Test.YtggimoedcamonaaGreatDoorTie
import Derived.Test.YtggimoedcamonaaGreatDoorSp3
set_option linter.unusedSimpArgs false
set_option linter.unusedVariables false
set_option maxRecDepth 100000
set_option maxHeartbeats 4000000
namespace Go.Proofs.YtggimoedcamonaaGreatDoor
open Go Go.RowKit Go.Ev
def Zd1 (rec : Ty → Option Ty) (n : Nat) (a0 : Ty) (x3_k26 : List Ty) (x6_k26 : List (Int × ByteArray × Int × Ty × List Vl)) : Option Ty :=
 if a0.words.length * 16 ≤ 140737488355328 then
  some (Ty.mk a0.kind a0.min a0.max a0.scale a0.words x3_k26 x6_k26)
 else none
def Zcb (rec : Ty → Option Ty) (n : Nat) (a0 : Ty) : Nat → (List Ty) → (List (Int × ByteArray × Int × Ty × List Vl)) → Int → Option Ty
 | 0, _, _, _ => none
 | m + 1, x3_l29, x6_l29, x33_l29 =>
  if decide (x33_l29 < ((a0.fields.length : Int))) then
   (idx a0.fields x33_l29).bind fun x35 =>
   (ZaV rec n x35).bind fun y36 =>
   if (x6_l29.length + 1) * 160 ≤ 140737488355328 ∧ x6_l29.length + 1 ≤ 4611686018427387904 then
    if I64 (x33_l29 + 1) then
     (Zcb rec n a0 m) x3_l29 (x6_l29 ++ ([y36])) (x33_l29 + 1)
    else none
   else none
  else
   Zd1 rec n a0 x3_l29 x6_l29
def Zfb (rec : Ty → Option Ty) (n : Nat) (a0 : Ty) (x3_k6 : List Ty) : Option Ty :=
 if 0 ≤ (a0.fields.length : Int) ∧ ((a0.fields.length : Int)) * 160 ≤ 140737488355328 ∧ (a0.fields.length : Int) ≤ 4611686018427387904 then
  Zcb rec n a0 n x3_k6 ([]) 0
 else none
def ZcT (rec : Ty → Option Ty) (n : Nat) (a0 : Ty) : Nat → (List Ty) → Int → Option Ty
 | 0, _, _ => none
 | m + 1, x3_l9, x16_l9 =>
  if decide (x16_l9 < ((a0.elem.length : Int))) then
   (idx a0.elem x16_l9).bind fun x15 =>
   (rec x15).bind fun y16 =>
   if (x3_l9.length + 1) * 104 ≤ 140737488355328 ∧ x3_l9.length + 1 ≤ 4611686018427387904 then
    if I64 (x16_l9 + 1) then
     (ZcT rec n a0 m) (x3_l9 ++ ([y16])) (x16_l9 + 1)
    else none
   else none
  else
   Zfb rec n a0 x3_l9
def ZfQ (rec : Ty → Option Ty) (n : Nat) (a0 : Ty) : Option Ty :=
 if 0 ≤ (a0.elem.length : Int) ∧ ((a0.elem.length : Int)) * 104 ≤ 140737488355328 ∧ (a0.elem.length : Int) ≤ 4611686018427387904 then
  ZcT rec n a0 n ([]) 0
 else none
def Zb3 : Nat → Ty → Option Ty
 | 0, _ => none
 | n + 1, a0 => ZfQ (Zb3 n) n a0
def ZhU (w0 : World) (F : Ty → Option Ty) : Prop := ∀ (B : List (List AV)) (Rw : List RowA) (L : List LoopA) (a0 : Ty) (r : Ty), F a0 = some r → ACalls Tryz.prog w0 45 [.agg (a0.cs)] ⟨B, Rw, L⟩ fun x st => x = .agg (r.cs) ∧ st = ⟨B, Rw, L⟩
theorem Zkn (w0 : World) (rec : Ty → Option Ty) (ih : ZhU w0 rec) (n : Nat) : ZhU w0 (ZfQ rec n) := by
 intro B Rw L a0 r h
 rw [ZfQ] at h
 refine hd [.cell 2 26] Tryz.func45 Tryz.ntmps45 fun M0 W0 hN hNR hNL hcalm hu hO hs => ?_
 simp only [Zan]
 refine rg [1, 2] hs ?_
 obtain ⟨hg3, h⟩ := Zad h
 have hO := hO.make 7 0
 refine rg [1, 2, 3] hs ?_
 refine Zal (fun e st => ∃ (x3_k6 : List Ty) (ox3_k6 : Ev.Own), Ck e st B Rw L [(1, true, .box B.length 0), (2, true, .box (B.length + 1) 0), (3, true, .list (x3_k6.map avT) ox3_k6)] [a0.cs, [.val (.int .i64 0), .val (.int .i64 0), .val (.int .i64 0), .val (.int .i64 0), .list ([]) .full, .list ([]) .full, .list ([]) .full]] [(7, x3_k6.length, ox3_k6)] (Zfb rec n a0 x3_k6 = some r)) ?_ ?_
 ·
  intro K7 hK7
  refine rg [1, 2, 3, 14, 15, 16] hs ?_
  apply Zae
  refine Zak (fun m e st => ∃ (x3_l9 : List Ty) (x16_l9 : Int) (ox3_l9 : Ev.Own), Ck e st B Rw L [(1, true, .box B.length 0), (2, true, .box (B.length + 1) 0), (3, true, .list (x3_l9.map avT) ox3_l9), (14, true, .list (a0.elem.map avT) .none), (15, true, .val (.int .i64 ((a0.elem.length : Int)))), (16, true, .val (.int .i64 x16_l9))] [a0.cs, [.val (.int .i64 0), .val (.int .i64 0), .val (.int .i64 0), .val (.int .i64 0), .list ([]) .full, .list ([]) .full, .list ([]) .full]] [(7, x3_l9.length, ox3_l9)] (ZcT rec n a0 m x3_l9 x16_l9 = some r)) n ⟨([]), 0, ((.row Rw.length)), ([]), ((Rw ++ [.grow 0 7])), ef hs, ef hs, Owns.of_eq (hO) (by first | rfl | simp only [List.length_append, List.length_cons, List.length_nil, List.length_map, Nat.zero_add, Nat.add_zero]), h⟩ ?_
  rintro ml9 e st ⟨x3_l9, x16_l9, ox3_l9, Xl9, Rl9, rfl, rfl, hO, h⟩ Ul9 Vl9
  cases ml9 with
  | zero => cases h
  | succ ml9 =>
  rw [ZcT] at h
  have hU := hO.unders
  simp only [List.mem_cons, List.not_mem_nil, or_false, forall_eq_or_imp, forall_eq] at hU
  refine td hN hNR hNL hcalm hO ?_
  refine rg [1, 2, 3, 14, 15, 16, 17] hs ?_
  apply Zab; intro K11 hK11
  refine cnd h hs (fun hs h => ?_) (fun hs h => ?_)
  rotate_left
  ·
   refine sx [1, 2, 3] hs hK7 ?_
   exact ⟨x3_l9, ox3_l9, ([]), Rl9, ef hs, ef hs, Owns.of_eq (hO) (by first | rfl | simp only [List.length_append, List.length_cons, List.length_nil, List.length_map, Nat.zero_add, Nat.add_zero]), h⟩
  refine sk [1, 2, 3, 14, 15, 16] hs hK11 ?_
  clear hK11
  apply Zab; intro K13 hK13
  apply Zae
  obtain ⟨x15, hx15, h⟩ := bind_some h
  obtain ⟨hx15a, hx15b, hx15c⟩ := Zau hx15
  have hx15d := Zav (f := avT) hx15c
  have hs := And.intro hx15d hs
  refine rg [1, 2, 3, 5, 14, 15, 16] hs ?_
  obtain ⟨y16, hy16, h⟩ := bind_some h
  obtain ⟨hg17, h⟩ := Zad h
  obtain ⟨o18, rows19, hO, hap20⟩ := hO.append (P := Tryz.prog) ZlK (by rw [Zg3]; rfl) (by decide) 1 hg17.1 hg17.2
  replace hap20 := fun (ys : List AV) B L o2 => hap20 (x3_l9.map avT) ys B L o2 (by first | rfl | simp only [List.length_map, List.length_nil, List.length_append, List.length_cons, Nat.zero_add])
  replace hap20 := fun (y : AV) B L o2 => hap20 [y] B L o2 (by first | rfl | simp only [List.length_map, List.length_nil, List.length_cons]) ev
  try simp only [List.mem_singleton, List.mem_cons, List.not_mem_nil, or_false, forall_eq_or_imp, forall_eq, List.map_append, List.map_cons, List.map_nil, ZdZ, ZeA, Zeq, Zes, Zer, ZdU, Zc7, Zdb, Zez, ZbR, ZbQ, Zda] at hap20
  have hs := And.intro hap20 hs
  refine rk 2 [1, 2, 3, 14, 15, 16] hs ?_
  refine Zaf _ (ih _ _ _ x15 _ hy16) (hv hs) ?_
  refine ne hs hK13 ?_
  clear hK13
  obtain ⟨hg21, h⟩ := Zad h
  refine rl [1, 2, 3, 14, 15, 16] hs (fun e s => Vl9 ml9 e s (Nat.lt_succ_self _)) ?_
  exact ⟨(x3_l9 ++ ([y16])), (x16_l9 + 1), o18, ([x15.cs]), rows19, ef hs, ef hs, Owns.of_eq (hO) (by first | rfl | simp only [List.length_append, List.length_cons, List.length_nil, List.length_map, Nat.zero_add, Nat.add_zero]), h⟩
 ·
  clear h; rintro e st ⟨x3_k6, ox3_k6, Xk6, Rk6, rfl, rfl, hO, h⟩
  rw [Zfb] at h
  have hU := hO.unders
  simp only [List.mem_cons, List.not_mem_nil, or_false, forall_eq_or_imp, forall_eq] at hU
  refine td hN hNR hNL hcalm hO ?_
  obtain ⟨hg23, h⟩ := Zad h
  have hO := hO.make 11 0
  refine rg [1, 2, 3, 6] hs ?_
  refine Zal (fun e st => ∃ (x3_k26 : List Ty) (x6_k26 : List (Int × ByteArray × Int × Ty × List Vl)) (ox3_k26 : Ev.Own) (ox6_k26 : Ev.Own), Ck e st B Rw L [(1, true, .box B.length 0), (2, true, .box (B.length + 1) 0), (3, true, .list (x3_k26.map avT) ox3_k26), (6, true, .list (x6_k26.map ZdK) ox6_k26)] [a0.cs, [.val (.int .i64 0), .val (.int .i64 0), .val (.int .i64 0), .val (.int .i64 0), .list ([]) .full, .list ([]) .full, .list ([]) .full]] [(7, x3_k26.length, ox3_k26), (11, x6_k26.length, ox6_k26)] (Zd1 rec n a0 x3_k26 x6_k26 = some r)) ?_ ?_
  ·
   intro K27 hK27
   refine rg [1, 2, 3, 6, 31, 32, 33] hs ?_
   apply Zae
   refine Zak (fun m e st => ∃ (x3_l29 : List Ty) (x6_l29 : List (Int × ByteArray × Int × Ty × List Vl)) (x33_l29 : Int) (ox3_l29 : Ev.Own) (ox6_l29 : Ev.Own), Ck e st B Rw L [(1, true, .box B.length 0), (2, true, .box (B.length + 1) 0), (3, true, .list (x3_l29.map avT) ox3_l29), (6, true, .list (x6_l29.map ZdK) ox6_l29), (31, true, .list (a0.fields.map ZdK) .none), (32, true, .val (.int .i64 ((a0.fields.length : Int)))), (33, true, .val (.int .i64 x33_l29))] [a0.cs, [.val (.int .i64 0), .val (.int .i64 0), .val (.int .i64 0), .val (.int .i64 0), .list ([]) .full, .list ([]) .full, .list ([]) .full]] [(7, x3_l29.length, ox3_l29), (11, x6_l29.length, ox6_l29)] (Zcb rec n a0 m x3_l29 x6_l29 x33_l29 = some r)) n ⟨x3_k6, ([]), 0, ox3_k6, ((.row Rk6.length)), ([]), ((Rk6 ++ [.grow 0 11])), ef hs, ef hs, Owns.of_eq ((hO).swap (List.Perm.swap _ _ _)) (by first | rfl | simp only [List.length_append, List.length_cons, List.length_nil, List.length_map, Nat.zero_add, Nat.add_zero]), h⟩ ?_
   rintro ml29 e st ⟨x3_l29, x6_l29, x33_l29, ox3_l29, ox6_l29, Xl29, Rl29, rfl, rfl, hO, h⟩ Ul29 Vl29
   cases ml29 with
   | zero => cases h
   | succ ml29 =>
   rw [Zcb] at h
   have hU := hO.unders
   simp only [List.mem_cons, List.not_mem_nil, or_false, forall_eq_or_imp, forall_eq] at hU
   obtain ⟨hU0, hU1⟩ := hU
   refine td hN hNR hNL hcalm hO ?_
   refine rg [1, 2, 3, 6, 31, 32, 33, 34] hs ?_
   apply Zab; intro K31 hK31
   refine cnd h hs (fun hs h => ?_) (fun hs h => ?_)
   rotate_left
   ·
    refine sx [1, 2, 3, 6] hs hK27 ?_
    exact ⟨x3_l29, x6_l29, ox3_l29, ox6_l29, ([]), Rl29, ef hs, ef hs, Owns.of_eq (((hO).swap (List.Perm.swap _ _ _)).swap (List.Perm.swap _ _ _)) (by first | rfl | simp only [List.length_append, List.length_cons, List.length_nil, List.length_map, Nat.zero_add, Nat.add_zero]), h⟩
   refine sk [1, 2, 3, 6, 31, 32, 33] hs hK31 ?_
   clear hK31
   apply Zab; intro K33 hK33
   apply Zae
   obtain ⟨x35, hx35, h⟩ := bind_some h
   obtain ⟨hx35a, hx35b, hx35c⟩ := Zau hx35
   have hx35d := Zav (f := ZdK) hx35c
   have hs := And.intro hx35d hs
   refine rg [1, 2, 3, 6, 8, 31, 32, 33] hs ?_
   obtain ⟨y36, hy36, h⟩ := bind_some h
   obtain ⟨hg37, h⟩ := Zad h
   have hO := hO.swap (List.Perm.swap _ _ _)
   obtain ⟨o38, rows39, hO, hap40⟩ := hO.append (P := Tryz.prog) Zsj (by rw [ZoB]; rfl) (by decide) 1 hg37.1 hg37.2
   replace hap40 := fun (ys : List AV) B L o2 => hap40 (x6_l29.map ZdK) ys B L o2 (by first | rfl | simp only [List.length_map, List.length_nil, List.length_append, List.length_cons, Nat.zero_add])
   replace hap40 := fun (y : AV) B L o2 => hap40 [y] B L o2 (by first | rfl | simp only [List.length_map, List.length_nil, List.length_cons]) ev
   try simp only [List.mem_singleton, List.mem_cons, List.not_mem_nil, or_false, forall_eq_or_imp, forall_eq, List.map_append, List.map_cons, List.map_nil, ZdZ, ZeA, Zeq, Zes, Zer, ZdU, Zc7, Zdb, Zez, ZbR, ZbQ, Zda] at hap40
   have hs := And.intro hap40 hs
   refine rk 2 [1, 2, 3, 6, 31, 32, 33] hs ?_
   refine Zaf _ (ZeS w0 rec ih n _ _ _ x35 _ hy36) (hv hs) ?_
   refine ne hs hK33 ?_
   clear hK33
   obtain ⟨hg41, h⟩ := Zad h
   refine rl [1, 2, 3, 6, 31, 32, 33] hs (fun e s => Vl29 ml29 e s (Nat.lt_succ_self _)) ?_
   exact ⟨x3_l29, (x6_l29 ++ ([y36])), (x33_l29 + 1), ox3_l29, o38, ([.val (.int .i64 x35.1) :: (.val (.string x35.2.1) :: (.val (.int .i64 x35.2.2.1) :: ((x35.2.2.2.1.cs) ++ ([.list (x35.2.2.2.2.map avV) .none]))))]), rows39, ef hs, ef hs, Owns.of_eq ((hO).swap (List.Perm.swap _ _ _)) (by first | rfl | simp only [List.length_append, List.length_cons, List.length_nil, List.length_map, Nat.zero_add, Nat.add_zero]), h⟩
  ·
   clear h; rintro e st ⟨x3_k26, x6_k26, ox3_k26, ox6_k26, Xk26, Rk26, rfl, rfl, hO, h⟩
   rw [Zd1] at h
   have hU := hO.unders
   simp only [List.mem_cons, List.not_mem_nil, or_false, forall_eq_or_imp, forall_eq] at hU
   obtain ⟨hU0, hU1⟩ := hU
   refine td hN hNR hNL hcalm hO ?_
   apply Zab; intro K42 hK42
   obtain ⟨hg43, h⟩ := Zad h
   apply Zac 2 [1, 2]
   rw [Zaa]; simp +decide only [go_sem, Nat.reduceAdd, Ty.cs_eqs a0]
   (repeat' apply And.intro) <;> first | refine Zaf _ (Zf2 w0 _ _ _ a0.words hg43) (by first | rfl | (simp +decide only [go_sem, Nat.reduceAdd, Ty.cs_eqs a0]; done) | (simp +decide only [go_sem, Nat.reduceAdd, Vl.cs, Ty.cs, Ty.cs_eqs a0]; done)) ?_ | exact cl
   rw [Zaa]; simp +decide only [go_sem, Nat.reduceAdd, Ty.cs_eqs a0]
   (repeat' apply And.intro) <;> first | refine hK42 _ _ ?_ | exact cl
   clear hK42
   apply Zab; intro K44 hK44
   apply Zac 1 [2]
   rw [Zaa]; simp +decide only [go_sem, Nat.reduceAdd, Ty.cs_eqs a0]
   (repeat' apply And.intro) <;> first | refine hK44 _ _ ?_ | exact cl
   clear hK44
   apply Zah; simp +decide only [go_sem, Nat.reduceAdd, Ty.cs_eqs a0]
   have hgt := Option.some.inj h; subst hgt
   first | refine ZaE hcalm rfl hO.pre ev ⟨?_, rfl⟩ | refine Za4 hcalm rfl hO.pre ev ⟨?_, rfl⟩
   first | rfl | (simp +decide only [go_sem, Nat.reduceAdd, Ty.cs_eqs a0]; done) | (simp +decide only [go_sem, Nat.reduceAdd, Vl.cs, Ty.cs, Ty.cs_eqs a0]; done)
theorem Ze6 (w0 : World) : ∀ n : Nat, ZhU w0 (Zb3 n)
 | 0 => fun _ _ _ _ _ h => (nomatch h)
 | n + 1 => Zkn w0 (Zb3 n) (Ze6 w0 n) n
def Zbc (n : Nat)  : Option Int :=
 some ((-1))
def ZaN (n : Nat) (a0 : List (Int × ByteArray × Int × Ty × List Vl)) (a1 : (Int × ByteArray × Int × Ty × List Vl) → Option Bool) : Nat → Int → Option Int
 | 0, _ => none
 | m + 1, x8_l6 =>
  if decide (x8_l6 < ((a0.length : Int))) then
   (idx a0 x8_l6).bind fun x13 =>
   (a1 x13).bind fun y14 =>
   if y14 then
    some (x8_l6)
   else
    if I64 (x8_l6 + 1) then
     (ZaN n a0 a1 m) (x8_l6 + 1)
    else none
  else
   Zbc n 
def ZaR (n : Nat) (a0 : List (Int × ByteArray × Int × Ty × List Vl)) (a1 : (Int × ByteArray × Int × Ty × List Vl) → Option Bool) : Option Int :=
 ZaN n a0 a1 n 0
theorem Zb1 (w0 : World) (n : Nat) (B : List (List AV)) (Rw : List RowA) (L : List LoopA) (a0 : List (Int × ByteArray × Int × Ty × List Vl)) (fa1 : FuncId) (ca1 : List AV) (a1 : (Int × ByteArray × Int × Ty × List Vl) → Option Bool) (ha1 : ∀ (x0 : Int × ByteArray × Int × Ty × List Vl) r, a1 x0 = some r → ∀ B' rows, B <+: B' → Rw <+: rows → ACalls Tryz.prog w0 fa1 ([.agg (.val (.int .i64 x0.1) :: (.val (.string x0.2.1) :: (.val (.int .i64 x0.2.2.1) :: ((x0.2.2.2.1.cs) ++ ([.list (x0.2.2.2.2.map avV) .none])))))] ++ ca1) ⟨B', rows, L⟩ fun v s => v = .val (.bool r) ∧ s = ⟨B', rows, L⟩) (r : Int) (h : ZaR n a0 a1 = some r) :
  ACalls Tryz.prog w0 118 [.list (a0.map ZdK) .none, .clo fa1 ca1] ⟨B, Rw, L⟩ fun x st => x = .val (.int .i64 r) ∧ st = ⟨B, Rw, L⟩ := by
 rw [ZaR] at h
 refine hd [.tmp 4] Tryz.func118 Tryz.ntmps118 fun M0 W0 hN hNR hNL hcalm hu hO hs => ?_
 simp only [Zan]
 have hU_a1 := ZcD (hu (.clo fa1 ca1) (by simp))
 refine rg [0, 1] hs ?_
 refine Zal (fun e st => Ck e st B Rw L [] [] [] (Zbc n  = some r)) ?_ ?_
 ·
  intro K4 hK4
  refine rg [0, 1, 7, 8] hs ?_
  apply Zae
  refine Zak (fun m e st => ∃ (x8_l6 : Int), Ck e st B Rw L [(0, true, .list (a0.map ZdK) .none), (1, true, .clo fa1 ca1), (7, true, .val (.int .i64 ((a0.length : Int)))), (8, true, .val (.int .i64 x8_l6))] [] [] (ZaN n a0 a1 m x8_l6 = some r)) n ⟨0, ([]), Rw, ef hs, ef hs, hO, h⟩ ?_
  rintro ml6 e st ⟨x8_l6, Xl6, Rl6, rfl, rfl, hO, h⟩ Ul6 Vl6
  cases ml6 with
  | zero => cases h
  | succ ml6 =>
  rw [ZaN] at h
  refine ZaM hN hNR hNL rfl hcalm hO (by (simp +decide only [go_sem, Nat.reduceAdd]) <;> (try (repeat' apply And.intro)) <;> first | omega | assumption | exact hU_a1 _ _ _ (by omega) (by have := hO.len; omega) (by omega)) (by (simp +decide only [go_sem, Nat.reduceAdd, ZbC]) <;> (try (repeat' apply And.intro)) <;> first | omega | assumption | exact hU_a1 _ _ _ (by omega) (by have := hO.len; omega) (by omega)) ?_
  refine rg [0, 1, 7, 8, 9] hs ?_
  apply Zab; intro K8 hK8
  refine cnd h hs (fun hs h => ?_) (fun hs h => ?_)
  rotate_left
  ·
   refine sx [] hs hK4 ?_
   exact ⟨([]), Rl6, ef hs, ef hs, hO, h⟩
  refine sk [0, 1, 7, 8] hs hK8 ?_
  clear hK8
  apply Zab; intro K10 hK10
  apply Zae
  refine rg [0, 1, 5, 7, 8] hs ?_
  obtain ⟨x13, hx13, h⟩ := bind_some h
  obtain ⟨hx13a, hx13b, hx13c⟩ := Zau hx13
  have hx13d := Zav (f := ZdK) hx13c
  obtain ⟨y14, hy14, h⟩ := bind_some h
  have hs := And.intro hx13d hs
  refine rc 2 [0, 1, 5, 7, 8, 16] hs ?_; intro K12 hK12
  refine Zk4 _ (ha1 x13 _ hy14 _ _ (by first | exact List.prefix_append _ _ | exact List.prefix_refl _) hO.pre) (hv hs) ?_
  refine ne hs hK12 ?_
  clear hK12
  refine cnd h hs (fun hs h => ?_) (fun hs h => ?_)
  ·
   refine rg [4] hs ?_
   exact rt h hs hcalm hO
  refine sk [0, 1, 7, 8] hs hK10 ?_
  clear hK10
  obtain ⟨hg17, h⟩ := Zad h
  refine rl [0, 1, 7, 8] hs (fun e s => Vl6 ml6 e s (Nat.lt_succ_self _)) ?_
  exact ⟨(x8_l6 + 1), ([]), Rl6, ef hs, ef hs, hO, h⟩
 ·
  clear h; rintro e st ⟨Xk3, Rk3, rfl, rfl, hO, h⟩
  rw [Zbc] at h
  refine ZaM hN hNR hNL rfl hcalm hO (by (simp +decide only [go_sem, Nat.reduceAdd]) <;> (try (repeat' apply And.intro)) <;> first | omega | assumption | exact hU_a1 _ _ _ (by omega) (by have := hO.len; omega) (by omega)) (by (simp +decide only [go_sem, Nat.reduceAdd, ZbC]) <;> (try (repeat' apply And.intro)) <;> first | omega | assumption | exact hU_a1 _ _ _ (by omega) (by have := hO.len; omega) (by omega)) ?_
  refine rg [4] hs ?_
  exact rt h hs hcalm hO
def ZiZ (n : Nat) (a0 : Ty) (a1 : (Int × ByteArray × Int × Ty × List Vl) → Option Bool) : Option ((Int × ByteArray × Int × Ty × List Vl) × Bool) :=
 if (!(decide (a0.kind = 9))) && (!(decide (a0.kind = 10))) then
  some (((0, (⟨#[]⟩ : ByteArray), 0, Ty.mk 0 0 0 0 ([]) ([]) ([]), []), false))
 else
  (ZaR n a0.fields a1).bind fun y7 =>
  if decide (y7 < 0) then
   some (((0, (⟨#[]⟩ : ByteArray), 0, Ty.mk 0 0 0 0 ([]) ([]) ([]), []), false))
  else
   (idx a0.fields y7).bind fun x13 =>
   (ZaV (Zb3 n) n x13).bind fun y14 =>
   some ((y14, true))
theorem ZnU (w0 : World) (n : Nat) (B : List (List AV)) (Rw : List RowA) (L : List LoopA) (a0 : Ty) (fa1 : FuncId) (ca1 : List AV) (a1 : (Int × ByteArray × Int × Ty × List Vl) → Option Bool) (ha1 : ∀ (x0 : Int × ByteArray × Int × Ty × List Vl) r, a1 x0 = some r → ∀ B' rows, B <+: B' → Rw <+: rows → ACalls Tryz.prog w0 fa1 ([.agg (.val (.int .i64 x0.1) :: (.val (.string x0.2.1) :: (.val (.int .i64 x0.2.2.1) :: ((x0.2.2.2.1.cs) ++ ([.list (x0.2.2.2.2.map avV) .none])))))] ++ ca1) ⟨B', rows, L⟩ fun v s => v = .val (.bool r) ∧ s = ⟨B', rows, L⟩) (r : (Int × ByteArray × Int × Ty × List Vl) × Bool) (h : ZiZ n a0 a1 = some r) :
  ACalls Tryz.prog w0 68 [.agg (a0.cs), .clo fa1 ca1] ⟨B, Rw, L⟩ fun x st => x = .tup [.agg (.val (.int .i64 r.1.1) :: (.val (.string r.1.2.1) :: (.val (.int .i64 r.1.2.2.1) :: ((r.1.2.2.2.1.cs) ++ ([.list (r.1.2.2.2.2.map avV) .none]))))), .val (.bool r.2)] ∧ st = ⟨B, Rw, L⟩ := by
 rw [ZiZ] at h
 refine hd [.cell 4 53, .tmp 5] Tryz.func68 Tryz.ntmps68 fun M0 W0 hN hNR hNL hcalm hu hO hs => ?_
 simp only [Zan]
 have hU_a1 := ZcD (hu (.clo fa1 ca1) (by simp))
 refine rg [1, 2, 4] hs ?_
 apply Zab; intro K2 hK2
 refine rg [1, 2, 4, 14] hs ?_
 refine cnd h hs (fun hs h => ?_) (fun hs h => ?_)
 ·
  have hb4 := hs.1
  apply Zab; intro K5 hK5
  apply Zac 1 [4, 5]
  rw [Zaa]; simp +decide only [go_sem, Nat.reduceAdd, hb4, ZaP, Zax, Zas]
  (repeat' apply And.intro) <;> first | refine hK5 _ _ ?_ | exact cl
  clear hK5
  exact rt h hs hcalm hO
 have hb4 := hs.1
 refine sk [1, 2, 4] hs hK2 ?_
 clear hK2
 obtain ⟨y7, hy7, h⟩ := bind_some h
 refine rc 2 [2, 4, 6] hs ?_; intro K6 hK6
 refine Zaf _ (Zb1 w0 n _ _ _ a0.fields fa1 ca1 a1 (fun x0 r hx B'' rows'' q1 q2 => ha1 x0 r hx B'' rows'' (List.IsPrefix.trans (by first | exact List.prefix_append _ _ | exact List.prefix_refl _) q1) (hO.pre.trans q2)) _ hy7) (hv hs) ?_
 refine ne hs hK6 ?_
 clear hK6
 apply Zab; intro K8 hK8
 refine rg [2, 4, 6, 21] hs ?_
 refine cnd h hs (fun hs h => ?_) (fun hs h => ?_)
 ·
  have hb10 := hs.1
  apply Zab; intro K11 hK11
  apply Zac 1 [4, 5]
  rw [Zaa]; simp +decide only [go_sem, Nat.reduceAdd, hb4, hb10, ZaP, Zax, Zas]
  (repeat' apply And.intro) <;> first | refine hK11 _ _ ?_ | exact cl
  clear hK11
  exact rt h hs hcalm hO
 have hb10 := hs.1
 refine sk [2, 4, 6] hs hK8 ?_
 clear hK8
 obtain ⟨x13, hx13, h⟩ := bind_some h
 obtain ⟨hx13a, hx13b, hx13c⟩ := Zau hx13
 have hx13d := Zav (f := ZdK) hx13c
 obtain ⟨y14, hy14, h⟩ := bind_some h
 have hs := And.intro hx13d hs
 refine rc 2 [4, 5] hs ?_; intro K12 hK12
 refine Zaf _ (ZeS w0 (Zb3 n) (Ze6 w0 n) n _ _ _ x13 _ hy14) (hv hs) ?_
 refine ne hs hK12 ?_
 clear hK12
 exact rt h hs hcalm hO
def Zdk (a0 : Int × ByteArray × Int × Ty × List Vl) (a1 : ByteArray) : Bool :=
 sEq a0.2.1 a1
theorem Zkb (w0 : World) (B : List (List AV)) (Rw : List RowA) (L : List LoopA) (a0 : Int × ByteArray × Int × Ty × List Vl) (la1 : Nat) (a1 : ByteArray) (hla1 : B[la1]? = some ([.val (.string a1)])) (r : Bool) (h : Zdk a0 a1 = r) :
  ACalls Tryz.prog w0 69 [.agg (.val (.int .i64 a0.1) :: (.val (.string a0.2.1) :: (.val (.int .i64 a0.2.2.1) :: ((a0.2.2.2.1.cs) ++ ([.list (a0.2.2.2.2.map avV) .none]))))), .box la1 0] ⟨B, Rw, L⟩ fun x st => x = .val (.bool r) ∧ st = ⟨B, Rw, L⟩ := by
 rw [Zdk] at h
 refine hd [.tmp 3] Tryz.func69 Tryz.ntmps69 fun M0 W0 hN hNR hNL hcalm hu hO hs => ?_
 simp only [Zan]
 have hltla1 := (List.getElem?_eq_some_iff.1 hla1).1
 have hs := And.intro (Zag hla1) hs
 refine rg [1, 2] hs ?_
 refine rg [3] hs ?_
 apply Zah; simp +decide only [go_sem, Nat.reduceAdd, Zag hla1]
 subst h
 first | refine ZaE hcalm rfl hO.pre ev ⟨?_, rfl⟩ | refine Za4 hcalm rfl hO.pre ev ⟨?_, rfl⟩
 first | rfl | (simp +decide only [go_sem, Nat.reduceAdd, Zag hla1]; done) | (simp +decide only [go_sem, Nat.reduceAdd, Vl.cs, Ty.cs, Zag hla1]; done)
theorem Zi3 (w0 : World) (B : List (List AV)) (Rw : List RowA) (L : List LoopA) (a0 : Int × ByteArray × Int × Ty × List Vl) (la1 : Nat) (a1 : ByteArray) (hla1 : B[la1]? = some ([.val (.string a1)])) :
  ACalls Tryz.prog w0 69 [.agg (.val (.int .i64 a0.1) :: (.val (.string a0.2.1) :: (.val (.int .i64 a0.2.2.1) :: ((a0.2.2.2.1.cs) ++ ([.list (a0.2.2.2.2.map avV) .none]))))), .box la1 0] ⟨B, Rw, L⟩ fun x st => x = .val (.bool (Zdk a0 a1)) ∧ st = ⟨B, Rw, L⟩ := Zkb w0 B Rw L a0 la1 a1 hla1 _ rfl
def ZeD (n : Nat) (a0 : Ty) (a1 : ByteArray) : Option ((Int × ByteArray × Int × Ty × List Vl) × Bool) :=
 (ZiZ n a0 (fun (x0 : Int × ByteArray × Int × Ty × List Vl) => some (Zdk x0 a1))).bind fun y3 =>
 some ((y3.1, y3.2))
theorem ZgK (w0 : World) (n : Nat) (B : List (List AV)) (Rw : List RowA) (L : List LoopA) (a0 : Ty) (a1 : ByteArray) (r : (Int × ByteArray × Int × Ty × List Vl) × Bool) (h : ZeD n a0 a1 = some r) :
  ACalls Tryz.prog w0 31 [.agg (a0.cs), .val (.string a1)] ⟨B, Rw, L⟩ fun x st => x = .tup [.agg (.val (.int .i64 r.1.1) :: (.val (.string r.1.2.1) :: (.val (.int .i64 r.1.2.2.1) :: ((r.1.2.2.2.1.cs) ++ ([.list (r.1.2.2.2.2.map avV) .none]))))), .val (.bool r.2)] ∧ st = ⟨B, Rw, L⟩ := by
 rw [ZeD] at h
 refine hd [.cell 4 53, .tmp 5] Tryz.func31 Tryz.ntmps31 fun M0 W0 hN hNR hNL hcalm hu hO hs => ?_
 simp only [Zan]
 refine rg [2, 3, 4] hs ?_
 obtain ⟨y3, hy3, h⟩ := bind_some h
 refine rc 2 [4, 5] hs ?_; intro K2 hK2
 refine Zaf _ (ZnU w0 n _ _ _ a0 69 [.box (B.length + 1) 0] (fun (x0 : Int × ByteArray × Int × Ty × List Vl) => some (Zdk x0 a1)) (fun x0 r hx B' rows' hB' hR' => by cases hx; exact Zi3 w0 _ _ _ x0 _ a1 (Zdf hB' ev)) _ hy3) (hv hs) ?_
 refine ne hs hK2 ?_
 clear hK2
 exact rt h hs hcalm hO
end Go.Proofs.YtggimoedcamonaaGreatDoor
namespace Go.Ev
open Go Go.RowKit
def Mem.start : Mem := ⟨0, 0, fun _ => 0, fun _ => 0, fun _ => 0, fun _ => 0, fun _ => 0, fun _ => 0, 0, fun _ => 0⟩
theorem ZnC (W : World) : RelSt W Mem.start ⟨[], [], []⟩ W where
 below := .refl _ _
 N := rfl
 NR := rfl
 top := fun _ _ => rfl
 inj := fun _ _ h => absurd h (Nat.not_lt_zero _)
 box := fun _ _ h => by simp at h
 row := fun _ _ h => by simp at h
 rowinj := fun _ _ h => absurd h (Nat.not_lt_zero _)
 loop := ⟨rfl, fun _ _ h => absurd h (Nat.not_lt_zero _), fun _ _ h => by simp at h⟩
theorem Zhe {P : Program} {f : FuncId} {W : World} {vals : Array Value} {args : List AV} {r : Value} (h : ACalls P W f args ⟨[], [], []⟩ fun v st => v = .val r ∧ st = ⟨[], [], []⟩) (hr : RowR W Mem.start W vals args) :
  Calls P f vals W fun e w' => e = .returned r ∧ Below W.heap.size W w' :=
 (h.2 Mem.start W vals (ZnC W) hr).mono fun en w' ⟨v, M', a, st, h1, ⟨h2, _⟩, _, h4, h5⟩ => by
  subst h2
  have := h5.val_inv.1
  subst this
  exact ⟨h1, h4.below⟩
theorem Zo4 {W : World} {v : Value} {x : AV} (h : R W Mem.start W v x) : RowR W Mem.start W #[v] [x] := ⟨rfl, fun i h1 h2 => by
 obtain rfl : i = 0 := by simp at h2; exact h2
 exact h⟩
end Go.Ev
namespace Go.Proofs.YtggimoedcamonaaGreatDoor
open Go Go.Shelf Go.ChangeShapes Go.WideShapes Go.ChangeAt Go.RowKit Go.Lib Go.Ev
open Go.ChangeMaps (open_string shut_string)
set_option maxRecDepth 100000
theorem Zrl : ownKnob Tryz.prog.godebug = none := by kernel_rfl
def ZuV : DataW Unit → List Value
 | .lit (.int k z) => [.int k z]
 | .agg l => l.flatMap fun | .lit (.int k z) => [.int k z] | _ => []
 | _ => []
def ZuI : DataW Unit → List Value
 | .agg l => l.flatMap ZuV
 | _ => []
noncomputable def Zhc (os : Os) : World :=
 let w0 := World.holding Tryz.prog os ⟨#[], #[], []⟩
 let put (h : Array Obj) (g : Nat) (d : DataW Unit) : Array Obj := h.modify g fun
  | .cells _ t frozen => .cells (ZuI d).toArray t frozen
  | o => o
 { w0 with heap := put (put (put (put (put w0.heap 0 Rows.laid_unicode_utf8_first) 1 Rows.laid_unicode_utf8_acceptRanges) 3 Rows.laid_internal_strconv_uint64pow10) 4 Rows.laid_math_bits_deBruijn32tab) 5 Rows.laid_math_bits_deBruijn64tab }
theorem Zka (os : Os) (args : Array Value) : laidMet Tryz.prog Rows.schemaKindsRow.laid ((Zhc os).forCall (fun _ _ => 0) ⟨#[], args, []⟩).memory :=
 (LaidIn.of_run (l := Rows.schemaKindsRow.laid) [4, 5, 3, 1, 0] 8 (by kernel_rfl) (by kernel_rfl) (by kernel_rfl) (by kernel_rfl)).met
theorem Zil {W : World} (h : Lib.VarReads Tryz.prog W ZfU Rows.laid_internal_strconv_uint64pow10) : Pow10 W := by
 obtain ⟨g, t, cs, fuel, p, h1, h2, h3, h4⟩ := h
 obtain rfl := Option.some.inj ((show Tryz.prog.globalNamed ZfU = some 3 by kernel_rfl).symm.trans h1)
 obtain rfl := Option.some.inj ((show (Tryz.prog.globals[3]?).map (·.type) = some 227 by kernel_rfl).symm.trans h2)
 have e : (Rows.laid_internal_strconv_uint64pow10 : DataW Unit) = Lib.tabData .u64 Lib.pow10Tab := by kernel_rfl
 rw [e] at h4
 unfold Pow10 Lib.TabIs
 rw [h3, ← Lib.cells_of_tab (n := 20) (k := .u64) (zs := Lib.pow10Tab) Tryz.underlying227 Tryz.underlying192 (by kernel_rfl) (by kernel_rfl) h4]
theorem ZoO {W : World} (hL : laidMet Tryz.prog Rows.schemaKindsRow.laid W) : Lib.Utf8Tabs 0 1 W ∧ Pow10 W :=
 ⟨utf8Tabs_of_readsT (U8Types.of196 Tryz.laysValid) ⟨by kernel_rfl, by kernel_rfl, by kernel_rfl, by kernel_rfl, by kernel_rfl, by kernel_rfl, by kernel_rfl⟩ (Lib.laidMet.reads hL (.tail _ (.tail _ (.tail _ (.tail _ (.head _)))))) (Lib.laidMet.reads hL (.tail _ (.tail _ (.tail _ (.head _))))),
  Zil (Lib.laidMet.reads hL (.tail _ (.tail _ (.head _))))⟩
set_option maxRecDepth 100000
mutual
def Vl.wf : Vl → Prop
 | .mk k i s t l f => I64 k ∧ I64 i ∧ I64 s ∧ t.size ≤ maxLen ∧ l.length ≤ maxLen ∧ f.length ≤ maxLen ∧ Zts l ∧ Ztv f
def Zts : List Vl → Prop
 | [] => True
 | v :: r => v.wf ∧ Zts r
def Ztv : List (ByteArray × Vl) → Prop
 | [] => True
 | (n, v) :: r => n.size ≤ maxLen ∧ v.wf ∧ Ztv r
end
theorem ZlF : ∀ l, Zts l ↔ ∀ v ∈ l, v.wf
 | [] => by simp [Zts]
 | v :: r => by simp [Zts, ZlF r]
theorem Zlm : ∀ l, Ztv l ↔ ∀ p ∈ l, p.1.size ≤ maxLen ∧ p.2.wf
 | [] => by simp [Ztv]
 | (n, v) :: r => by simp [Ztv, Zlm r, and_assoc]
mutual
def Ty.wf : Ty → Prop
 | .mk k lo hi s w e f => I64 k ∧ I64 lo ∧ I64 hi ∧ I64 s ∧ (∀ x ∈ w, x.size ≤ maxLen) ∧ w.length ≤ maxLen ∧ e.length ≤ maxLen ∧ f.length ≤ maxLen ∧ Zsv e ∧ ZmK f
def Zsv : List Ty → Prop
 | [] => True
 | v :: r => v.wf ∧ Zsv r
def ZmK : List (Int × ByteArray × Int × Ty × List Vl) → Prop
 | [] => True
 | (n, s, d, t, l) :: r => (I64 n ∧ s.size ≤ maxLen ∧ I64 d ∧ t.wf ∧ l.length ≤ maxLen ∧ ∀ v ∈ l, v.wf) ∧ ZmK r
end
theorem Zlf : ∀ l, Zsv l ↔ ∀ v ∈ l, v.wf
 | [] => by simp [Zsv]
 | v :: r => by simp [Zsv, Zlf r]
theorem Zkm : ∀ l, ZmK l ↔ ∀ p ∈ l, I64 p.1 ∧ p.2.1.size ≤ maxLen ∧ I64 p.2.2.1 ∧ p.2.2.2.1.wf ∧ p.2.2.2.2.length ≤ maxLen ∧ ∀ v ∈ p.2.2.2.2, v.wf
 | [] => by simp [ZmK]
 | (n, s, d, t, l) :: r => by simp [ZmK, Zkm r]
def Part.wf (p : Part) : Prop := I64 p.kind ∧ I64 p.index ∧ p.name.size ≤ maxLen
def Sch.wf (s : Sch) : Prop := s.name.size ≤ maxLen ∧ I64 s.version ∧ s.type.wf
section
variable {H : Type} {enc : TypeId × Value → H} {W : World}
def RC (W : World) (cs : List Value) (xs : List AV) : Prop := cs.length = xs.length ∧ ∀ i (h1 : i < cs.length) (h2 : i < xs.length), R W Mem.start W cs[i] xs[i]
theorem RC.nil : RC W [] [] := ⟨rfl, fun i h1 => absurd h1 (by simp)⟩
theorem RC.cons {v : Value} {x : AV} {cs : List Value} {xs : List AV} (h : R W Mem.start W v x) (k : RC W cs xs) : RC W (v :: cs) (x :: xs) := ⟨by simp [k.1], fun i h1 h2 => by
 cases i with
 | zero => exact h
 | succ i => simpa using k.2 i (by simpa using h1) (by simpa using h2)⟩
theorem RC.app {cs ds : List Value} {xs ys : List AV} (h : RC W cs xs) (k : RC W ds ys) : RC W (cs ++ ds) (xs ++ ys) := by
 refine ⟨by simp [h.1, k.1], fun i h1 h2 => ?_⟩
 by_cases c : i < cs.length
 ·
  rw [List.getElem_append_left c, List.getElem_append_left (h.1 ▸ c)]; exact h.2 i c _
 ·
  rw [List.getElem_append_right (Nat.le_of_not_lt c), List.getElem_append_right (h.1 ▸ Nat.le_of_not_lt c)]
  simp only [h.1]
  exact k.2 _ (by have := h.1; rw [List.length_append] at h1; omega) (by have := h.1; rw [List.length_append] at h2; omega)
theorem RC.agg {cs : List Value} {xs : List AV} (h : RC W cs xs) (h1 : ∀ x ∈ xs, x.one = true) : R W Mem.start W (.agg cs.toArray) (.agg xs) := .agg (by simpa using h.1) h1 (fun i a b => by simpa using h.2 i (by simpa using a) b)
noncomputable abbrev Td (enc : TypeId × Value → H) (W : World) (n : Nat) (t : TypeId) (cs : List Value) : Option (DataW H × List MemPlace) := DataW.trod enc Tryz.prog W 0 (fun _ => true) true n t cs
theorem ZfK {n : Nat} {cs : List Value} {x : DataW H × List MemPlace} (h : Td enc W n 3 cs = some x) : ∃ z, I64 z ∧ cs = [.int .i64 z] := by
 obtain ⟨z, rfl, _, hw⟩ := DataW.trod_int Tryz.underlying3 h
 refine ⟨z, ?_, rfl⟩
 simp [Lit.wf, IntKind.min, IntKind.max, IntKind.signed, IntKind.bits] at hw
 unfold I64
 omega
theorem Zlz {n : Nat} {cs : List Value} {x : DataW H × List MemPlace} (h : Td enc W n 9 cs = some x) : ∃ s : ByteArray, s.size ≤ maxLen ∧ cs = [.string s] := by
 obtain ⟨s, rfl, _, hw⟩ := DataW.trod_string Tryz.underlying9 h
 exact ⟨s, hw, rfl⟩
theorem Ze2 {α : Type} (f : α → AV) (p : α → Prop) {t e : TypeId} {sz : Nat} (ht : Tryz.prog.underlying t = some (.slice e)) (hc : Tryz.prog.cellsOf e = sz) (hsz : 0 < sz) {n : Nat}
  (H0 : ∀ cs x, Td enc W n e cs = some x → ∃ y u, p y ∧ u.cells.toList = cs ∧ R W Mem.start W u (f y)) {cs : List Value} {x : DataW H × List MemPlace} (h : Td enc W (n + 1) t cs = some x) :
  ∃ (l : List α) (v : Value), (∀ y ∈ l, p y) ∧ l.length ≤ maxLen ∧ cs = [v] ∧ R W Mem.start W v (.list (l.map f) .none) := by
 rcases DataW.trod_slice ht h with ⟨rfl, _⟩ | ⟨a, len, cap, elems, rest, n', hn, rfl, _, hb, hl, hm, hlen, hel, hsp, _⟩
 ·
  exact ⟨[], _, by simp, by simp, rfl, .nil (fun id => by simp)⟩
 ·
  cases hn
  by_cases hcap : cap = 0
  ·
   subst hcap
   obtain rfl : len = 0 := by omega
   exact ⟨[], _, by simp, by simp, rfl, .emp (fun id => by simp)⟩
  have hspot : a.spot = none := by
   have get : ∀ (c : DataW H × List MemPlace) (r : List Value → Option (DataW H × List MemPlace)), (W.cells? 0 (a.add (0 * Tryz.prog.cellsOf e)) (Tryz.prog.cellsOf e)).bind r = some c → a.spot = none := fun c r hr => by
    obtain ⟨cs', h1, _⟩ := Option.bind_eq_some_iff.1 hr
    obtain ⟨_, h2, h3⟩ := World.cells?_some h1
    have h4 := h3 0 (by omega)
    rw [List.getElem?_eq_getElem (by omega)] at h4
    have e0 : (a.add (0 * Tryz.prog.cellsOf e)).add 0 = a := by simp [Addr.add]
    rw [e0] at h4
    unfold World.cell? at h4
    split at h4
    ·
     split at h4
     ·
      cases h4
     ·
      rename_i q; simpa using q
    ·
     cases h4
   by_cases h0 : 0 < len
   ·
    have := hel 0 h0
    rw [List.getElem?_eq_getElem (by omega)] at this
    exact get _ _ this
   ·
    obtain ⟨h1, h2⟩ := hsp rfl
    have := h2 0 (by omega)
    rw [List.getElem?_eq_getElem (by omega)] at this
    obtain rfl : len = 0 := by omega
    exact get _ _ this
  obtain ⟨b, off, sp⟩ := a
  simp only at hspot
  subst hspot
  have key : ∀ i, i < len → ∃ y u, p y ∧ R W Mem.start W u (f y) ∧ u.cells.size = sz ∧ ∀ j, j < sz → W.cell? ⟨b, off + i * sz + j, none⟩ = u.cells[j]? := fun i hi => by
   have h1 := hel i hi
   rw [List.getElem?_eq_getElem (by omega)] at h1
   obtain ⟨cs', h2, h3⟩ := Option.bind_eq_some_iff.1 h1
   obtain ⟨y, u, h4, h5, h6⟩ := H0 _ _ h3
   obtain ⟨_, h7, h8⟩ := World.cells?_some h2
   rw [hc] at h7 h8
   refine ⟨y, u, h4, h6, by rw [← h7, ← h5, Array.length_toList], fun j hj => ?_⟩
   have := h8 j hj
   rw [← h5, Array.getElem?_toList] at this
   rw [← this]
   congr 1
   have ea : ∀ (o m : Nat), (⟨b, o, none⟩ : Addr).add m = ⟨b, o + m, none⟩ := fun o m => by unfold Addr.add; split <;> simp_all
   rw [ea, ea]
  classical
  let y : Nat → Option (α × Value) := fun i => if hi : i < len then some (Classical.choose (key i hi), Classical.choose (Classical.choose_spec (key i hi))) else none
  have hne : len = 0 ∨ Nonempty (α × Value) := by
   by_cases h0 : 0 < len
   ·
    obtain ⟨z, u, _⟩ := key 0 h0; exact .inr ⟨(z, u)⟩
   ·
    exact .inl (by omega)
  rcases hne with h0 | ⟨⟨d⟩⟩
  ·
   subst h0
   exact ⟨[], _, by simp, by simp, rfl, .list (xs := []) 0 (fun _ => undef) (Nat.zero_le _) hm (fun i hi => absurd hi (by simp)) (fun i hi => absurd hi (by simp)) trivial⟩
  ·
   let g : Nat → α × Value := fun i => if hi : i < len then (Classical.choose (key i hi), Classical.choose (Classical.choose_spec (key i hi))) else d
   have hg : ∀ i, i < len → p (g i).1 ∧ R W Mem.start W (g i).2 (f (g i).1) ∧ (g i).2.cells.size = sz ∧ ∀ j, j < sz → W.cell? ⟨b, off + i * sz + j, none⟩ = (g i).2.cells[j]? := fun i hi => by
    have := Classical.choose_spec (Classical.choose_spec (key i hi))
    simp only [g, dif_pos hi]
    exact this
   have hlen2 : (((List.range len).map fun i => (g i).1).map f).length = len := by simp
   refine ⟨(List.range len).map fun i => (g i).1, .slice (some ⟨b, off, none⟩) len cap, fun z hz => ?_, by simp; omega, rfl, ?_⟩
   ·
    obtain ⟨i, hi, rfl⟩ := List.mem_map.1 hz
    exact (hg i (by simpa using hi)).1
   ·
    have := Ev.R.list (w0 := W) (M := Ev.Mem.start) (w := W) (b := b) (off := off) (cap := cap) (xs := ((List.range len).map fun i => (g i).1).map f) (o := .none) sz (fun i => (g i).2) (by rw [hlen2]; exact hl) hm
     (fun i hi => by
      rw [hlen2] at hi
      obtain ⟨_, _, h3, h4⟩ := hg i hi
      refine ⟨h3, fun j hj => ⟨.inl ?_, h4 j hj⟩⟩
      have := h4 j hj
      rw [Array.getElem?_eq_getElem (by rw [h3]; exact hj)] at this
      exact World.block_lt_of_cell? W _ this) (fun i hi => by
      rw [hlen2] at hi
      simp only [List.getElem_map, List.getElem_range]
      exact (hg i hi).2.1) trivial
    rw [hlen2] at this
    exact this
theorem Vl.ones (v : Vl) : ∀ x ∈ v.cs, x.one = true := by
 cases v; intro x hx
 simp only [Vl.cs, List.mem_cons, List.not_mem_nil, or_false] at hx
 rcases hx with rfl | rfl | rfl | rfl | rfl | rfl <;> rfl
theorem Ty.ones (v : Ty) : ∀ x ∈ v.cs, x.one = true := by
 cases v; intro x hx
 simp only [Ty.cs, List.mem_cons, List.not_mem_nil, or_false] at hx
 rcases hx with rfl | rfl | rfl | rfl | rfl | rfl | rfl <;> rfl
theorem Znh : ∀ (n : Nat) (cs : List Value) (x : DataW H × List MemPlace), Td enc W n 34 cs = some x → ∃ v : Vl, v.wf ∧ RC W cs v.cs
 | 0, cs, x, h => by simp [Td, DataW.trod] at h
 | n + 1, cs, x, h => by
  obtain ⟨xs, n', hn, _, hl, hx, hf⟩ := DataW.trod_struct Tryz.underlying34 h
  cases hn
  have hl6 : cs.length = 6 := hl.trans (by kernel_rfl)
  have hx6 : xs.length = 6 := hx
  match cs, hl6 with
  | [c0, c1, c2, c3, c4, c5], _ =>
  have g : ∀ i (hi : i < 6), xs[i]? = some (xs[i]'(by omega)) := fun i hi => List.getElem?_eq_getElem _
  have f0 := hf 0 _ rfl; have f1 := hf 1 _ rfl; have f2 := hf 2 _ rfl; have f3 := hf 3 _ rfl; have f4 := hf 4 _ rfl; have f5 := hf 5 _ rfl
  rw [g 0 (by omega)] at f0; rw [g 1 (by omega)] at f1; rw [g 2 (by omega)] at f2; rw [g 3 (by omega)] at f3; rw [g 4 (by omega)] at f4; rw [g 5 (by omega)] at f5
  obtain ⟨k, hk, ek⟩ := ZfK f0
  obtain ⟨i, hi, ei⟩ := ZfK f1
  obtain ⟨s, hs, es⟩ := ZfK f2
  obtain ⟨t, ht, et⟩ := Zlz f3
  cases n with
  | zero => simp [DataW.trod] at f4
  | succ n =>
  obtain ⟨l, vl, hl1, hl2, el, hRl⟩ := Ze2 avV Vl.wf Tryz.underlying31 (sz := 6) (by kernel_rfl) (by omega) (fun cs x h => by
   obtain ⟨v, hv, hR⟩ := Znh n cs x h
   exact ⟨v, .agg cs.toArray, hv, by simp [Value.cells], hR.agg v.ones⟩) f4
  obtain ⟨fl, vf, hf1, hf2, ef, hRf⟩ := Ze2 avF (fun p => p.1.size ≤ maxLen ∧ p.2.wf) Tryz.underlying32 (sz := 7) (by kernel_rfl) (by omega) (fun cs x h => by
   cases n with
   | zero => simp [DataW.trod] at h
   | succ n =>
   obtain ⟨ys, n', hn, _, hl, hx, hf⟩ := DataW.trod_struct Tryz.underlying83 h
   cases hn
   have hl7 : cs.length = 7 := hl.trans (by kernel_rfl)
   have hx2 : ys.length = 2 := hx
   have q0 := hf 0 _ rfl; have q1 := hf 1 _ rfl
   rw [List.getElem?_eq_getElem (by omega)] at q0 q1
   obtain ⟨nm, hnm, en⟩ := Zlz q0
   obtain ⟨v, hv, hR⟩ := Znh n _ _ q1
   have e2 : Tryz.prog.cellsOf 34 = 6 := by kernel_rfl
   have e3 : Tryz.prog.cellsOf 9 = 1 := by kernel_rfl
   simp only [List.getElem_toArray, List.getElem_cons_zero, List.getElem_cons_succ, e2, e3] at en hR
   match cs, hl7 with
   | [c0, c1, c2, c3, c4, c5, c6], _ =>
   simp only [List.drop_zero, List.take_succ_cons, List.take_zero, List.cons.injEq, and_true, List.drop_succ_cons] at en hR
   subst en
   refine ⟨(nm, v), .agg #[.string nm, c1, c2, c3, c4, c5, c6], ⟨hnm, hv⟩, rfl, ?_⟩
   exact RC.agg (cs := [.string nm, c1, c2, c3, c4, c5, c6]) (.cons (.flat (decide_eq_true hnm)) hR) (fun x hx => by
    rcases List.mem_cons.1 hx with rfl | hx
    ·
     rfl
    ·
     exact v.ones x hx)) f5
  have c1' : Tryz.prog.cellsOf 3 = 1 := by kernel_rfl
  have c2' : Tryz.prog.cellsOf 9 = 1 := by kernel_rfl
  have c3' : Tryz.prog.cellsOf 31 = 1 := by kernel_rfl
  have c4' : Tryz.prog.cellsOf 32 = 1 := by kernel_rfl
  simp only [List.getElem_toArray, List.getElem_cons_zero, List.getElem_cons_succ, c1', c2', c3', c4', List.drop_zero, List.take_succ_cons, List.take_zero, List.cons.injEq, and_true, List.drop_succ_cons] at ek ei es et el ef
  subst ek ei es et el ef
  refine ⟨.mk k i s t l fl, ?_, ?_⟩
  ·
   unfold Vl.wf
   exact ⟨hk, hi, hs, ht, hl2, hf2, (ZlF l).2 hl1, (Zlm fl).2 hf1⟩
  ·
   rw [Vl.cs, ZjB, Zli]
   exact .cons (.flat rfl) (.cons (.flat rfl) (.cons (.flat rfl) (.cons (.flat (decide_eq_true ht)) (.cons hRl (.cons hRf .nil)))))
theorem Znz : ∀ (n : Nat) (cs : List Value) (x : DataW H × List MemPlace), Td enc W n 26 cs = some x → ∃ v : Ty, v.wf ∧ RC W cs v.cs
 | 0, cs, x, h => by simp [Td, DataW.trod] at h
 | n + 1, cs, x, h => by
  obtain ⟨xs, n', hn, _, hl, hx, hf⟩ := DataW.trod_struct Tryz.underlying26 h
  cases hn
  have hl7 : cs.length = 7 := hl.trans (by kernel_rfl)
  have hx7 : xs.length = 7 := hx
  match cs, hl7 with
  | [c0, c1, c2, c3, c4, c5, c6], _ =>
  have g : ∀ i (hi : i < 7), xs[i]? = some (xs[i]'(by omega)) := fun i hi => List.getElem?_eq_getElem _
  have f0 := hf 0 _ rfl; have f1 := hf 1 _ rfl; have f2 := hf 2 _ rfl; have f3 := hf 3 _ rfl; have f4 := hf 4 _ rfl; have f5 := hf 5 _ rfl; have f6 := hf 6 _ rfl
  rw [g 0 (by omega)] at f0; rw [g 1 (by omega)] at f1; rw [g 2 (by omega)] at f2; rw [g 3 (by omega)] at f3; rw [g 4 (by omega)] at f4; rw [g 5 (by omega)] at f5; rw [g 6 (by omega)] at f6
  obtain ⟨k, hk, ek⟩ := ZfK f0
  obtain ⟨lo, hlo, elo⟩ := ZfK f1
  obtain ⟨hi, hhi, ehi⟩ := ZfK f2
  obtain ⟨s, hs, es⟩ := ZfK f3
  cases n with
  | zero => simp [DataW.trod] at f4
  | succ n =>
  obtain ⟨w, vw, hw1, hw2, ew, hRw⟩ := Ze2 avS (fun s => s.size ≤ maxLen) Tryz.underlying22 (sz := 1) (by kernel_rfl) (by omega) (fun cs x h => by
   obtain ⟨s, hs, rfl⟩ := Zlz h
   exact ⟨s, .string s, hs, rfl, .flat (decide_eq_true hs)⟩) f4
  obtain ⟨el, ve, he1, he2, ee, hRe⟩ := Ze2 avT Ty.wf Tryz.underlying23 (sz := 7) (by kernel_rfl) (by omega) (fun cs x h => by
   obtain ⟨v, hv, hR⟩ := Znz n cs x h
   exact ⟨v, .agg cs.toArray, hv, by simp [Value.cells], hR.agg v.ones⟩) f5
  obtain ⟨fl, vf, hf1, hf2, ef, hRf⟩ := Ze2 ZdK (fun p => I64 p.1 ∧ p.2.1.size ≤ maxLen ∧ I64 p.2.2.1 ∧ p.2.2.2.1.wf ∧ p.2.2.2.2.length ≤ maxLen ∧ ∀ v ∈ p.2.2.2.2, v.wf) Tryz.underlying24 (sz := 11) (by kernel_rfl) (by omega) (fun cs x h => by
   cases n with
   | zero => simp [DataW.trod] at h
   | succ n =>
   obtain ⟨ys, n', hn, _, hl, hx, hf⟩ := DataW.trod_struct Tryz.underlying53 h
   cases hn
   have hl11 : cs.length = 11 := hl.trans (by kernel_rfl)
   have hx5 : ys.length = 5 := hx
   have q0 := hf 0 _ rfl; have q1 := hf 1 _ rfl; have q2 := hf 2 _ rfl; have q3 := hf 3 _ rfl; have q4 := hf 4 _ rfl
   rw [List.getElem?_eq_getElem (by omega)] at q0 q1 q2 q3 q4
   obtain ⟨nu, hnu, enu⟩ := ZfK q0
   obtain ⟨nm, hnm, en⟩ := Zlz q1
   obtain ⟨nd, hnd, end'⟩ := ZfK q2
   obtain ⟨v, hv, hR⟩ := Znz n _ _ q3
   cases n with
   | zero => simp [DataW.trod] at q4
   | succ n =>
   obtain ⟨dl, vd, hd1, hd2, ed, hRd⟩ := Ze2 avV Vl.wf Tryz.underlying31 (sz := 6) (by kernel_rfl) (by omega) (fun cs x h => by
    obtain ⟨v, hv, hR⟩ := Znh n cs x h
    exact ⟨v, .agg cs.toArray, hv, by simp [Value.cells], hR.agg v.ones⟩) q4
   have e1 : Tryz.prog.cellsOf 3 = 1 := by kernel_rfl
   have e2 : Tryz.prog.cellsOf 26 = 7 := by kernel_rfl
   have e3 : Tryz.prog.cellsOf 9 = 1 := by kernel_rfl
   have e4 : Tryz.prog.cellsOf 31 = 1 := by kernel_rfl
   simp only [List.getElem_toArray, List.getElem_cons_zero, List.getElem_cons_succ, e1, e2, e3, e4] at enu en end' hR ed
   match cs, hl11 with
   | [c0, c1, c2, c3, c4, c5, c6, c7, c8, c9, c10], _ =>
   simp only [List.drop_zero, List.take_succ_cons, List.take_zero, List.cons.injEq, and_true, List.drop_succ_cons] at enu en end' hR ed
   subst enu en end' ed
   refine ⟨(nu, nm, nd, v, dl), .agg #[.int .i64 nu, .string nm, .int .i64 nd, c3, c4, c5, c6, c7, c8, c9, c10], ⟨hnu, hnm, hnd, hv, hd2, hd1⟩, rfl, ?_⟩
   exact RC.agg (cs := [.int .i64 nu, .string nm, .int .i64 nd] ++ ([c3, c4, c5, c6, c7, c8, c9] ++ [c10])) (.cons (.flat rfl) (.cons (.flat (show Zd4 (.string nm) = true from decide_eq_true hnm)) (.cons (.flat rfl) (hR.app (.cons hRd .nil))))) (fun x hx => by
    simp only [List.mem_cons, List.mem_append, List.not_mem_nil, or_false] at hx
    rcases hx with rfl | rfl | rfl | hx | rfl
    ·
     rfl
    ·
     rfl
    ·
     rfl
    ·
     exact v.ones x hx
    ·
     rfl)) f6
  have c1' : Tryz.prog.cellsOf 3 = 1 := by kernel_rfl
  have c2' : Tryz.prog.cellsOf 22 = 1 := by kernel_rfl
  have c3' : Tryz.prog.cellsOf 23 = 1 := by kernel_rfl
  have c4' : Tryz.prog.cellsOf 24 = 1 := by kernel_rfl
  simp only [List.getElem_toArray, List.getElem_cons_zero, List.getElem_cons_succ, c1', c2', c3', c4', List.drop_zero, List.take_succ_cons, List.take_zero, List.cons.injEq, and_true, List.drop_succ_cons] at ek elo ehi es ew ee ef
  subst ek elo ehi es ew ee ef
  refine ⟨.mk k lo hi s w el fl, ?_, ?_⟩
  ·
   unfold Ty.wf
   exact ⟨hk, hlo, hhi, hs, hw1, hw2, he2, hf2, (Zlf el).2 he1, (Zkm fl).2 hf1⟩
  ·
   rw [Ty.cs, Zlk, Zkj, Zpr]
   exact .cons (.flat rfl) (.cons (.flat rfl) (.cons (.flat rfl) (.cons (.flat rfl) (.cons hRw (.cons hRe (.cons hRf .nil))))))
end
section
variable {H : Type} {enc : TypeId × Value → H} {W : World} {base : Nat} {v : Value} {d : DataW H} {p : List MemPlace}
theorem Zso {t : TypeId} {fs : Array Field} (ht : Tryz.prog.underlying t = some (.struct fs)) (hv : Value.okWide Tryz.prog W .any base t v) : ∃ cs, v = .agg cs := by
 unfold Value.okWide at hv
 rw [ht] at hv
 obtain ⟨cs, h, _⟩ := hv
 exact ⟨cs, h⟩
theorem ZtB (hv : Value.okWide Tryz.prog W .any base 26 v) (h : DataW.Trod enc Tryz.prog W 0 (fun _ => true) true 26 v d p) : ∃ t : Ty, t.wf ∧ R W Mem.start W v (.agg t.cs) := by
 obtain ⟨cs, rfl⟩ := Zso Tryz.underlying26 hv
 obtain ⟨n, hn⟩ := h
 obtain ⟨t, h1, h2⟩ := Znz n _ _ hn
 exact ⟨t, h1, by simpa [Value.cells] using h2.agg t.ones⟩
end
end Go.Proofs.YtggimoedcamonaaGreatDoor
namespace Go.Proofs.YtggimoedcamonaaGreatDoor
open Go Go.RowKit Go.Ev
theorem ZaL {α : Type} {l : List α} {k : Nat} (h : k < l.length) : idx l (k : Int) = some l[k] := ZsI h
theorem ZaJ {a b : Nat} : decide ((a : Int) < (b : Int)) = decide (a < b) := by simp
theorem Za7 {k : Nat} (h : k < 1000000000000) : I64 ((k : Int) + 1) := by unfold I64; omega
theorem Ty.size_pos (t : Ty) : 0 < t.size := by cases t; simp [Ty.size]; omega
theorem Ty.size_eq (t : Ty) : t.size = 1 + Zdw t.elem + ZbX t.fields := by cases t; simp [Ty.size, Ty.elem, Ty.fields]
theorem Zin : ∀ (l : List Ty) (v : Ty), v ∈ l → v.size ≤ Zdw l
 | [], _, h => by simp at h
 | a :: r, v, h => by
  rcases List.mem_cons.1 h with rfl | h
  ·
   simp [Zdw]
  ·
   have := Zin r v h
   simp [Zdw]; omega
theorem Zhd : ∀ (l : List (Int × ByteArray × Int × Ty × List Vl)) (p : Int × ByteArray × Int × Ty × List Vl), p ∈ l → p.2.2.2.1.size ≤ ZbX l
 | [], _, h => by simp at h
 | (a, b, c, t, d) :: r, p, h => by
  rcases List.mem_cons.1 h with rfl | h
  ·
   simp [ZbX]
  ·
   have := Zhd r p h
   simp [ZbX]; omega
theorem Ziu : ∀ l : List Ty, l.length ≤ Zdw l
 | [] => Nat.le_refl _
 | v :: r => by have := Ziu r; have := v.size_pos; simp [Zdw]; omega
theorem Zhf : ∀ l : List (Int × ByteArray × Int × Ty × List Vl), l.length ≤ ZbX l
 | [] => Nat.le_refl _
 | (_, _, _, t, _) :: r => by have := Zhf r; have := t.size_pos; simp [ZbX]; omega
theorem Ty.elem_size (t x : Ty) (h : x ∈ t.elem) : x.size < t.size := by have := Zin _ _ h; have := t.size_eq; omega
theorem Ty.field_size (t : Ty) (p) (h : p ∈ t.fields) : p.2.2.2.1.size < t.size := by have := Zhd _ _ h; have := t.size_eq; omega
theorem Ty.lens (t : Ty) : t.elem.length < t.size ∧ t.fields.length < t.size := by have := Ziu t.elem; have := Zhf t.fields; have := t.size_eq; omega
theorem Vl.list_size (v x : Vl) (h : x ∈ v.list) : x.size < v.size := by have := Zgr _ _ h; have := v.size_eq; omega
theorem Vl.field_size (v : Vl) (p) (h : p ∈ v.fields) : p.2.size < v.size := by have := Zgv _ _ h; have := v.size_eq; omega
mutual
def Ty.depth : Ty → Nat
 | .mk _ _ _ _ _ e f => 1 + max (ZgG e) (Zfe f)
def ZgG : List Ty → Nat
 | [] => 0
 | t :: r => max t.depth (ZgG r)
def Zfe : List (Int × ByteArray × Int × Ty × List Vl) → Nat
 | [] => 0
 | (_, _, _, t, _) :: r => max t.depth (Zfe r)
end
mutual
def Vl.depth : Vl → Nat
 | .mk _ _ _ _ l f => 1 + max (Zgs l) (Zgw f)
def Zgs : List Vl → Nat
 | [] => 0
 | t :: r => max t.depth (Zgs r)
def Zgw : List (ByteArray × Vl) → Nat
 | [] => 0
 | (_, t) :: r => max t.depth (Zgw r)
end
mutual
def Vl.ok : Vl → Prop
 | .mk _ _ _ t l f => t.size ≤ 2000 ∧ ZtA l ∧ ZtE f
def ZtA : List Vl → Prop
 | [] => True
 | v :: r => v.ok ∧ ZtA r
def ZtE : List (ByteArray × Vl) → Prop
 | [] => True
 | (n, v) :: r => n.size ≤ 100 ∧ v.ok ∧ ZtE r
end
theorem Zll : ∀ l, ZtA l ↔ ∀ v ∈ l, v.ok
 | [] => by simp [ZtA]
 | v :: r => by simp [ZtA, Zll r]
theorem Zln : ∀ l, ZtE l ↔ ∀ p ∈ l, p.1.size ≤ 100 ∧ p.2.ok
 | [] => by simp [ZtE]
 | (n, v) :: r => by simp [ZtE, Zln r, and_assoc]
def Vl.small (v : Vl) : Prop := v.size ≤ 300 ∧ v.depth ≤ 12 ∧ v.ok
mutual
def Ty.ok : Ty → Prop
 | .mk _ _ _ _ w e f => w.length ≤ 70 ∧ (∀ x ∈ w, x.size ≤ 2000) ∧ Zsw e ∧ ZmM f
def Zsw : List Ty → Prop
 | [] => True
 | v :: r => v.ok ∧ Zsw r
def ZmM : List (Int × ByteArray × Int × Ty × List Vl) → Prop
 | [] => True
 | (_, n, _, t, d) :: r => (n.size ≤ 100 ∧ t.ok ∧ d.length ≤ 3 ∧ ∀ v ∈ d, v.small) ∧ ZmM r
end
theorem Zlu : ∀ l, Zsw l ↔ ∀ v ∈ l, v.ok
 | [] => by simp [Zsw]
 | v :: r => by simp [Zsw, Zlu r]
theorem Zkt : ∀ l, ZmM l ↔ ∀ p ∈ l, p.2.1.size ≤ 100 ∧ p.2.2.2.1.ok ∧ p.2.2.2.2.length ≤ 3 ∧ ∀ v ∈ p.2.2.2.2, v.small
 | [] => by simp [ZmM]
 | (_, n, _, t, d) :: r => by simp [ZmM, Zkt r]
theorem Ty.ok_eq (t : Ty) : t.ok ↔ t.words.length ≤ 70 ∧ (∀ x ∈ t.words, x.size ≤ 2000) ∧ (∀ v ∈ t.elem, v.ok) ∧ ∀ p ∈ t.fields, p.2.1.size ≤ 100 ∧ p.2.2.2.1.ok ∧ p.2.2.2.2.length ≤ 3 ∧ ∀ v ∈ p.2.2.2.2, v.small := by
 cases t; simp only [Ty.ok, Ty.words, Ty.elem, Ty.fields, Zlu, Zkt]
theorem Vl.ok_eq (v : Vl) : v.ok ↔ v.text.size ≤ 2000 ∧ (∀ x ∈ v.list, x.ok) ∧ ∀ p ∈ v.fields, p.1.size ≤ 100 ∧ p.2.ok := by
 cases v; simp only [Vl.ok, Vl.text, Vl.list, Vl.fields, Zll, Zln]
theorem ZiM : ∀ (l : List Ty) (d : Nat), ZgG l ≤ d ↔ ∀ v ∈ l, v.depth ≤ d
 | [], d => by simp [ZgG]
 | v :: r, d => by simp [ZgG, Nat.max_le, ZiM r d]
theorem Zh9 : ∀ (l : List (Int × ByteArray × Int × Ty × List Vl)) (d : Nat), Zfe l ≤ d ↔ ∀ v ∈ l, v.2.2.2.1.depth ≤ d
 | [], d => by simp [Zfe]
 | (_, _, _, t, _) :: r, d => by simp [Zfe, Nat.max_le, Zh9 r d]
theorem ZiD : ∀ (l : List Vl) (d : Nat), Zgs l ≤ d ↔ ∀ v ∈ l, v.depth ≤ d
 | [], d => by simp [Zgs]
 | v :: r, d => by simp [Zgs, Nat.max_le, ZiD r d]
theorem ZiE : ∀ (l : List (ByteArray × Vl)) (d : Nat), Zgw l ≤ d ↔ ∀ v ∈ l, v.2.depth ≤ d
 | [], d => by simp [Zgw]
 | (_, t) :: r, d => by simp [Zgw, Nat.max_le, ZiE r d]
theorem Ty.depth_eq (t : Ty) : t.depth = 1 + Max.max (ZgG t.elem) (Zfe t.fields) := by cases t; simp [Ty.depth, Ty.elem, Ty.fields]
theorem Vl.depth_eq (v : Vl) : v.depth = 1 + Max.max (Zgs v.list) (Zgw v.fields) := by cases v; simp [Vl.depth, Vl.list, Vl.fields]
theorem Vl.eta (v : Vl) : Vl.mk v.kind v.int v.scale v.text v.list v.fields = v := by cases v; rfl
theorem Ty.eta (v : Ty) : Ty.mk v.kind v.min v.max v.scale v.words v.elem v.fields = v := by cases v; rfl
theorem ZiF (rec : Vl → Option Vl) (n : Nat) (v : Vl) (hs : v.fields.length ≤ 1000000000) (hr : ∀ p ∈ v.fields, rec p.2 = some p.2) (b : List Vl) : ∀ (k m i : Nat), i + k = v.fields.length → k < m → Zb9 rec n v m i b (v.fields.take i) = some (Vl.mk v.kind v.int v.scale v.text b v.fields)
 | k, 0, i, _, h => absurd h (Nat.not_lt_zero _)
 | 0, m + 1, i, hi, _ => by
  rw [Zb9, ZaJ, decide_eq_false (by omega)]
  simp only [Bool.false_eq_true, if_false, Zd2]
  rw [List.take_of_length_le (by omega)]
 | k + 1, m + 1, i, hi, hm => by
  have hlt : i < v.fields.length := by omega
  rw [Zb9, ZaJ, decide_eq_true hlt]
  simp only [if_true, ZaL hlt, Option.bind_some, hr _ (List.getElem_mem hlt)]
  rw [if_pos (by rw [List.length_take]; omega), if_pos (Za7 (by omega))]
  have e : v.fields.take i ++ [(v.fields[i].1, v.fields[i].2)] = v.fields.take (i + 1) := by rw [List.take_succ_eq_append_getElem hlt]
  rw [e]
  exact ZiF rec n v hs hr b k m (i + 1) (by omega) (by omega)
theorem ZjH (rec : Vl → Option Vl) (n : Nat) (v : Vl) (hs : v.fields.length ≤ 1000000000 ∧ v.list.length ≤ 1000000000) (hn : v.fields.length < n) (hr : (∀ x ∈ v.list, rec x = some x) ∧ ∀ p ∈ v.fields, rec p.2 = some p.2) : ∀ (k m i : Nat), i + k = v.list.length → k < m → ZcE rec n v m i (v.list.take i) = some v
 | k, 0, i, _, h => absurd h (Nat.not_lt_zero _)
 | 0, m + 1, i, hi, _ => by
  rw [ZcE, ZaJ, decide_eq_false (by omega)]
  simp only [Bool.false_eq_true, if_false, Ze5]
  rw [List.take_of_length_le (by omega)]
  have := ZiF rec n v hs.1 hr.2 v.list v.fields.length n 0 (by omega) hn
  rw [List.take_zero] at this
  exact this.trans (by rw [Vl.eta])
 | k + 1, m + 1, i, hi, hm => by
  have hlt : i < v.list.length := by omega
  rw [ZcE, ZaJ, decide_eq_true hlt]
  simp only [if_true, ZaL hlt, Option.bind_some, hr.1 _ (List.getElem_mem hlt)]
  rw [if_pos (by rw [List.length_take]; omega), if_pos (Za7 (by omega))]
  have e : v.list.take i ++ [v.list[i]] = v.list.take (i + 1) := by rw [List.take_succ_eq_append_getElem hlt]
  rw [e]
  exact ZjH rec n v hs hn hr k m (i + 1) (by omega) (by omega)
theorem Zic : ∀ (n : Nat) (v : Vl), v.size < n → v.size ≤ 1000000000 → Za6 n v = some v
 | 0, v, h, _ => absurd h (Nat.not_lt_zero _)
 | n + 1, v, h, hs => by
  have hl := Zhp v
  rw [Za6, ZfL]
  have := ZjH (Za6 n) n v ⟨by omega, by omega⟩ (by omega) ⟨fun x hx => Zic n x (by have := v.list_size x hx; omega) (by have := v.list_size x hx; omega), fun p hp => Zic n p.2 (by have := v.field_size p hp; omega) (by have := v.field_size p hp; omega)⟩ v.list.length n 0 (by omega) (by omega)
  rw [List.take_zero] at this
  exact this
abbrev TF := Int × ByteArray × Int × Ty × List Vl
theorem ZnR (rec : Ty → Option Ty) (n : Nat) (p : TF) (y : Ty) (hs : p.2.2.2.2.length ≤ 1000000000) (hr : ∀ v ∈ p.2.2.2.2, Za6 n v = some v) : ∀ (k m i : Nat), i + k = p.2.2.2.2.length → k < m → ZaT rec n p y m (p.2.2.2.2.take i) i = some (p.1, p.2.1, p.2.2.1, y, p.2.2.2.2)
 | k, 0, i, _, h => absurd h (Nat.not_lt_zero _)
 | 0, m + 1, i, hi, _ => by
  rw [ZaT, ZaJ, decide_eq_false (by omega)]
  simp only [Bool.false_eq_true, if_false, Zcm]
  rw [List.take_of_length_le (by omega)]
 | k + 1, m + 1, i, hi, hm => by
  have hlt : i < p.2.2.2.2.length := by omega
  rw [ZaT, ZaJ, decide_eq_true hlt]
  simp only [if_true, ZaL hlt, Option.bind_some, hr _ (List.getElem_mem hlt)]
  rw [if_pos (by rw [List.length_take]; omega), if_pos (Za7 (by omega))]
  have e : p.2.2.2.2.take i ++ [p.2.2.2.2[i]] = p.2.2.2.2.take (i + 1) := by rw [List.take_succ_eq_append_getElem hlt]
  rw [e]
  exact ZnR rec n p y hs hr k m (i + 1) (by omega) (by omega)
theorem ZsL (rec : Ty → Option Ty) (n : Nat) (p : TF) (hs : p.2.2.2.2.length ≤ 1000000000) (hn : p.2.2.2.2.length < n) (hr : ∀ v ∈ p.2.2.2.2, Za6 n v = some v) (ht : rec p.2.2.2.1 = some p.2.2.2.1) : ZaV rec n p = some p := by
 rw [ZaV, ht]
 simp only [Option.bind_some]
 rw [if_pos (by omega)]
 have := ZnR rec n p p.2.2.2.1 hs hr p.2.2.2.2.length n 0 (by omega) hn
 rw [List.take_zero] at this
 exact this
theorem ZiW (rec : Ty → Option Ty) (n : Nat) (t : Ty) (hw : t.words.length ≤ 1000000000) (hs : t.fields.length ≤ 1000000000) (hr : ∀ p ∈ t.fields, ZaV rec n p = some p) (e : List Ty) : ∀ (k m i : Nat), i + k = t.fields.length → k < m → Zcb rec n t m e (t.fields.take i) i = some (Ty.mk t.kind t.min t.max t.scale t.words e t.fields)
 | k, 0, i, _, h => absurd h (Nat.not_lt_zero _)
 | 0, m + 1, i, hi, _ => by
  rw [Zcb, ZaJ, decide_eq_false (by omega)]
  simp only [Bool.false_eq_true, if_false, Zd1]
  rw [List.take_of_length_le (by omega), if_pos (by omega)]
 | k + 1, m + 1, i, hi, hm => by
  have hlt : i < t.fields.length := by omega
  rw [Zcb, ZaJ, decide_eq_true hlt]
  simp only [if_true, ZaL hlt, Option.bind_some, hr _ (List.getElem_mem hlt)]
  rw [if_pos (by rw [List.length_take]; omega), if_pos (Za7 (by omega))]
  have e' : t.fields.take i ++ [t.fields[i]] = t.fields.take (i + 1) := by rw [List.take_succ_eq_append_getElem hlt]
  rw [e']
  exact ZiW rec n t hw hs hr e k m (i + 1) (by omega) (by omega)
theorem ZjY (rec : Ty → Option Ty) (n : Nat) (t : Ty) (hw : t.words.length ≤ 1000000000) (hs : t.fields.length ≤ 1000000000 ∧ t.elem.length ≤ 1000000000) (hn : t.fields.length < n) (hr : (∀ x ∈ t.elem, rec x = some x) ∧ ∀ p ∈ t.fields, ZaV rec n p = some p) : ∀ (k m i : Nat), i + k = t.elem.length → k < m → ZcT rec n t m (t.elem.take i) i = some t
 | k, 0, i, _, h => absurd h (Nat.not_lt_zero _)
 | 0, m + 1, i, hi, _ => by
  rw [ZcT, ZaJ, decide_eq_false (by omega)]
  simp only [Bool.false_eq_true, if_false, Zfb]
  rw [List.take_of_length_le (by omega), if_pos (by omega)]
  have := ZiW rec n t hw hs.1 hr.2 t.elem t.fields.length n 0 (by omega) hn
  rw [List.take_zero] at this
  exact this.trans (by rw [Ty.eta])
 | k + 1, m + 1, i, hi, hm => by
  have hlt : i < t.elem.length := by omega
  rw [ZcT, ZaJ, decide_eq_true hlt]
  simp only [if_true, ZaL hlt, Option.bind_some, hr.1 _ (List.getElem_mem hlt)]
  rw [if_pos (by rw [List.length_take]; omega), if_pos (Za7 (by omega))]
  have e : t.elem.take i ++ [t.elem[i]] = t.elem.take (i + 1) := by rw [List.take_succ_eq_append_getElem hlt]
  rw [e]
  exact ZjY rec n t hw hs hn hr k m (i + 1) (by omega) (by omega)
theorem ZhD : ∀ (n : Nat) (t : Ty), t.size + 400 < n → t.size ≤ 1000000000 → t.ok → Zb3 n t = some t
 | 0, t, h, _, _ => absurd h (Nat.not_lt_zero _)
 | n + 1, t, h, hs, hok => by
  have hl := t.lens
  obtain ⟨o1, o2, o3, o4⟩ := t.ok_eq.1 hok
  rw [Zb3, ZfQ, if_pos (by omega)]
  have := ZjY (Zb3 n) n t (by omega) ⟨by omega, by omega⟩ (by omega) ⟨fun x hx => ZhD n x (by have := t.elem_size x hx; omega) (by have := t.elem_size x hx; omega) (o3 x hx), fun p hp => by
   obtain ⟨_, q2, q3, q4⟩ := o4 p hp
   have := t.field_size p hp
   exact ZsL _ n p (by omega) (by omega) (fun v hv => Zic n v (by have := (q4 v hv).1; omega) (by have := (q4 v hv).1; omega)) (ZhD n _ (by omega) (by omega) q2)⟩ t.elem.length n 0 (by omega) (by omega)
  rw [List.take_zero] at this
  exact this
def Zeh (n : Nat)  (x3_k19 : List Ty) : Option ((List Ty)) :=
 some (x3_k19)
def ZgA (n : Nat)  : Option ((List Ty)) :=
 some ([])
def Zca (n : Nat) (a0 : Ty) : Nat → (List Ty) → Int → Option ((List Ty))
 | 0, _, _ => none
 | m + 1, x3_l22, x22_l22 =>
  if decide (x22_l22 < ((a0.fields.length : Int))) then
   (idx a0.fields x22_l22).bind fun x28 =>
   if (x3_l22.length + 1) * 104 ≤ 140737488355328 ∧ x3_l22.length + 1 ≤ 4611686018427387904 then
    if I64 (x22_l22 + 1) then
     (Zca n a0 m) (x3_l22 ++ ([x28.2.2.2.1])) (x22_l22 + 1)
    else none
   else none
  else
   Zeh n x3_l22
def ZcK (n : Nat) (a0 : Ty) (x12_k10 : Bool) : Option ((List Ty)) :=
 if x12_k10 then
  if 0 ≤ (a0.fields.length : Int) ∧ ((a0.fields.length : Int)) * 104 ≤ 140737488355328 ∧ (a0.fields.length : Int) ≤ 4611686018427387904 then
   Zca n a0 n ([]) 0
  else none
 else
  ZgA n 
def ZeT (n : Nat) (a0 : Ty) : Option ((List Ty)) :=
 if decide (a0.kind = 8) then
  some (a0.elem)
 else
  if decide (a0.kind = 9) then
   ZcK n a0 true
  else
   ZcK n a0 (decide (a0.kind = 10))
theorem ZiQ (w0 : World) (n : Nat) (B : List (List AV)) (Rw : List RowA) (L : List LoopA) (a0 : Ty) (r : (List Ty)) (h : ZeT n a0 = some r) :
  ACalls Tryz.prog w0 77 [.agg (a0.cs)] ⟨B, Rw, L⟩ fun x st => x = .list (r.map avT) .none ∧ st = ⟨B, Rw, L⟩ := by
 rw [ZeT] at h
 refine hd [.tmp 2] Tryz.func77 Tryz.ntmps77 fun M0 W0 hN hNR hNL hcalm hu hO hs => ?_
 simp only [Zan]
 refine rg [1] hs ?_
 refine Zal (fun e st => Ck e st B Rw L [] [a0.cs] [] (ZgA n  = some r)) ?_ ?_
 ·
  intro K4 hK4
  refine rg [1, 7] hs ?_
  apply Zae
  refine rg [1, 7, 8] hs ?_
  refine cnd h hs (fun hs h => ?_) (fun hs h => ?_)
  ·
   refine rg [2] hs ?_
   exact rt h hs hcalm hO
  refine Zal (fun e st => ∃ (x12_k10 : Bool), Ck e st B Rw L [(1, true, .box B.length 0), (12, true, .val (.bool x12_k10))] [a0.cs] [] (ZcK n a0 x12_k10 = some r)) ?_ ?_
  ·
   intro K11 hK11
   refine rg [1, 7, 12] hs ?_
   refine cnd h hs (fun hs h => ?_) (fun hs h => ?_)
   ·
    refine sk [1, 12] hs hK11 ?_
    exact ⟨true, ([]), Rw, ef hs, ef hs, hO, h⟩
   refine rl [1, 12] hs hK11 ?_
   exact ⟨(decide (a0.kind = 10)), ([]), Rw, ef hs, ef hs, hO, h⟩
  ·
   clear h; rintro e st ⟨x12_k10, Xk10, Rk10, rfl, rfl, hO, h⟩
   rw [ZcK] at h
   refine td hN hNR hNL hcalm hO ?_
   refine cnd h hs (fun hs h => ?_) (fun hs h => ?_)
   ·
    obtain ⟨hg16, h⟩ := Zad h
    have hO := hO.make 7 0
    refine rg [1, 3] hs ?_
    refine Zal (fun e st => ∃ (x3_k19 : List Ty) (ox3_k19 : Ev.Own), Ck e st B Rw L [(3, true, .list (x3_k19.map avT) ox3_k19)] [a0.cs] [(7, x3_k19.length, ox3_k19)] (Zeh n x3_k19 = some r)) ?_ ?_
    ·
     intro K20 hK20
     refine rg [3, 20, 21, 22] hs ?_
     apply Zae
     refine Zak (fun m e st => ∃ (x3_l22 : List Ty) (x22_l22 : Int) (ox3_l22 : Ev.Own), Ck e st B Rw L [(3, true, .list (x3_l22.map avT) ox3_l22), (20, true, .list (a0.fields.map ZdK) .none), (21, true, .val (.int .i64 ((a0.fields.length : Int)))), (22, true, .val (.int .i64 x22_l22))] [a0.cs] [(7, x3_l22.length, ox3_l22)] (Zca n a0 m x3_l22 x22_l22 = some r)) n ⟨([]), 0, ((.row Rk10.length)), ([]), ((Rk10 ++ [.grow 0 7])), ef hs, ef hs, Owns.of_eq (hO) (by first | rfl | simp only [List.length_append, List.length_cons, List.length_nil, List.length_map, Nat.zero_add, Nat.add_zero]), h⟩ ?_
     rintro ml22 e st ⟨x3_l22, x22_l22, ox3_l22, Xl22, Rl22, rfl, rfl, hO, h⟩ Ul22 Vl22
     cases ml22 with
     | zero => cases h
     | succ ml22 =>
     rw [Zca] at h
     have hU := hO.unders
     simp only [List.mem_cons, List.not_mem_nil, or_false, forall_eq_or_imp, forall_eq] at hU
     refine td hN hNR hNL hcalm hO ?_
     refine rg [3, 20, 21, 22, 23] hs ?_
     apply Zab; intro K24 hK24
     refine cnd h hs (fun hs h => ?_) (fun hs h => ?_)
     rotate_left
     ·
      refine sx [3] hs hK20 ?_
      exact ⟨x3_l22, ox3_l22, ([]), Rl22, ef hs, ef hs, Owns.of_eq (hO) (by first | rfl | simp only [List.length_append, List.length_cons, List.length_nil, List.length_map, Nat.zero_add, Nat.add_zero]), h⟩
     refine sk [3, 20, 21, 22] hs hK24 ?_
     clear hK24
     apply Zab; intro K26 hK26
     apply Zae
     obtain ⟨x28, hx28, h⟩ := bind_some h
     obtain ⟨hx28a, hx28b, hx28c⟩ := Zau hx28
     have hx28d := Zav (f := ZdK) hx28c
     have hs := And.intro hx28d hs
     refine rg [3, 5, 20, 21, 22] hs ?_
     obtain ⟨hg29, h⟩ := Zad h
     obtain ⟨o30, rows31, hO, hap32⟩ := hO.append (P := Tryz.prog) ZlK (by rw [Zg3]; rfl) (by decide) 1 hg29.1 hg29.2
     replace hap32 := fun (ys : List AV) B L o2 => hap32 (x3_l22.map avT) ys B L o2 (by first | rfl | simp only [List.length_map, List.length_nil, List.length_append, List.length_cons, Nat.zero_add])
     replace hap32 := fun (y : AV) B L o2 => hap32 [y] B L o2 (by first | rfl | simp only [List.length_map, List.length_nil, List.length_cons]) ev
     try simp only [List.mem_singleton, List.mem_cons, List.not_mem_nil, or_false, forall_eq_or_imp, forall_eq, List.map_append, List.map_cons, List.map_nil, ZdZ, ZeA, Zeq, Zes, Zer, ZdU, Zc7, Zdb, Zez, ZbR, ZbQ, Zda] at hap32
     have hs := And.intro hap32 hs
     refine rl [3, 20, 21, 22] hs hK26 ?_
     clear hK26
     obtain ⟨hg33, h⟩ := Zad h
     refine rl [3, 20, 21, 22] hs (fun e s => Vl22 ml22 e s (Nat.lt_succ_self _)) ?_
     exact ⟨(x3_l22 ++ ([x28.2.2.2.1])), (x22_l22 + 1), o30, ([.val (.int .i64 x28.1) :: (.val (.string x28.2.1) :: (.val (.int .i64 x28.2.2.1) :: ((x28.2.2.2.1.cs) ++ ([.list (x28.2.2.2.2.map avV) .none]))))]), rows31, ef hs, ef hs, Owns.of_eq (hO) (by first | rfl | simp only [List.length_append, List.length_cons, List.length_nil, List.length_map, Nat.zero_add, Nat.add_zero]), h⟩
    ·
     clear h; rintro e st ⟨x3_k19, ox3_k19, Xk19, Rk19, rfl, rfl, hO, h⟩
     rw [Zeh] at h
     have hU := hO.unders
     simp only [List.mem_cons, List.not_mem_nil, or_false, forall_eq_or_imp, forall_eq] at hU
     refine td hN hNR hNL hcalm hO ?_
     refine rg [2] hs ?_
     exact rt h hs hcalm hO
   refine sk [] hs hK4 ?_
   exact ⟨([]), Rk10, ef hs, ef hs, hO, h⟩
 ·
  clear h; rintro e st ⟨Xk3, Rk3, rfl, rfl, hO, h⟩
  rw [ZgA] at h
  refine td hN hNR hNL hcalm hO ?_
  refine rg [2] hs ?_
  exact rt h hs hcalm hO
def Zbl (t : Ty) : List Ty := if t.kind = 8 then t.elem else if t.kind = 9 ∨ t.kind = 10 then t.fields.map fun p => p.2.2.2.1 else []
theorem Zp2 (n : Nat) (t : Ty) (hs : t.fields.length ≤ 1000000000) : ∀ (k m i : Nat) (x : List Ty), i + k = t.fields.length → k < m → x.length = i → Zca n t m x i = some (x ++ (t.fields.drop i).map fun p => p.2.2.2.1)
 | k, 0, i, _, _, h, _ => absurd h (Nat.not_lt_zero _)
 | 0, m + 1, i, x, hi, _, _ => by
  rw [Zca, ZaJ, decide_eq_false (by omega)]
  simp only [Bool.false_eq_true, if_false, Zeh]
  rw [List.drop_eq_nil_of_le (by omega), List.map_nil, List.append_nil]
 | k + 1, m + 1, i, x, hi, hm, hx => by
  have hlt : i < t.fields.length := by omega
  rw [Zca, ZaJ, decide_eq_true hlt]
  simp only [if_true, ZaL hlt, Option.bind_some]
  rw [if_pos (by omega), if_pos (Za7 (by omega))]
  have ih := Zp2 n t hs k m (i + 1) (x ++ [t.fields[i].2.2.2.1]) (by omega) (by omega) (by simp [hx])
  rw [List.drop_eq_getElem_cons hlt, List.map_cons]
  rw [List.append_assoc] at ih
  exact ih
theorem ZnE (n : Nat) (t : Ty) (hn : t.fields.length < n) (hs : t.fields.length ≤ 1000000000) : ZeT n t = some (Zbl t) := by
 have h9 : ZcK n t true = some (t.fields.map fun p => p.2.2.2.1) := by
  rw [ZcK, if_pos rfl, if_pos (by omega)]
  have := Zp2 n t hs t.fields.length n 0 [] (by omega) hn rfl
  rw [List.drop_zero, List.nil_append] at this
  exact this
 rw [ZeT, Zbl]
 by_cases h1 : t.kind = 8
 ·
  rw [if_pos (decide_eq_true h1), if_pos h1]
 rw [if_neg (by rw [decide_eq_true_eq]; exact h1), if_neg h1]
 by_cases h2 : t.kind = 9
 ·
  rw [if_pos (decide_eq_true h2), h9, if_pos (.inl h2)]
 rw [if_neg (by rw [decide_eq_true_eq]; exact h2)]
 by_cases h3 : t.kind = 10
 ·
  rw [decide_eq_true h3, h9, if_pos (.inr h3)]
 ·
  rw [decide_eq_false h3, if_neg (by omega)]; rfl
theorem ZkQ (l : List Vl) (i : Nat) (h : i < l.length) : ZdO (l.drop i) = l[i].size + ZdO (l.drop (i + 1)) := by rw [List.drop_eq_getElem_cons h, ZdO]
theorem ZkS (l : List (ByteArray × Vl)) (i : Nat) (h : i < l.length) : ZdX (l.drop i) = l[i].2.size + ZdX (l.drop (i + 1)) := by
 rw [List.drop_eq_getElem_cons h]
 obtain ⟨a, b⟩ := l[i]
 rfl
theorem Zla (l : List Ty) (i : Nat) (h : i < l.length) : Zdw (l.drop i) = l[i].size + Zdw (l.drop (i + 1)) := by rw [List.drop_eq_getElem_cons h, Zdw]
theorem ZkF (l : List TF) (i : Nat) (h : i < l.length) : ZbX (l.drop i) = l[i].2.2.2.1.size + ZbX (l.drop (i + 1)) := by
 rw [List.drop_eq_getElem_cons h]
 obtain ⟨a, b, c, t, d⟩ := l[i]
 rfl
theorem Ze1 {α : Type} {p : α → Prop} (l : List α) (i : Nat) (h : i < l.length) (h1 : p l[i]) (h2 : ∀ x ∈ l.drop (i + 1), p x) : ∀ x ∈ l.drop i, p x := by
 rw [List.drop_eq_getElem_cons h]
 intro x hx
 rcases List.mem_cons.1 hx with rfl | hx
 ·
  exact h1
 ·
  exact h2 x hx
theorem Zch {α : Type} {p : α → Prop} (l : List α) (i : Nat) (h : l.length ≤ i) : ∀ x ∈ l.drop i, p x := by
 rw [List.drop_eq_nil_of_le h]; simp
def SmV (rec : Vl → Int → Int → Option (Bool × Int)) (lv : Nat) : Prop :=
 ∀ (v : Vl) (left : Int), 0 ≤ left → left ≤ 300 → ∃ b left', rec v (lv : Int) left = some (b, left') ∧ -1 ≤ left' ∧ left' < left ∧ (b = true → (v.size : Int) + left' = left ∧ 0 ≤ left' ∧ v.depth ≤ lv ∧ v.ok)
theorem Znj (rec : Vl → Int → Int → Option (Bool × Int)) (n : Nat) (v : Vl) (lv : Nat) (hlv : lv ≤ 100) (hr : SmV rec lv) : ∀ (m i : Nat) (left : Int), 0 ≤ left → left ≤ 300 → (i : Int) + left ≤ 1000 → left + 1 < (m : Int) →
  ∃ b left', ZaY rec n v ((lv : Int) + 1) m i left = some (b, left') ∧ -1 ≤ left' ∧ left' ≤ left ∧ (b = true → (ZdX (v.fields.drop i) : Int) + left' = left ∧ 0 ≤ left' ∧ ∀ p ∈ v.fields.drop i, p.1.size ≤ 100 ∧ p.2.ok ∧ p.2.depth ≤ lv)
 | 0, i, left, h1, _, _, h => by omega
 | m + 1, i, left, h1, h2, h3, h => by
  rw [ZaY, ZaJ]
  by_cases hlt : i < v.fields.length
  ·
   rw [decide_eq_true hlt]
   simp only [if_true, ZaL hlt, Option.bind_some]
   by_cases hn : 100 < v.fields[i].1.size
   ·
    rw [decide_eq_true (by omega), if_pos rfl]
    exact ⟨false, left, rfl, by omega, by omega, fun h => by cases h⟩
   ·
    rw [decide_eq_false (by omega)]
    simp only [Bool.false_eq_true, if_false]
    rw [if_pos (by unfold I64; omega), show (lv : Int) + 1 - 1 = lv by omega]
    obtain ⟨b, left', e, k1, k2, k3⟩ := hr v.fields[i].2 left h1 h2
    rw [e]
    simp only [Option.bind_some]
    cases b with
    | false => simp only [Bool.not_false, if_true]; exact ⟨false, left', rfl, k1, by omega, fun h => by cases h⟩
    | true =>
     obtain ⟨q1, q2, q3, q4⟩ := k3 rfl
     simp only [Bool.not_true, Bool.false_eq_true, if_false]
     rw [if_pos (by unfold I64; omega)]
     obtain ⟨b, l2, e2, j1, j2, j3⟩ := Znj rec n v lv hlv hr m (i + 1) left' q2 (by omega) (by omega) (by omega)
     refine ⟨b, l2, e2, j1, by omega, fun hb => ?_⟩
     obtain ⟨p1, p2, p3⟩ := j3 hb
     refine ⟨?_, p2, Ze1 _ i hlt ⟨by omega, q4, q3⟩ p3⟩
     rw [ZkS _ _ hlt]; push_cast; omega
  ·
   rw [decide_eq_false hlt]
   simp only [Bool.false_eq_true, if_false, ZbT]
   refine ⟨true, left, rfl, by omega, by omega, fun _ => ⟨?_, h1, Zch _ _ (by omega)⟩⟩
   rw [List.drop_eq_nil_of_le (by omega)]; simp [ZdX]
theorem ZnF (rec : Vl → Int → Int → Option (Bool × Int)) (n : Nat) (hn : 310 ≤ n) (v : Vl) (lv : Nat) (hlv : lv ≤ 100) (hr : SmV rec lv) : ∀ (m i : Nat) (left : Int), 0 ≤ left → left ≤ 300 → (i : Int) + left ≤ 1000 → left + 1 < (m : Int) →
  ∃ b left', ZaX rec n v ((lv : Int) + 1) m i left = some (b, left') ∧ -1 ≤ left' ∧ left' ≤ left ∧ (b = true → (ZdO (v.list.drop i) : Int) + ZdX v.fields + left' = left ∧ 0 ≤ left' ∧ (∀ x ∈ v.list.drop i, x.ok ∧ x.depth ≤ lv) ∧ ∀ p ∈ v.fields, p.1.size ≤ 100 ∧ p.2.ok ∧ p.2.depth ≤ lv)
 | 0, i, left, h1, _, _, h => by omega
 | m + 1, i, left, h1, h2, h3, h => by
  rw [ZaX, ZaJ]
  by_cases hlt : i < v.list.length
  ·
   rw [decide_eq_true hlt]
   simp only [if_true, ZaL hlt, Option.bind_some]
   rw [if_pos (by unfold I64; omega), show (lv : Int) + 1 - 1 = lv by omega]
   obtain ⟨b, left', e, k1, k2, k3⟩ := hr v.list[i] left h1 h2
   rw [e]
   simp only [Option.bind_some]
   cases b with
   | false => simp only [Bool.not_false, if_true]; exact ⟨false, left', rfl, k1, by omega, fun h => by cases h⟩
   | true =>
    obtain ⟨q1, q2, q3, q4⟩ := k3 rfl
    simp only [Bool.not_true, Bool.false_eq_true, if_false]
    rw [if_pos (by unfold I64; omega)]
    obtain ⟨b, l2, e2, j1, j2, j3⟩ := ZnF rec n hn v lv hlv hr m (i + 1) left' q2 (by omega) (by omega) (by omega)
    refine ⟨b, l2, e2, j1, by omega, fun hb => ?_⟩
    obtain ⟨p1, p2, p3, p4⟩ := j3 hb
    refine ⟨?_, p2, Ze1 _ i hlt ⟨q4, q3⟩ p3, p4⟩
    rw [ZkQ _ _ hlt]; push_cast; omega
  ·
   rw [decide_eq_false hlt]
   simp only [Bool.false_eq_true, if_false, Zb6]
   obtain ⟨b, l2, e2, j1, j2, j3⟩ := Znj rec n v lv hlv hr n 0 left h1 h2 (by omega) (by omega)
   refine ⟨b, l2, e2, j1, j2, fun hb => ?_⟩
   obtain ⟨p1, p2, p3⟩ := j3 hb
   rw [List.drop_zero] at p1 p3
   refine ⟨?_, p2, Zch _ _ (by omega), p3⟩
   rw [List.drop_eq_nil_of_le (by omega)]; simp only [ZdO]; omega
theorem Zse : ∀ (lv n : Nat), lv ≤ 100 → lv + 311 ≤ n → SmV (Za1 n) lv
 | _, 0, _, h => by omega
 | lv, n + 1, hlv, hn => by
  intro v left h1 h2
  rw [Za1, Zcr, if_pos (by unfold I64; omega)]
  by_cases hc : left - 1 < 0 ∨ (lv : Int) = 0 ∨ 2000 < v.text.size
  ·
   rw [if_pos (by simp only [Bool.or_eq_true, decide_eq_true_eq]; omega)]
   exact ⟨false, left - 1, rfl, by omega, by omega, fun h => by cases h⟩
  ·
   rw [if_neg (by simp only [Bool.or_eq_true, decide_eq_true_eq]; omega)]
   obtain ⟨lv', rfl⟩ : ∃ k, lv = k + 1 := ⟨lv - 1, by omega⟩
   obtain ⟨b, l2, e2, j1, j2, j3⟩ := ZnF (Za1 n) n (by omega) v lv' (by omega) (Zse lv' n (by omega) (by omega)) n 0 (left - 1) (by omega) (by omega) (by omega) (by omega)
   refine ⟨b, l2, by push_cast; exact e2, j1, by omega, fun hb => ?_⟩
   obtain ⟨p1, p2, p3, p4⟩ := j3 hb
   rw [List.drop_zero] at p1 p3
   refine ⟨?_, p2, ?_, v.ok_eq.2 ⟨by omega, fun x hx => (p3 x hx).1, fun p hp => ⟨(p4 p hp).1, (p4 p hp).2.1⟩⟩⟩
   ·
    rw [v.size_eq]; push_cast; omega
   ·
    rw [v.depth_eq]
    have a := (ZiD v.list lv').2 fun x hx => (p3 x hx).2
    have b := (ZiE v.fields lv').2 fun p hp => (p4 p hp).2.2
    omega
theorem Zi2 (n : Nat) (hn : 400 ≤ n) (v : Vl) : ∃ b, ZbJ n v = some b ∧ (b = true → v.small) := by
 obtain ⟨b, l2, e, h1, h2, h3⟩ := Zse 12 n (by omega) (by omega) v 300 (by omega) (by omega)
 refine ⟨b, by rw [ZbJ]; rw [show ((12 : Nat) : Int) = 12 from rfl] at e; rw [e]; rfl, fun hb => ?_⟩
 obtain ⟨p1, p2, p3, p4⟩ := h3 hb
 exact ⟨by omega, p3, p4⟩
def SmT (rec : Ty → Int → Int → Option (Bool × Int)) (lv : Nat) : Prop :=
 ∀ (t : Ty) (left : Int), 0 ≤ left → left ≤ 200 → ∃ b left', rec t (lv : Int) left = some (b, left') ∧ -1 ≤ left' ∧ left' < left ∧ (b = true → (t.size : Int) + left' = left ∧ 0 ≤ left' ∧ t.depth ≤ lv ∧ t.ok)
theorem Zns (rec : Ty → Int → Int → Option (Bool × Int)) (n : Nat) (hn : 400 ≤ n) (ag : Int → Int → Option (Bool × Int)) (x9 : Int) (p : TF) (y : Bool × Int) (hl : p.2.2.2.2.length ≤ 3) : ∀ (k m i : Nat), i + k = p.2.2.2.2.length → k < m →
  (Zbj rec n ag x9 p y m i = some (false, y.2)) ∨ (Zbj rec n ag x9 p y m i = ZcZ rec n ag x9 y.2 ∧ ∀ v ∈ p.2.2.2.2.drop i, v.small)
 | k, 0, i, _, h => absurd h (Nat.not_lt_zero _)
 | 0, m + 1, i, hi, _ => by
  rw [Zbj, ZaJ, decide_eq_false (by omega)]
  simp only [Bool.false_eq_true, if_false]
  exact .inr ⟨by trivial, Zch _ _ (by omega)⟩
 | k + 1, m + 1, i, hi, hm => by
  have hlt : i < p.2.2.2.2.length := by omega
  rw [Zbj, ZaJ, decide_eq_true hlt]
  simp only [if_true, ZaL hlt, Option.bind_some]
  obtain ⟨b, e, hb⟩ := Zi2 n hn p.2.2.2.2[i]
  rw [e]
  simp only [Option.bind_some]
  cases b with
  | false => simp only [Bool.not_false, if_true]; exact .inl (by trivial)
  | true =>
   simp only [Bool.not_true, Bool.false_eq_true, if_false]
   rw [if_pos (Za7 (by omega))]
   rcases Zns rec n hn ag x9 p y hl k m (i + 1) (by omega) (by omega) with h | ⟨h, h2⟩
   ·
    exact .inl h
   ·
    exact .inr ⟨h, Ze1 _ i hlt (hb rfl) h2⟩
theorem Znk (rec : Ty → Int → Int → Option (Bool × Int)) (n : Nat) (hn : 400 ≤ n) (t : Ty) (lv : Nat) (hlv : lv ≤ 100) (hr : SmT rec lv) : ∀ (m i : Nat) (left : Int), 0 ≤ left → left ≤ 200 → (i : Int) + left ≤ 1000 → left + 1 < (m : Int) →
  ∃ b left', Za5 rec n t ((lv : Int) + 1) m i left = some (b, left') ∧ -1 ≤ left' ∧ left' ≤ left ∧ (b = true → (ZbX (t.fields.drop i) : Int) + left' = left ∧ 0 ≤ left' ∧ ∀ p ∈ t.fields.drop i, (p.2.1.size ≤ 100 ∧ p.2.2.2.1.ok ∧ p.2.2.2.2.length ≤ 3 ∧ ∀ v ∈ p.2.2.2.2, v.small) ∧ p.2.2.2.1.depth ≤ lv)
 | 0, i, left, h1, _, _, h => by omega
 | m + 1, i, left, h1, h2, h3, h => by
  rw [Za5, ZaJ]
  by_cases hlt : i < t.fields.length
  ·
   rw [decide_eq_true hlt]
   simp only [if_true, ZaL hlt, Option.bind_some]
   rw [if_pos (by unfold I64; omega), show (lv : Int) + 1 - 1 = lv by omega]
   obtain ⟨b, left', e, k1, k2, k3⟩ := hr t.fields[i].2.2.2.1 left h1 h2
   rw [e]
   simp only [Option.bind_some]
   by_cases hc : b = false ∨ 3 < t.fields[i].2.2.2.2.length ∨ 100 < t.fields[i].2.1.size
   ·
    rw [if_pos (by simp only [Bool.or_eq_true, decide_eq_true_eq, Bool.not_eq_true']; rcases hc with hc | hc | hc; exact .inl (.inl hc); exact .inl (.inr (by omega)); exact .inr (by omega))]
    exact ⟨false, left', rfl, k1, by omega, fun h => by cases h⟩
   ·
    rw [if_neg (by simp only [Bool.or_eq_true, decide_eq_true_eq, Bool.not_eq_true']; intro h; apply hc; rcases h with (h | h) | h; exact .inl h; exact .inr (.inl (by omega)); exact .inr (.inr (by omega)))]
    have hb : b = true := by cases b <;> simp_all
    obtain ⟨q1, q2, q3, q4⟩ := k3 hb
    rcases Zns rec n hn (Za5 rec n t ((lv : Int) + 1) m) i t.fields[i] (b, left') (by omega) t.fields[i].2.2.2.2.length n 0 (by omega) (by omega) with e3 | ⟨e3, e4⟩
    ·
     refine ⟨false, left', ?_, k1, by omega, fun h => by cases h⟩
     exact e3
    ·
     obtain ⟨b2, l2, e2, j1, j2, j3⟩ := Znk rec n hn t lv hlv hr m (i + 1) left' q2 (by omega) (by omega) (by omega)
     refine ⟨b2, l2, ?_, j1, by omega, fun hb => ?_⟩
     ·
      refine e3.trans ?_
      rw [ZcZ, if_pos (by unfold I64; omega)]
      exact e2
     ·
      obtain ⟨p1, p2, p3⟩ := j3 hb
      rw [List.drop_zero] at e4
      refine ⟨?_, p2, Ze1 _ i hlt ⟨⟨by omega, q4, by omega, e4⟩, q3⟩ p3⟩
      rw [ZkF _ _ hlt]; push_cast; omega
  ·
   rw [decide_eq_false hlt]
   simp only [Bool.false_eq_true, if_false, ZdA]
   refine ⟨true, left, rfl, by omega, by omega, fun _ => ⟨?_, h1, Zch _ _ (by omega)⟩⟩
   rw [List.drop_eq_nil_of_le (by omega)]; simp [ZbX]
theorem ZmV (rec : Ty → Int → Int → Option (Bool × Int)) (n : Nat) (hn : 400 ≤ n) (t : Ty) (lv : Nat) (hlv : lv ≤ 100) (hr : SmT rec lv) : ∀ (m i : Nat) (left : Int), 0 ≤ left → left ≤ 200 → (i : Int) + left ≤ 1000 → left + 1 < (m : Int) →
  ∃ b left', Zce rec n t ((lv : Int) + 1) m i left = some (b, left') ∧ -1 ≤ left' ∧ left' ≤ left ∧ (b = true → (Zdw (t.elem.drop i) : Int) + ZbX t.fields + left' = left ∧ 0 ≤ left' ∧ (∀ x ∈ t.elem.drop i, x.ok ∧ x.depth ≤ lv) ∧ ∀ p ∈ t.fields, (p.2.1.size ≤ 100 ∧ p.2.2.2.1.ok ∧ p.2.2.2.2.length ≤ 3 ∧ ∀ v ∈ p.2.2.2.2, v.small) ∧ p.2.2.2.1.depth ≤ lv)
 | 0, i, left, h1, _, _, h => by omega
 | m + 1, i, left, h1, h2, h3, h => by
  rw [Zce, ZaJ]
  by_cases hlt : i < t.elem.length
  ·
   rw [decide_eq_true hlt]
   simp only [if_true, ZaL hlt, Option.bind_some]
   rw [if_pos (by unfold I64; omega), show (lv : Int) + 1 - 1 = lv by omega]
   obtain ⟨b, left', e, k1, k2, k3⟩ := hr t.elem[i] left h1 h2
   rw [e]
   simp only [Option.bind_some]
   cases b with
   | false => simp only [Bool.not_false, if_true]; exact ⟨false, left', rfl, k1, by omega, fun h => by cases h⟩
   | true =>
    obtain ⟨q1, q2, q3, q4⟩ := k3 rfl
    simp only [Bool.not_true, Bool.false_eq_true, if_false]
    rw [if_pos (by unfold I64; omega)]
    obtain ⟨b, l2, e2, j1, j2, j3⟩ := ZmV rec n hn t lv hlv hr m (i + 1) left' q2 (by omega) (by omega) (by omega)
    refine ⟨b, l2, e2, j1, by omega, fun hb => ?_⟩
    obtain ⟨p1, p2, p3, p4⟩ := j3 hb
    refine ⟨?_, p2, Ze1 _ i hlt ⟨q4, q3⟩ p3, p4⟩
    rw [Zla _ _ hlt]; push_cast; omega
  ·
   rw [decide_eq_false hlt]
   simp only [Bool.false_eq_true, if_false, ZdC]
   obtain ⟨b, l2, e2, j1, j2, j3⟩ := Znk rec n hn t lv hlv hr n 0 left h1 h2 (by omega) (by omega)
   refine ⟨b, l2, e2, j1, j2, fun hb => ?_⟩
   obtain ⟨p1, p2, p3⟩ := j3 hb
   rw [List.drop_zero] at p1 p3
   refine ⟨?_, p2, Zch _ _ (by omega), p3⟩
   rw [List.drop_eq_nil_of_le (by omega)]; simp only [Zdw]; omega
theorem Zna (rec : Ty → Int → Int → Option (Bool × Int)) (n : Nat) (t : Ty) (a1 a2 : Int) (hw : t.words.length ≤ 70) : ∀ (k m i : Nat), i + k = t.words.length → k < m →
  (Zbn rec n t a1 a2 m i = some (false, a2 - 1)) ∨ (Zbn rec n t a1 a2 m i = Zdn rec n t a1 a2 ∧ ∀ w ∈ t.words.drop i, w.size ≤ 2000)
 | k, 0, i, _, h => absurd h (Nat.not_lt_zero _)
 | 0, m + 1, i, hi, _ => by
  rw [Zbn, ZaJ, decide_eq_false (by omega)]
  simp only [Bool.false_eq_true, if_false]
  exact .inr ⟨by trivial, Zch _ _ (by omega)⟩
 | k + 1, m + 1, i, hi, hm => by
  have hlt : i < t.words.length := by omega
  rw [Zbn, ZaJ, decide_eq_true hlt]
  simp only [if_true, ZaL hlt, Option.bind_some]
  by_cases hs : 2000 < t.words[i].size
  ·
   rw [decide_eq_true (by omega), if_pos rfl]; exact .inl rfl
  ·
   rw [decide_eq_false (by omega)]
   simp only [Bool.false_eq_true, if_false]
   rw [if_pos (Za7 (by omega))]
   rcases Zna rec n t a1 a2 hw k m (i + 1) (by omega) (by omega) with h | ⟨h, h2⟩
   ·
    exact .inl h
   ·
    exact .inr ⟨h, Ze1 _ i hlt (by omega) h2⟩
theorem Ztd : ∀ (lv n : Nat), lv ≤ 100 → lv + 401 ≤ n → SmT (Zci n) lv
 | _, 0, _, h => by omega
 | lv, n + 1, hlv, hn => by
  intro t left h1 h2
  rw [Zci, Ze0, if_pos (by unfold I64; omega)]
  by_cases hc : left - 1 < 0 ∨ (lv : Int) = 0 ∨ 70 < t.words.length
  ·
   rw [if_pos (by simp only [Bool.or_eq_true, decide_eq_true_eq]; omega)]
   exact ⟨false, left - 1, rfl, by omega, by omega, fun h => by cases h⟩
  ·
   rw [if_neg (by simp only [Bool.or_eq_true, decide_eq_true_eq]; omega)]
   obtain ⟨lv', rfl⟩ : ∃ k, lv = k + 1 := ⟨lv - 1, by omega⟩
   rcases Zna (Zci n) n t ((lv' + 1 : Nat) : Int) left (by omega) t.words.length n 0 (by omega) (by omega) with e | ⟨e, hw⟩
   ·
    exact ⟨false, left - 1, e, by omega, by omega, fun h => by cases h⟩
   ·
    obtain ⟨b, l2, e2, j1, j2, j3⟩ := ZmV (Zci n) n (by omega) t lv' (by omega) (Ztd lv' n (by omega) (by omega)) n 0 (left - 1) (by omega) (by omega) (by omega) (by omega)
    refine ⟨b, l2, ?_, j1, by omega, fun hb => ?_⟩
    ·
     refine e.trans ?_
     rw [Zdn]; push_cast; exact e2
    ·
     obtain ⟨p1, p2, p3, p4⟩ := j3 hb
     rw [List.drop_zero] at p1 p3 hw
     refine ⟨?_, p2, ?_, t.ok_eq.2 ⟨by omega, hw, fun x hx => (p3 x hx).1, fun p hp => (p4 p hp).1⟩⟩
     ·
      rw [t.size_eq]; push_cast; omega
     ·
      rw [t.depth_eq]
      have a := (ZiM t.elem lv').2 fun x hx => (p3 x hx).2
      have b := (Zh9 t.fields lv').2 fun p hp => (p4 p hp).2
      omega
def Ty.small (t : Ty) : Prop := t.size ≤ 200 ∧ t.depth ≤ 12 ∧ t.ok
theorem ZpJ (n : Nat) (hn : 500 ≤ n) (t : Ty) : ∃ b, ZdN n t = some b ∧ (b = true → t.small) := by
 obtain ⟨b, l2, e, h1, h2, h3⟩ := Ztd 12 n (by omega) (by omega) t 200 (by omega) (by omega)
 refine ⟨b, by rw [ZdN]; rw [show ((12 : Nat) : Int) = 12 from rfl] at e; rw [e]; rfl, fun hb => ?_⟩
 obtain ⟨p1, p2, p3, p4⟩ := h3 hb
 exact ⟨by omega, p3, p4⟩
def Zbt (a0 : Int) (a1 : Int) : Int :=
 if decide (a0 < a1) then
  (-1)
 else
  if decide (a1 < a0) then
   1
  else
   0
theorem Zl4 (w0 : World) (B : List (List AV)) (Rw : List RowA) (L : List LoopA) (a0 : Int) (a1 : Int) (r : Int) (h : Zbt a0 a1 = r) :
  ACalls Tryz.prog w0 111 [.val (.int .i64 a0), .val (.int .i64 a1)] ⟨B, Rw, L⟩ fun x st => x = .val (.int .i64 r) ∧ st = ⟨B, Rw, L⟩ := by
 rw [Zbt] at h
 refine hd [.tmp 4] Tryz.func111 Tryz.ntmps111 fun M0 W0 hN hNR hNL hcalm hu hO hs => ?_
 simp only [Zan]
 refine rg [0, 1] hs ?_
 apply Zab; intro K2 hK2
 apply Zae
 refine rg [0, 1, 5] hs ?_
 refine cnd h hs (fun hs h => ?_) (fun hs h => ?_)
 ·
  have hb4 := hs.1
  refine rg [4] hs ?_
  apply Zah; simp +decide only [go_sem, Nat.reduceAdd, hb4]
  subst h
  first | refine ZaE hcalm rfl hO.pre ev ⟨?_, rfl⟩ | refine Za4 hcalm rfl hO.pre ev ⟨?_, rfl⟩
  first | rfl | (simp +decide only [go_sem, Nat.reduceAdd, hb4]; done) | (simp +decide only [go_sem, Nat.reduceAdd, Vl.cs, Ty.cs, hb4]; done)
 have hb4 := hs.1
 refine rg [9] hs ?_
 refine cnd h hs (fun hs h => ?_) (fun hs h => ?_)
 ·
  have hb7 := hs.1
  refine rg [4] hs ?_
  apply Zah; simp +decide only [go_sem, Nat.reduceAdd, hb4, hb7]
  subst h
  first | refine ZaE hcalm rfl hO.pre ev ⟨?_, rfl⟩ | refine Za4 hcalm rfl hO.pre ev ⟨?_, rfl⟩
  first | rfl | (simp +decide only [go_sem, Nat.reduceAdd, hb4, hb7]; done) | (simp +decide only [go_sem, Nat.reduceAdd, Vl.cs, Ty.cs, hb4, hb7]; done)
 have hb7 := hs.1
 refine sk [] hs hK2 ?_
 clear hK2
 refine rg [4] hs ?_
 apply Zah; simp +decide only [go_sem, Nat.reduceAdd, hb4, hb7]
 subst h
 first | refine ZaE hcalm rfl hO.pre ev ⟨?_, rfl⟩ | refine Za4 hcalm rfl hO.pre ev ⟨?_, rfl⟩
 first | rfl | (simp +decide only [go_sem, Nat.reduceAdd, hb4, hb7]; done) | (simp +decide only [go_sem, Nat.reduceAdd, Vl.cs, Ty.cs, hb4, hb7]; done)
theorem Zdv (w0 : World) (B : List (List AV)) (Rw : List RowA) (L : List LoopA) (a0 : Int) (a1 : Int) :
  ACalls Tryz.prog w0 111 [.val (.int .i64 a0), .val (.int .i64 a1)] ⟨B, Rw, L⟩ fun x st => x = .val (.int .i64 (Zbt a0 a1)) ∧ st = ⟨B, Rw, L⟩ := Zl4 w0 B Rw L a0 a1 _ rfl
def ZcV (rec : Vl → Vl → Option Int) (n : Nat) (a0 : Vl) (a1 : Vl) : Option Int :=
 some (Zbt ((a0.fields.length : Int)) ((a1.fields.length : Int)))
def Zbv (rec : Vl → Vl → Option Int) (n : Nat) (a0 : Vl) (a1 : Vl) : Nat → Int → Option Int
 | 0, _ => none
 | m + 1, x8_l46 =>
  if (decide (x8_l46 < ((a0.fields.length : Int)))) && (decide (x8_l46 < ((a1.fields.length : Int)))) then
   (idx a0.fields x8_l46).bind fun x53 =>
   (idx a1.fields x8_l46).bind fun x54 =>
   if x53.1.size ≤ maxLen then
    if x54.1.size ≤ maxLen then
     if !(decide ((Zof x53.1 x54.1) = 0)) then
      some (Zof x53.1 x54.1)
     else
      (rec x53.2 x54.2).bind fun y61 =>
      if !(decide (y61 = 0)) then
       some (y61)
      else
       if I64 (x8_l46 + 1) then
        (Zbv rec n a0 a1 m) (x8_l46 + 1)
       else none
    else none
   else none
  else
   ZcV rec n a0 a1 
def ZcX (rec : Vl → Vl → Option Int) (n : Nat) (a0 : Vl) (a1 : Vl) : Option Int :=
 if !(decide (((a0.list.length : Int)) = ((a1.list.length : Int)))) then
  some (Zbt ((a0.list.length : Int)) ((a1.list.length : Int)))
 else
  Zbv rec n a0 a1 n 0
def Zbw (rec : Vl → Vl → Option Int) (n : Nat) (a0 : Vl) (a1 : Vl) : Nat → Int → Option Int
 | 0, _ => none
 | m + 1, x6_l25 =>
  if (decide (x6_l25 < ((a0.list.length : Int)))) && (decide (x6_l25 < ((a1.list.length : Int)))) then
   (idx a0.list x6_l25).bind fun x31 =>
   (idx a1.list x6_l25).bind fun x32 =>
   (rec x31 x32).bind fun y33 =>
   if !(decide (y33 = 0)) then
    some (y33)
   else
    if I64 (x6_l25 + 1) then
     (Zbw rec n a0 a1 m) (x6_l25 + 1)
    else none
  else
   ZcX rec n a0 a1 
def ZdF (rec : Vl → Vl → Option Int) (n : Nat) (a0 : Vl) (a1 : Vl) : Option Int :=
 if !(decide (a0.kind = a1.kind)) then
  some (Zbt a0.kind a1.kind)
 else
  if !(decide (a0.int = a1.int)) then
   some (Zbt a0.int a1.int)
  else
   if !(decide (a0.scale = a1.scale)) then
    some (Zbt a0.scale a1.scale)
   else
    if a0.text.size ≤ maxLen then
     if a1.text.size ≤ maxLen then
      if !(decide ((Zof a0.text a1.text) = 0)) then
       some (Zof a0.text a1.text)
      else
       Zbw rec n a0 a1 n 0
     else none
    else none
def ZbI : Nat → Vl → Vl → Option Int
 | 0, _, _ => none
 | n + 1, a0, a1 => ZdF (ZbI n) n a0 a1
def ZeK (w0 : World) (F : Vl → Vl → Option Int) : Prop := ∀ (B : List (List AV)) (Rw : List RowA) (L : List LoopA) (a0 : Vl) (a1 : Vl) (r : Int), F a0 a1 = some r → ACalls Tryz.prog w0 62 [.agg (a0.cs), .agg (a1.cs)] ⟨B, Rw, L⟩ fun x st => x = .val (.int .i64 r) ∧ st = ⟨B, Rw, L⟩
theorem Zh0 (w0 : World) (rec : Vl → Vl → Option Int) (ih : ZeK w0 rec) (n : Nat) : ZeK w0 (ZdF rec n) := by
 intro B Rw L a0 a1 r h
 rw [ZdF] at h
 refine hd [.tmp 4] Tryz.func62 Tryz.ntmps62 fun M0 W0 hN hNR hNL hcalm hu hO hs => ?_
 simp only [Zan]
 refine rg [2, 3] hs ?_
 apply Zab; intro K2 hK2
 refine rg [2, 3, 15] hs ?_
 refine cnd h hs (fun hs h => ?_) (fun hs h => ?_)
 ·
  have hb4 := hs.1
  refine rc 2 [4] hs ?_; intro K5 hK5
  refine Zaf _ (Zdv w0 _ _ _ a0.kind a1.kind) (hv hs) ?_
  refine ne hs hK5 ?_
  clear hK5
  exact rt h hs hcalm hO
 have hb4 := hs.1
 refine sk [2, 3] hs hK2 ?_
 clear hK2
 apply Zab; intro K6 hK6
 refine rg [2, 3, 25] hs ?_
 refine cnd h hs (fun hs h => ?_) (fun hs h => ?_)
 ·
  have hb8 := hs.1
  refine rc 2 [4] hs ?_; intro K9 hK9
  refine Zaf _ (Zdv w0 _ _ _ a0.int a1.int) (hv hs) ?_
  refine ne hs hK9 ?_
  clear hK9
  exact rt h hs hcalm hO
 have hb8 := hs.1
 refine sk [2, 3] hs hK6 ?_
 clear hK6
 apply Zab; intro K10 hK10
 refine rg [2, 3, 35] hs ?_
 refine cnd h hs (fun hs h => ?_) (fun hs h => ?_)
 ·
  have hb12 := hs.1
  refine rc 2 [4] hs ?_; intro K13 hK13
  refine Zaf _ (Zdv w0 _ _ _ a0.scale a1.scale) (hv hs) ?_
  refine ne hs hK13 ?_
  clear hK13
  exact rt h hs hcalm hO
 have hb12 := hs.1
 refine sk [2, 3] hs hK10 ?_
 clear hK10
 apply Zab; intro K14 hK14
 obtain ⟨hg16, h⟩ := Zad h
 obtain ⟨hg17, h⟩ := Zad h
 refine rc 2 [2, 3, 5] hs ?_; intro K15 hK15
 refine Zaf _ (Zng w0 _ _ _ a0.text a1.text hg16 hg17) (hv hs) ?_
 refine ne hs hK15 ?_
 clear hK15
 refine rg [2, 3, 5, 47] hs ?_
 refine cnd h hs (fun hs h => ?_) (fun hs h => ?_)
 ·
  have hb19 := hs.1
  refine rg [4] hs ?_
  exact rt h hs hcalm hO
 have hb19 := hs.1
 refine sk [2, 3] hs hK14 ?_
 clear hK14
 refine Zal (fun e st => Ck e st B Rw L [(2, true, .box B.length 0), (3, true, .box (B.length + 1) 0)] [a0.cs, a1.cs] [] (ZcX rec n a0 a1  = some r)) ?_ ?_
 ·
  intro K23 hK23
  refine rg [2, 3, 6] hs ?_
  apply Zae
  refine Zak (fun m e st => ∃ (x6_l25 : Int), Ck e st B Rw L [(2, true, .box B.length 0), (3, true, .box (B.length + 1) 0), (6, true, .val (.int .i64 x6_l25))] [a0.cs, a1.cs] [] (Zbw rec n a0 a1 m x6_l25 = some r)) n ⟨0, ([]), Rw, ef hs, ef hs, hO, h⟩ ?_
  rintro ml25 e st ⟨x6_l25, Xl25, Rl25, rfl, rfl, hO, h⟩ Ul25 Vl25
  cases ml25 with
  | zero => cases h
  | succ ml25 =>
  rw [Zbw] at h
  refine td hN hNR hNL hcalm hO ?_
  apply Zab; intro K26 hK26
  refine rg [2, 3, 6, 60] hs ?_
  refine cnd h hs (fun hs h => ?_) (fun hs h => ?_)
  rotate_left
  ·
   have hb28 := hs.1
   refine sx [2, 3] hs hK23 ?_
   exact ⟨([]), Rl25, ef hs, ef hs, hO, h⟩
  have hb28 := hs.1
  refine sk [2, 3, 6] hs hK26 ?_
  clear hK26
  apply Zab; intro K29 hK29
  apply Zae
  apply Zab; intro K30 hK30
  obtain ⟨x31, hx31a, hx31b, hx31d, h⟩ := ix avV h
  obtain ⟨x32, hx32a, hx32b, hx32d, h⟩ := ix avV h
  obtain ⟨y33, hy33, h⟩ := bind_some h
  apply Zap mix 12 2 1 [2, 3, 6, 7] (by kernel_rfl)
  rw [Zaa]; simp +decide only [go_sem, Nat.reduceAdd, hb4, hb8, hb12, hb19, hb28, hx31d, hx32d]
  have hs := And.intro hx31d hs
  have hs := And.intro hx32d hs
  (repeat' apply And.intro) <;> first | refine Zaf _ (ih _ _ _ x31 x32 _ hy33) (hv hs) ?_ | exact cl
  rw [Zaa]; simp +decide only [go_sem, Nat.reduceAdd, hb4, hb8, hb12, hb19, hb28, hx31d, hx32d]
  (repeat' with_reducible apply And.intro) <;> first | (rw [Zaa]; simp +decide only [go_sem, Nat.reduceAdd, hb4, hb8, hb12, hb19, hb28, hx31d, hx32d]) | exact cl
  (repeat' apply And.intro) <;> first | refine hK30 _ _ ?_ | exact cl
  clear hK30
  refine rg [2, 3, 6, 7, 75] hs ?_
  refine cnd h hs (fun hs h => ?_) (fun hs h => ?_)
  ·
   refine rg [4] hs ?_
   exact rt h hs hcalm hO
  refine sk [2, 3, 6] hs hK29 ?_
  clear hK29
  obtain ⟨hg37, h⟩ := Zad h
  refine rl [2, 3, 6] hs (fun e s => Vl25 ml25 e s (Nat.lt_succ_self _)) ?_
  exact ⟨(x6_l25 + 1), ([]), Rl25, ef hs, ef hs, hO, h⟩
 ·
  clear h; rintro e st ⟨Xk22, Rk22, rfl, rfl, hO, h⟩
  rw [ZcX] at h
  refine td hN hNR hNL hcalm hO ?_
  apply Zab; intro K38 hK38
  refine rg [2, 3, 83] hs ?_
  refine cnd h hs (fun hs h => ?_) (fun hs h => ?_)
  ·
   have hb40 := hs.1
   refine rc 2 [4] hs ?_; intro K41 hK41
   refine Zaf _ (Zdv w0 _ _ _ ((a0.list.length : Int)) ((a1.list.length : Int))) (hv hs) ?_
   refine ne hs hK41 ?_
   clear hK41
   exact rt h hs hcalm hO
  have hb40 := hs.1
  refine sk [2, 3] hs hK38 ?_
  clear hK38
  refine Zal (fun e st => Ck e st B Rw L [(2, true, .box B.length 0), (3, true, .box (B.length + 1) 0)] [a0.cs, a1.cs] [] (ZcV rec n a0 a1  = some r)) ?_ ?_
  ·
   intro K44 hK44
   refine rg [2, 3, 8] hs ?_
   apply Zae
   refine Zak (fun m e st => ∃ (x8_l46 : Int), Ck e st B Rw L [(2, true, .box B.length 0), (3, true, .box (B.length + 1) 0), (8, true, .val (.int .i64 x8_l46))] [a0.cs, a1.cs] [] (Zbv rec n a0 a1 m x8_l46 = some r)) n ⟨0, ([]), Rk22, ef hs, ef hs, hO, h⟩ ?_
   rintro ml46 e st ⟨x8_l46, Xl46, Rl46, rfl, rfl, hO, h⟩ Ul46 Vl46
   cases ml46 with
   | zero => cases h
   | succ ml46 =>
   rw [Zbv] at h
   refine td hN hNR hNL hcalm hO ?_
   apply Zab; intro K47 hK47
   refine rg [2, 3, 8, 102] hs ?_
   refine cnd h hs (fun hs h => ?_) (fun hs h => ?_)
   rotate_left
   ·
    have hb49 := hs.1
    refine sx [2, 3] hs hK44 ?_
    exact ⟨([]), Rl46, ef hs, ef hs, hO, h⟩
   have hb49 := hs.1
   refine sk [2, 3, 8] hs hK47 ?_
   clear hK47
   apply Zab; intro K50 hK50
   apply Zae
   apply Zab; intro K51 hK51
   apply Zab; intro K52 hK52
   obtain ⟨x53, hx53a, hx53b, hx53d, h⟩ := ix avF h
   obtain ⟨x54, hx54a, hx54b, hx54d, h⟩ := ix avF h
   obtain ⟨hg55, h⟩ := Zad h
   obtain ⟨hg56, h⟩ := Zad h
   apply Zap mix 14 2 1 [2, 3, 8, 9] (by kernel_rfl)
   rw [Zaa]; simp +decide only [go_sem, Nat.reduceAdd, hb4, hb8, hb12, hb19, hb40, hb49, hx53d, hx54d]
   have hs := And.intro hx53d hs
   have hs := And.intro hx54d hs
   (repeat' apply And.intro) <;> first | refine Zaf _ (Zng w0 _ _ _ x53.1 x54.1 hg55 hg56) (hv hs) ?_ | exact cl
   rw [Zaa]; simp +decide only [go_sem, Nat.reduceAdd, hb4, hb8, hb12, hb19, hb40, hb49, hx53d, hx54d]
   (repeat' with_reducible apply And.intro) <;> first | (rw [Zaa]; simp +decide only [go_sem, Nat.reduceAdd, hb4, hb8, hb12, hb19, hb40, hb49, hx53d, hx54d]) | exact cl
   (repeat' apply And.intro) <;> first | refine hK52 _ _ ?_ | exact cl
   clear hK52
   refine rg [2, 3, 8, 9, 119] hs ?_
   refine cnd h hs (fun hs h => ?_) (fun hs h => ?_)
   ·
    have hb58 := hs.1
    refine rg [4] hs ?_
    exact rt h hs hcalm hO
   have hb58 := hs.1
   refine sk [2, 3, 8] hs hK51 ?_
   clear hK51
   apply Zab; intro K60 hK60
   obtain ⟨y61, hy61, h⟩ := bind_some h
   apply Zap mix 14 2 1 [2, 3, 8, 10] (by kernel_rfl)
   rw [Zaa]; simp +decide only [go_sem, Nat.reduceAdd, hb4, hb8, hb12, hb19, hb40, hb49, hx53d, hx54d, hb58]
   (repeat' apply And.intro) <;> first | refine Zaf _ (ih _ _ _ x53.2 x54.2 _ hy61) (hv hs) ?_ | exact cl
   rw [Zaa]; simp +decide only [go_sem, Nat.reduceAdd, hb4, hb8, hb12, hb19, hb40, hb49, hx53d, hx54d, hb58]
   (repeat' with_reducible apply And.intro) <;> first | (rw [Zaa]; simp +decide only [go_sem, Nat.reduceAdd, hb4, hb8, hb12, hb19, hb40, hb49, hx53d, hx54d, hb58]) | exact cl
   (repeat' apply And.intro) <;> first | refine hK60 _ _ ?_ | exact cl
   clear hK60
   refine rg [2, 3, 8, 10, 135] hs ?_
   refine cnd h hs (fun hs h => ?_) (fun hs h => ?_)
   ·
    refine rg [4] hs ?_
    exact rt h hs hcalm hO
   refine sk [2, 3, 8] hs hK50 ?_
   clear hK50
   obtain ⟨hg65, h⟩ := Zad h
   refine rl [2, 3, 8] hs (fun e s => Vl46 ml46 e s (Nat.lt_succ_self _)) ?_
   exact ⟨(x8_l46 + 1), ([]), Rl46, ef hs, ef hs, hO, h⟩
  ·
   clear h; rintro e st ⟨Xk43, Rk43, rfl, rfl, hO, h⟩
   rw [ZcV] at h
   refine td hN hNR hNL hcalm hO ?_
   refine rc 2 [4] hs ?_; intro K66 hK66
   refine Zaf _ (Zdv w0 _ _ _ ((a0.fields.length : Int)) ((a1.fields.length : Int))) (hv hs) ?_
   refine ne hs hK66 ?_
   clear hK66
   exact rt h hs hcalm hO
theorem ZfS (w0 : World) : ∀ n : Nat, ZeK w0 (ZbI n)
 | 0 => fun _ _ _ _ _ _ h => (nomatch h)
 | n + 1 => Zh0 w0 (ZbI n) (ZfS w0 n) n
def Zdi (n : Nat) (a0 : Vl) (a1 : Vl) : Option Bool :=
 (ZbI n a0 a1).bind fun y3 =>
 some (decide (y3 = 0))
theorem ZkG (w0 : World) (n : Nat) (B : List (List AV)) (Rw : List RowA) (L : List LoopA) (a0 : Vl) (a1 : Vl) (r : Bool) (h : Zdi n a0 a1 = some r) :
  ACalls Tryz.prog w0 24 [.agg (a0.cs), .agg (a1.cs)] ⟨B, Rw, L⟩ fun x st => x = .val (.bool r) ∧ st = ⟨B, Rw, L⟩ := by
 rw [Zdi] at h
 refine hd [.tmp 4] Tryz.func24 Tryz.ntmps24 fun M0 W0 hN hNR hNL hcalm hu hO hs => ?_
 simp only [Zan]
 refine rg [2, 3] hs ?_
 obtain ⟨y3, hy3, h⟩ := bind_some h
 refine rc 2 [4] hs ?_; intro K2 hK2
 refine Zaf _ (ZfS w0 n _ _ _ a0 a1 _ hy3) (hv hs) ?_
 refine ne hs hK2 ?_
 clear hK2
 exact rt h hs hcalm hO
def Zc1 (rec : Ty → Ty → Option Bool) (n : Nat) (again_l41 : Int → Option Bool) (x7_l41 : Int) : Option Bool :=
 if I64 (x7_l41 + 1) then
  again_l41 (x7_l41 + 1)
 else none
def ZdE (rec : Ty → Ty → Option Bool) (n : Nat)  : Option Bool :=
 some (true)
def Zbk (rec : Ty → Ty → Option Bool) (n : Nat) (again_l41 : Int → Option Bool) (x7_l41 : Int) (x49 : Int × ByteArray × Int × Ty × List Vl) (x50 : Int × ByteArray × Int × Ty × List Vl) : Nat → Int → Option Bool
 | 0, _ => none
 | m + 1, x10_l60 =>
  if decide (x10_l60 < ((x49.2.2.2.2.length : Int))) then
   (idx x49.2.2.2.2 x10_l60).bind fun x66 =>
   (idx x50.2.2.2.2 x10_l60).bind fun x67 =>
   (Zdi n x66 x67).bind fun y68 =>
   if !y68 then
    some (false)
   else
    if I64 (x10_l60 + 1) then
     (Zbk rec n again_l41 x7_l41 x49 x50 m) (x10_l60 + 1)
    else none
  else
   Zc1 rec n again_l41 x7_l41 
def ZaW (rec : Ty → Ty → Option Bool) (n : Nat) (a0 : Ty) (a1 : Ty) : Nat → Int → Option Bool
 | 0, _ => none
 | m + 1, x7_l41 =>
  if decide (x7_l41 < ((a0.fields.length : Int))) then
   (idx a0.fields x7_l41).bind fun x49 =>
   (idx a1.fields x7_l41).bind fun x50 =>
   if (((!(decide (x49.1 = x50.1))) || (!(sEq x49.2.1 x50.2.1))) || (!(decide (x49.2.2.1 = x50.2.2.1)))) || (!(decide (((x49.2.2.2.2.length : Int)) = ((x50.2.2.2.2.length : Int))))) then
    some (false)
   else
    (rec x49.2.2.2.1 x50.2.2.2.1).bind fun y56 =>
    if !y56 then
     some (false)
    else
     Zbk rec n (ZaW rec n a0 a1 m) x7_l41 x49 x50 n 0
  else
   ZdE rec n 
def ZcY (rec : Ty → Ty → Option Bool) (n : Nat) (a0 : Ty) (a1 : Ty) : Option Bool :=
 ZaW rec n a0 a1 n 0
def Zbo (rec : Ty → Ty → Option Bool) (n : Nat) (a0 : Ty) (a1 : Ty) : Nat → Int → Option Bool
 | 0, _ => none
 | m + 1, x6_l25 =>
  if decide (x6_l25 < ((a0.elem.length : Int))) then
   (idx a0.elem x6_l25).bind fun x31 =>
   (idx a1.elem x6_l25).bind fun x32 =>
   (rec x31 x32).bind fun y33 =>
   if !y33 then
    some (false)
   else
    if I64 (x6_l25 + 1) then
     (Zbo rec n a0 a1 m) (x6_l25 + 1)
    else none
  else
   ZcY rec n a0 a1 
def ZcN (rec : Ty → Ty → Option Bool) (n : Nat) (a0 : Ty) (a1 : Ty) : Option Bool :=
 Zbo rec n a0 a1 n 0
def Zbm (rec : Ty → Ty → Option Bool) (n : Nat) (a0 : Ty) (a1 : Ty) : Nat → Int → Option Bool
 | 0, _ => none
 | m + 1, x5_l10 =>
  if decide (x5_l10 < ((a0.words.length : Int))) then
   (idx a0.words x5_l10).bind fun x16 =>
   (idx a1.words x5_l10).bind fun x17 =>
   if !(sEq x16 x17) then
    some (false)
   else
    if I64 (x5_l10 + 1) then
     (Zbm rec n a0 a1 m) (x5_l10 + 1)
    else none
  else
   ZcN rec n a0 a1 
def Ze4 (rec : Ty → Ty → Option Bool) (n : Nat) (a0 : Ty) (a1 : Ty) : Option Bool :=
 if ((((((!(decide (a0.kind = a1.kind))) || (!(decide (a0.min = a1.min)))) || (!(decide (a0.max = a1.max)))) || (!(decide (a0.scale = a1.scale)))) || (!(decide (((a0.words.length : Int)) = ((a1.words.length : Int)))))) || (!(decide (((a0.elem.length : Int)) = ((a1.elem.length : Int)))))) || (!(decide (((a0.fields.length : Int)) = ((a1.fields.length : Int))))) then
  some (false)
 else
  Zbm rec n a0 a1 n 0
def ZbO : Nat → Ty → Ty → Option Bool
 | 0, _, _ => none
 | n + 1, a0, a1 => Ze4 (ZbO n) n a0 a1
def Zgt (w0 : World) (F : Ty → Ty → Option Bool) : Prop := ∀ (B : List (List AV)) (Rw : List RowA) (L : List LoopA) (a0 : Ty) (a1 : Ty) (r : Bool), F a0 a1 = some r → ACalls Tryz.prog w0 30 [.agg (a0.cs), .agg (a1.cs)] ⟨B, Rw, L⟩ fun x st => x = .val (.bool r) ∧ st = ⟨B, Rw, L⟩
theorem Zjy (w0 : World) (rec : Ty → Ty → Option Bool) (ih : Zgt w0 rec) (n : Nat) : Zgt w0 (Ze4 rec n) := by
 intro B Rw L a0 a1 r h
 rw [Ze4] at h
 refine hd [.tmp 4] Tryz.func30 Tryz.ntmps30 fun M0 W0 hN hNR hNL hcalm hu hO hs => ?_
 simp only [Zan]
 refine rg [2, 3] hs ?_
 apply Zab; intro K2 hK2
 refine rg [2, 3, 63] hs ?_
 refine cnd h hs (fun hs h => ?_) (fun hs h => ?_)
 ·
  have hb4 := hs.1
  refine rg [4] hs ?_
  exact rt h hs hcalm hO
 have hb4 := hs.1
 refine sk [2, 3] hs hK2 ?_
 clear hK2
 refine Zal (fun e st => Ck e st B Rw L [(2, true, .box B.length 0), (3, true, .box (B.length + 1) 0)] [a0.cs, a1.cs] [] (ZcN rec n a0 a1  = some r)) ?_ ?_
 ·
  intro K8 hK8
  refine rg [2, 3, 5] hs ?_
  apply Zae
  refine Zak (fun m e st => ∃ (x5_l10 : Int), Ck e st B Rw L [(2, true, .box B.length 0), (3, true, .box (B.length + 1) 0), (5, true, .val (.int .i64 x5_l10))] [a0.cs, a1.cs] [] (Zbm rec n a0 a1 m x5_l10 = some r)) n ⟨0, ([]), Rw, ef hs, ef hs, hO, h⟩ ?_
  rintro ml10 e st ⟨x5_l10, Xl10, Rl10, rfl, rfl, hO, h⟩ Ul10 Vl10
  cases ml10 with
  | zero => cases h
  | succ ml10 =>
  rw [Zbm] at h
  refine td hN hNR hNL hcalm hO ?_
  apply Zab; intro K11 hK11
  refine rg [2, 3, 5, 68] hs ?_
  refine cnd h hs (fun hs h => ?_) (fun hs h => ?_)
  rotate_left
  ·
   refine sx [2, 3] hs hK8 ?_
   exact ⟨([]), Rl10, ef hs, ef hs, hO, h⟩
  refine sk [2, 3, 5] hs hK11 ?_
  clear hK11
  apply Zab; intro K14 hK14
  apply Zae
  obtain ⟨x16, hx16, h⟩ := bind_some h
  obtain ⟨hx16a, hx16b, hx16c⟩ := Zau hx16
  have hx16d := Zav (f := avS) hx16c
  obtain ⟨x17, hx17, h⟩ := bind_some h
  obtain ⟨hx17a, hx17b, hx17c⟩ := Zau hx17
  have hx17d := Zav (f := avS) hx17c
  have hs := And.intro hx16d hs
  have hs := And.intro hx17d hs
  refine dg 11 1 1 [2, 3, 5, 81] hs mix ?_
  refine cnd h hs (fun hs h => ?_) (fun hs h => ?_)
  ·
   refine rg [4] hs ?_
   exact rt h hs hcalm hO
  refine sk [2, 3, 5] hs hK14 ?_
  clear hK14
  obtain ⟨hg20, h⟩ := Zad h
  refine rl [2, 3, 5] hs (fun e s => Vl10 ml10 e s (Nat.lt_succ_self _)) ?_
  exact ⟨(x5_l10 + 1), ([]), Rl10, ef hs, ef hs, hO, h⟩
 ·
  clear h; rintro e st ⟨Xk7, Rk7, rfl, rfl, hO, h⟩
  rw [ZcN] at h
  refine td hN hNR hNL hcalm hO ?_
  refine Zal (fun e st => Ck e st B Rw L [(2, true, .box B.length 0), (3, true, .box (B.length + 1) 0)] [a0.cs, a1.cs] [] (ZcY rec n a0 a1  = some r)) ?_ ?_
  ·
   intro K23 hK23
   refine rg [2, 3, 6] hs ?_
   apply Zae
   refine Zak (fun m e st => ∃ (x6_l25 : Int), Ck e st B Rw L [(2, true, .box B.length 0), (3, true, .box (B.length + 1) 0), (6, true, .val (.int .i64 x6_l25))] [a0.cs, a1.cs] [] (Zbo rec n a0 a1 m x6_l25 = some r)) n ⟨0, ([]), Rk7, ef hs, ef hs, hO, h⟩ ?_
   rintro ml25 e st ⟨x6_l25, Xl25, Rl25, rfl, rfl, hO, h⟩ Ul25 Vl25
   cases ml25 with
   | zero => cases h
   | succ ml25 =>
   rw [Zbo] at h
   refine td hN hNR hNL hcalm hO ?_
   apply Zab; intro K26 hK26
   refine rg [2, 3, 6, 86] hs ?_
   refine cnd h hs (fun hs h => ?_) (fun hs h => ?_)
   rotate_left
   ·
    have hb28 := hs.1
    refine sx [2, 3] hs hK23 ?_
    exact ⟨([]), Rl25, ef hs, ef hs, hO, h⟩
   have hb28 := hs.1
   refine sk [2, 3, 6] hs hK26 ?_
   clear hK26
   apply Zab; intro K29 hK29
   apply Zae
   apply Zab; intro K30 hK30
   obtain ⟨x31, hx31a, hx31b, hx31d, h⟩ := ix avT h
   obtain ⟨x32, hx32a, hx32b, hx32d, h⟩ := ix avT h
   obtain ⟨y33, hy33, h⟩ := bind_some h
   apply Zap mix 12 2 1 [2, 3, 6, 100] (by kernel_rfl)
   rw [Zaa]; simp +decide only [go_sem, Nat.reduceAdd, hb4, hb28, hx31d, hx32d]
   have hs := And.intro hx31d hs
   have hs := And.intro hx32d hs
   (repeat' apply And.intro) <;> first | refine Zaf _ (ih _ _ _ x31 x32 _ hy33) (hv hs) ?_ | exact cl
   rw [Zaa]; simp +decide only [go_sem, Nat.reduceAdd, hb4, hb28, hx31d, hx32d]
   (repeat' with_reducible apply And.intro) <;> first | (rw [Zaa]; simp +decide only [go_sem, Nat.reduceAdd, hb4, hb28, hx31d, hx32d]) | exact cl
   (repeat' apply And.intro) <;> first | refine hK30 _ _ ?_ | exact cl
   clear hK30
   refine cnd h hs (fun hs h => ?_) (fun hs h => ?_)
   ·
    refine rg [4] hs ?_
    exact rt h hs hcalm hO
   refine sk [2, 3, 6] hs hK29 ?_
   clear hK29
   obtain ⟨hg36, h⟩ := Zad h
   refine rl [2, 3, 6] hs (fun e s => Vl25 ml25 e s (Nat.lt_succ_self _)) ?_
   exact ⟨(x6_l25 + 1), ([]), Rl25, ef hs, ef hs, hO, h⟩
  ·
   clear h; rintro e st ⟨Xk22, Rk22, rfl, rfl, hO, h⟩
   rw [ZcY] at h
   refine td hN hNR hNL hcalm hO ?_
   refine Zal (fun e st => Ck e st B Rw L [] [a0.cs, a1.cs] [] (ZdE rec n  = some r)) ?_ ?_
   ·
    intro K39 hK39
    refine rg [2, 3, 7] hs ?_
    apply Zae
    refine Zak (fun m e st => ∃ (x7_l41 : Int), Ck e st B Rw L [(2, true, .box B.length 0), (3, true, .box (B.length + 1) 0), (7, true, .val (.int .i64 x7_l41))] [a0.cs, a1.cs] [] (ZaW rec n a0 a1 m x7_l41 = some r)) n ⟨0, ([]), Rk22, ef hs, ef hs, hO, h⟩ ?_
    rintro ml41 e st ⟨x7_l41, Xl41, Rl41, rfl, rfl, hO, h⟩ Ul41 Vl41
    cases ml41 with
    | zero => cases h
    | succ ml41 =>
    rw [ZaW] at h
    refine td hN hNR hNL hcalm hO ?_
    apply Zab; intro K42 hK42
    refine rg [2, 3, 7, 105] hs ?_
    refine cnd h hs (fun hs h => ?_) (fun hs h => ?_)
    rotate_left
    ·
     have hb44 := hs.1
     refine sx [] hs hK39 ?_
     exact ⟨([]), Rl41, ef hs, ef hs, hO, h⟩
    have hb44 := hs.1
    refine sk [2, 3, 7] hs hK42 ?_
    clear hK42
    refine Zal (fun e st => Ck e st B Rw L [(2, true, .box B.length 0), (3, true, .box (B.length + 1) 0), (7, true, .val (.int .i64 x7_l41))] [a0.cs, a1.cs] [] (Zc1 rec n (ZaW rec n a0 a1 ml41) x7_l41  = some r)) ?_ ?_
    ·
     intro K47 hK47
     apply Zae
     apply Zab; intro K48 hK48
     obtain ⟨x49, hx49a, hx49b, hx49d, h⟩ := ix ZdK h
     obtain ⟨x50, hx50a, hx50b, hx50d, h⟩ := ix ZdK h
     apply ZgC mix [10, 11, 12, 13] [2, 3, 7, 8, 9] (by kernel_rfl) (fun s => ∃ (X : List (List AV)) (rows : List RowA), s = ⟨B ++ ([a0.cs, a1.cs] ++ X), rows, L⟩) 5 (B.length + 2)
     ·
      simp +decide only [go_sem, Nat.reduceAdd]
     ·
      rintro s ⟨X, rows, rfl⟩
      refine ⟨1, ?_⟩
      rw [Zaa]; simp +decide only [go_sem, Nat.reduceAdd, ZdT, hb4, hb44, hx49d, hx50d]
      (repeat' apply And.intro) <;> first | rfl | exact cl
     ·
      refine Good.mk [10, 11] (by kernel_rfl) ⟨[], _, by first | rfl | simp only [List.append_nil, List.nil_append]⟩ ?_ ?_
      ·
       intro h; exact absurd h (by decide)
      ·
       intro i hi; simp only [List.mem_cons, List.not_mem_nil, or_false] at hi
       rcases hi with rfl | rfl
       ·
        apply Zba rfl rfl ev
        ·
         simp +decide only [go_sem, Nat.reduceAdd, Zcd, hb4, hb44, hx49d, hx50d]
         (repeat' apply And.intro) <;> first | rfl | exact cl
        ·
         simp +decide only [go_sem, Nat.reduceAdd, hb4, hb44, hx49d, hx50d]
         refine Good.mk [11] (by kernel_rfl) ⟨_, _, by first | rfl | simp only [List.append_nil, List.nil_append]⟩ ?_ ?_
         ·
          intro h; exact absurd h (by decide)
         ·
          intro i hi; simp only [List.mem_cons, List.not_mem_nil, or_false] at hi
          subst hi
          ·
           apply Zba rfl rfl ev
           ·
            simp +decide only [go_sem, Nat.reduceAdd, Zcd, hb4, hb44, hx49d, hx50d]
            (repeat' apply And.intro) <;> first | rfl | exact cl
           ·
            simp +decide only [go_sem, Nat.reduceAdd, hb4, hb44, hx49d, hx50d]
            refine Good.mk [12] (by kernel_rfl) ⟨_, _, by first | rfl | simp only [List.append_nil, List.nil_append]⟩ ?_ ?_
            ·
             intro h; exact absurd h (by decide)
            ·
             intro i hi; simp only [List.mem_cons, List.not_mem_nil, or_false] at hi
             subst hi
             ·
              apply Zba rfl rfl ev
              ·
               simp +decide only [go_sem, Nat.reduceAdd, Zcd, hb4, hb44, hx49d, hx50d]
               (repeat' apply And.intro) <;> first | rfl | exact cl
              ·
               simp +decide only [go_sem, Nat.reduceAdd, hb4, hb44, hx49d, hx50d]
               refine Good.mk [13] (by kernel_rfl) ⟨_, _, by first | rfl | simp only [List.append_nil, List.nil_append]⟩ ?_ ?_
               ·
                intro h; exact absurd h (by decide)
               ·
                intro i hi; simp only [List.mem_cons, List.not_mem_nil, or_false] at hi
                subst hi
                ·
                 apply Zba rfl rfl ev
                 ·
                  simp +decide only [go_sem, Nat.reduceAdd, Zcd, hb4, hb44, hx49d, hx50d]
                  (repeat' apply And.intro) <;> first | rfl | exact cl
                 ·
                  simp +decide only [go_sem, Nat.reduceAdd, hb4, hb44, hx49d, hx50d]
                  refine Good.mk [] (by kernel_rfl) ⟨_, _, by first | rfl | simp only [List.append_nil, List.nil_append]⟩ ?_ ?_
                  ·
                   intro _; apply ZdL [2, 3, 7, 8, 9]; first | (simp +decide only [go_sem, Nat.reduceAdd, hb4, hb44, hx49d, hx50d]; done) | (simp +decide only [go_sem, Nat.reduceAdd, hb4, hb44, hx49d, hx50d]; rfl)
                  ·
                   intro i hi; cases hi
       ·
        apply Zba rfl rfl ev
        ·
         simp +decide only [go_sem, Nat.reduceAdd, Zcd, hb4, hb44, hx49d, hx50d]
         (repeat' apply And.intro) <;> first | rfl | exact cl
        ·
         simp +decide only [go_sem, Nat.reduceAdd, hb4, hb44, hx49d, hx50d]
         refine Good.mk [10] (by kernel_rfl) ⟨_, _, by first | rfl | simp only [List.append_nil, List.nil_append]⟩ ?_ ?_
         ·
          intro h; exact absurd h (by decide)
         ·
          intro i hi; simp only [List.mem_cons, List.not_mem_nil, or_false] at hi
          subst hi
          ·
           apply Zba rfl rfl ev
           ·
            simp +decide only [go_sem, Nat.reduceAdd, Zcd, hb4, hb44, hx49d, hx50d]
            (repeat' apply And.intro) <;> first | rfl | exact cl
           ·
            simp +decide only [go_sem, Nat.reduceAdd, hb4, hb44, hx49d, hx50d]
            refine Good.mk [12] (by kernel_rfl) ⟨_, _, by first | rfl | simp only [List.append_nil, List.nil_append]⟩ ?_ ?_
            ·
             intro h; exact absurd h (by decide)
            ·
             intro i hi; simp only [List.mem_cons, List.not_mem_nil, or_false] at hi
             subst hi
             ·
              apply Zba rfl rfl ev
              ·
               simp +decide only [go_sem, Nat.reduceAdd, Zcd, hb4, hb44, hx49d, hx50d]
               (repeat' apply And.intro) <;> first | rfl | exact cl
              ·
               simp +decide only [go_sem, Nat.reduceAdd, hb4, hb44, hx49d, hx50d]
               refine Good.mk [13] (by kernel_rfl) ⟨_, _, by first | rfl | simp only [List.append_nil, List.nil_append]⟩ ?_ ?_
               ·
                intro h; exact absurd h (by decide)
               ·
                intro i hi; simp only [List.mem_cons, List.not_mem_nil, or_false] at hi
                subst hi
                ·
                 apply Zba rfl rfl ev
                 ·
                  simp +decide only [go_sem, Nat.reduceAdd, Zcd, hb4, hb44, hx49d, hx50d]
                  (repeat' apply And.intro) <;> first | rfl | exact cl
                 ·
                  simp +decide only [go_sem, Nat.reduceAdd, hb4, hb44, hx49d, hx50d]
                  refine Good.mk [] (by kernel_rfl) ⟨_, _, by first | rfl | simp only [List.append_nil, List.nil_append]⟩ ?_ ?_
                  ·
                   intro _; refine ZmB (own := [a0.cs, a1.cs]) rfl (ZoR rfl hcalm hO (by (simp +decide only [go_sem, Nat.reduceAdd]) <;> (try (repeat' apply And.intro)) <;> first | omega | assumption)) (by (simp +decide only [go_sem, Nat.reduceAdd]) <;> (try (repeat' apply And.intro)) <;> first | omega | assumption) (by (simp +decide only [go_sem, Nat.reduceAdd]) <;> (try (repeat' apply And.intro)) <;> first | omega | assumption) ?_
                   refine Zdt (by first | exact .inl ⟨rfl, rfl, rfl⟩ | exact .inr (.inl ⟨rfl, rfl, rfl⟩) | (refine .inr (.inr ⟨rfl, ?_⟩); (simp +decide only [go_sem, Nat.reduceAdd]) <;> (try (repeat' apply And.intro)) <;> first | omega | assumption)) ?_
                   refine Zdt (by first | exact .inl ⟨rfl, rfl, rfl⟩ | exact .inr (.inl ⟨rfl, rfl, rfl⟩) | (refine .inr (.inr ⟨rfl, ?_⟩); (simp +decide only [go_sem, Nat.reduceAdd]) <;> (try (repeat' apply And.intro)) <;> first | omega | assumption)) ?_
                   refine Zdt (by first | exact .inl ⟨rfl, rfl, rfl⟩ | exact .inr (.inl ⟨rfl, rfl, rfl⟩) | (refine .inr (.inr ⟨rfl, ?_⟩); (simp +decide only [go_sem, Nat.reduceAdd]) <;> (try (repeat' apply And.intro)) <;> first | omega | assumption)) ?_
                   refine Zdt (by first | exact .inl ⟨rfl, rfl, rfl⟩ | exact .inr (.inl ⟨rfl, rfl, rfl⟩) | (refine .inr (.inr ⟨rfl, ?_⟩); (simp +decide only [go_sem, Nat.reduceAdd]) <;> (try (repeat' apply And.intro)) <;> first | omega | assumption)) ?_
                   refine Zdt (by first | exact .inl ⟨rfl, rfl, rfl⟩ | exact .inr (.inl ⟨rfl, rfl, rfl⟩) | (refine .inr (.inr ⟨rfl, ?_⟩); (simp +decide only [go_sem, Nat.reduceAdd]) <;> (try (repeat' apply And.intro)) <;> first | omega | assumption)) ?_
                   exact trivial
                  ·
                   intro i hi; cases hi
     simp +decide only [go_sem, Nat.reduceAdd, hb4, hb44, hx49d, hx50d]
     (repeat' apply And.intro) <;> first | refine hK48 _ _ ?_ | exact cl
     clear hK48
     apply Zab; intro K51 hK51
     apply Zab; intro K52 hK52
     rcases Bool.eq_false_or_eq_true ((((!(decide (x49.1 = x50.1))) || (!(sEq x49.2.1 x50.2.1))) || (!(decide (x49.2.2.1 = x50.2.2.1)))) || (!(decide (((x49.2.2.2.2.length : Int)) = ((x50.2.2.2.2.length : Int)))))) with hf53 | hf53
     ·
      replace h := ZaQ h hf53
      apply Zac 2 [2, 3, 7, 8, 9, 153]
      rw [Zaa]; simp +decide only [go_sem, Nat.reduceAdd, hb4, hb44, hx49d, hx50d, hf53]
      (repeat' apply And.intro) <;> first | refine Zay ?_ | exact cl
      rw [Zaa]; simp +decide only [go_sem, Nat.reduceAdd, hb4, hb44, hx49d, hx50d, hf53]
      (repeat' apply And.intro) <;> first | refine hK52 _ _ ?_ | exact cl
      clear hK52
      have hs := And.intro hx49d hs
      have hs := And.intro hx50d hs
      have hs := And.intro hf53 hs
      refine Zar true ev (ef hs) (fun hb54 => ?_) (fun hb54 => by cases hb54)
      refine rg [4] hs ?_
      exact rt h hs hcalm hO
     ·
      replace h := ZaO h hf53
      obtain ⟨y56, hy56, h⟩ := bind_some h
      have hs := And.intro hx49d hs
      have hs := And.intro hx50d hs
      have hs := And.intro hf53 hs
      refine rk 2 [2, 3, 7, 8, 9, 153] hs ?_
      refine Zaf _ (ih _ _ _ x49.2.2.2.1 x50.2.2.2.1 _ hy56) (hv hs) ?_
      refine ne hs hK52 ?_
      clear hK52
      refine cnd h hs (fun hs h => ?_) (fun hs h => ?_)
      ·
       have hb57 := hs.1
       refine rg [4] hs ?_
       exact rt h hs hcalm hO
      have hb57 := hs.1
      refine sk [2, 3, 7, 8, 9] hs hK51 ?_
      clear hK51
      refine rg [2, 3, 7, 8, 9, 10] hs ?_
      apply Zae
      refine Zak (fun m e st => ∃ (x10_l60 : Int), Ck e st B Rw L [(2, true, .box B.length 0), (3, true, .box (B.length + 1) 0), (7, true, .val (.int .i64 x7_l41)), (8, true, .box (B.length + 2) 0), (9, true, .box (B.length + 3) 0), (10, true, .val (.int .i64 x10_l60))] [a0.cs, a1.cs, .val (.int .i64 x49.1) :: (.val (.string x49.2.1) :: (.val (.int .i64 x49.2.2.1) :: ((x49.2.2.2.1.cs) ++ ([.list (x49.2.2.2.2.map avV) .none])))), .val (.int .i64 x50.1) :: (.val (.string x50.2.1) :: (.val (.int .i64 x50.2.2.1) :: ((x50.2.2.2.1.cs) ++ ([.list (x50.2.2.2.2.map avV) .none]))))] [] (Zbk rec n (ZaW rec n a0 a1 ml41) x7_l41 x49 x50 m x10_l60 = some r)) n ⟨0, ([]), Rl41, ef hs, ef hs, hO, h⟩ ?_
      rintro ml60 e st ⟨x10_l60, Xl60, Rl60, rfl, rfl, hO, h⟩ Ul60 Vl60
      cases ml60 with
      | zero => cases h
      | succ ml60 =>
      rw [Zbk] at h
      refine td hN hNR hNL hcalm hO ?_
      apply Zab; intro K61 hK61
      refine rg [2, 3, 7, 8, 9, 10, 158] hs ?_
      refine cnd h hs (fun hs h => ?_) (fun hs h => ?_)
      rotate_left
      ·
       have hb63 := hs.1
       refine sx [2, 3, 7] hs hK47 ?_
       exact ⟨([.val (.int .i64 x49.1) :: (.val (.string x49.2.1) :: (.val (.int .i64 x49.2.2.1) :: ((x49.2.2.2.1.cs) ++ ([.list (x49.2.2.2.2.map avV) .none])))), .val (.int .i64 x50.1) :: (.val (.string x50.2.1) :: (.val (.int .i64 x50.2.2.1) :: ((x50.2.2.2.1.cs) ++ ([.list (x50.2.2.2.2.map avV) .none]))))]), Rl60, ef hs, ef hs, hO, h⟩
      have hb63 := hs.1
      refine sk [2, 3, 7, 8, 9, 10] hs hK61 ?_
      clear hK61
      apply Zab; intro K64 hK64
      apply Zae
      apply Zab; intro K65 hK65
      obtain ⟨x66, hx66a, hx66b, hx66d, h⟩ := ix avV h
      obtain ⟨x67, hx67a, hx67b, hx67d, h⟩ := ix avV h
      obtain ⟨y68, hy68, h⟩ := bind_some h
      apply Zap mix 12 2 1 [2, 3, 7, 8, 9, 10, 172] (by kernel_rfl)
      rw [Zaa]; simp +decide only [go_sem, Nat.reduceAdd, hb4, hb44, hx49d, hx50d, hf53, hb57, hb63, hx66d, hx67d]
      have hs := And.intro hx66d hs
      have hs := And.intro hx67d hs
      (repeat' apply And.intro) <;> first | refine Zaf _ (ZkG w0 n _ _ _ x66 x67 _ hy68) (hv hs) ?_ | exact cl
      rw [Zaa]; simp +decide only [go_sem, Nat.reduceAdd, hb4, hb44, hx49d, hx50d, hf53, hb57, hb63, hx66d, hx67d]
      (repeat' with_reducible apply And.intro) <;> first | (rw [Zaa]; simp +decide only [go_sem, Nat.reduceAdd, hb4, hb44, hx49d, hx50d, hf53, hb57, hb63, hx66d, hx67d]) | exact cl
      (repeat' apply And.intro) <;> first | refine hK65 _ _ ?_ | exact cl
      clear hK65
      refine cnd h hs (fun hs h => ?_) (fun hs h => ?_)
      ·
       refine rg [4] hs ?_
       exact rt h hs hcalm hO
      refine sk [2, 3, 7, 8, 9, 10] hs hK64 ?_
      clear hK64
      obtain ⟨hg71, h⟩ := Zad h
      refine rl [2, 3, 7, 8, 9, 10] hs (fun e s => Vl60 ml60 e s (Nat.lt_succ_self _)) ?_
      exact ⟨(x10_l60 + 1), ([]), Rl60, ef hs, ef hs, hO, h⟩
    ·
     clear h; rintro e st ⟨Xk46, Rk46, rfl, rfl, hO, h⟩
     rw [Zc1] at h
     refine td hN hNR hNL hcalm hO ?_
     obtain ⟨hg72, h⟩ := Zad h
     refine rl [2, 3, 7] hs (fun e s => Vl41 ml41 e s (Nat.lt_succ_self _)) ?_
     exact ⟨(x7_l41 + 1), ([]), Rk46, ef hs, ef hs, hO, h⟩
   ·
    clear h; rintro e st ⟨Xk38, Rk38, rfl, rfl, hO, h⟩
    rw [ZdE] at h
    refine td hN hNR hNL hcalm hO ?_
    refine rg [4] hs ?_
    exact rt h hs hcalm hO
theorem Zhz (w0 : World) : ∀ n : Nat, Zgt w0 (ZbO n)
 | 0 => fun _ _ _ _ _ _ h => (nomatch h)
 | n + 1 => Zjy w0 (ZbO n) (Zhz w0 n) n
theorem Zp8 {a b : ByteArray} (h : a.data.toList = b.data.toList) : a = b := by
 cases a; cases b; simp at h; rw [h]
theorem Zny : ∀ a b : List UInt8, Lib.compareBytes a b = 0 → a = b
 | [], [], _ => rfl
 | [], _ :: _, h => absurd (show (-1 : Int) = 0 from h) (by decide)
 | _ :: _, [], h => absurd (show (1 : Int) = 0 from h) (by decide)
 | x :: a, y :: b, h => by
  simp only [Lib.compareBytes] at h
  by_cases h1 : x < y
  ·
   simp [h1] at h
  ·
   by_cases h2 : y < x
   ·
    simp [h1, h2] at h
   ·
    simp only [h1, h2, if_false] at h
    rw [Zny a b h]
    have : x = y := by
     rw [UInt8.lt_iff_toNat_lt] at h1 h2
     exact UInt8.toNat_inj.1 (by omega)
    rw [this]
theorem ZfJ (a b : ByteArray) : Zof a b = 0 ↔ a = b := by
 unfold Zof
 constructor
 ·
  intro h; exact Zp8 (Zny _ _ h)
 ·
  rintro rfl; exact ZkL _
theorem ZkX (x y : ByteArray) : sEq x y = true ↔ x = y := by
 unfold sEq
 rw [beq_iff_eq]
 exact ⟨Zp8, fun h => by rw [h]⟩
theorem ZlO (x : ByteArray) : sEq x x = true := (ZkX x x).2 rfl
theorem Zh8 {a b : Int} (h : a ≠ b) : Zbt a b ≠ 0 := by
 unfold Zbt
 by_cases h1 : a < b
 ·
  simp [h1]
 ·
  by_cases h2 : b < a
  ·
   simp [h1, h2]
  ·
   omega
theorem ZnQ (a : Int) : Zbt a a = 0 := by simp [Zbt]
theorem Zcy {α : Type} (l m : List α) (i : Nat) (h1 : i < l.length) (h2 : i < m.length) : l.drop i = m.drop i ↔ l[i] = m[i] ∧ l.drop (i + 1) = m.drop (i + 1) := by
 rw [List.drop_eq_getElem_cons h1, List.drop_eq_getElem_cons h2, List.cons.injEq]
theorem ZlB {n : Nat} (h : n ≤ 2000) : n ≤ maxLen := by unfold maxLen; omega
theorem Znn (rec : Vl → Vl → Option Int) (n : Nat) (a b : Vl) (hl : a.fields.length ≤ 1000000000) (ha : a.ok) (hb : b.ok)
  (hr : ∀ p ∈ a.fields, ∀ q ∈ b.fields, ∃ c, rec p.2 q.2 = some c ∧ (c = 0 ↔ p.2 = q.2)) : ∀ (k m i : Nat), i + k = a.fields.length → k < m → ∃ c, Zbv rec n a b m i = some c ∧ (c = 0 → a.fields.drop i = b.fields.drop i) ∧ (a.fields.drop i = b.fields.drop i → a.fields.length = b.fields.length → c = 0)
 | k, 0, i, _, h => absurd h (Nat.not_lt_zero _)
 | k, m + 1, i, hi, hm => by
  rw [Zbv, ZaJ, ZaJ]
  by_cases h1 : i < a.fields.length ∧ i < b.fields.length
  ·
   obtain ⟨h1, h2⟩ := h1
   rw [decide_eq_true h1, decide_eq_true h2]
   simp only [Bool.and_self, if_true, ZaL h1, ZaL h2, Option.bind_some]
   have n1 := ((a.ok_eq.1 ha).2.2 _ (List.getElem_mem h1)).1
   have n2 := ((b.ok_eq.1 hb).2.2 _ (List.getElem_mem h2)).1
   rw [if_pos (ZlB (by omega)), if_pos (ZlB (by omega)), Zcy _ _ i h1 h2]
   by_cases hc : Zof a.fields[i].1 b.fields[i].1 = 0
   ·
    rw [decide_eq_true hc]
    simp only [Bool.not_true, Bool.false_eq_true, if_false]
    obtain ⟨c, e, hce⟩ := hr _ (List.getElem_mem h1) _ (List.getElem_mem h2)
    rw [e]
    simp only [Option.bind_some]
    by_cases hc0 : c = 0
    ·
     rw [decide_eq_true hc0]
     simp only [Bool.not_true, Bool.false_eq_true, if_false]
     rw [if_pos (Za7 (by omega))]
     cases k with
     | zero => omega
     | succ k =>
     obtain ⟨c2, e2, q1, q2⟩ := Znn rec n a b hl ha hb hr k m (i + 1) (by omega) (by omega)
     have e3 : a.fields[i] = b.fields[i] := Prod.ext ((ZfJ _ _).1 hc) (hce.1 hc0)
     exact ⟨c2, e2, fun h => ⟨e3, q1 h⟩, fun h1 h2 => q2 h1.2 h2⟩
    ·
     rw [decide_eq_false hc0]
     simp only [Bool.not_false, if_true]
     exact ⟨c, rfl, fun h => absurd h hc0, fun h _ => hce.2 (by rw [h.1])⟩
   ·
    rw [decide_eq_false hc]
    simp only [Bool.not_false, if_true]
    exact ⟨_, rfl, fun h => absurd h hc, fun h _ => (ZfJ _ _).2 (by rw [h.1])⟩
  ·
   have e : (decide (i < a.fields.length) && decide (i < b.fields.length)) = false := by
    rw [Bool.and_eq_false_iff, decide_eq_false_iff_not, decide_eq_false_iff_not]; omega
   rw [e]
   simp only [Bool.false_eq_true, if_false, ZcV]
   refine ⟨_, rfl, fun h => ?_, fun h h2 => ?_⟩
   ·
    by_cases hlen : a.fields.length = b.fields.length
    ·
     rw [List.drop_eq_nil_of_le (by omega), List.drop_eq_nil_of_le (by omega)]
    ·
     exact absurd h (Zh8 (by omega))
   ·
    rw [h2]; exact ZnQ _
theorem ZnS (rec : Vl → Vl → Option Int) (n : Nat) (a b : Vl) (hl : a.fields.length ≤ 1000000000 ∧ a.list.length ≤ 1000000000) (hn : a.fields.length < n) (ha : a.ok) (hb : b.ok)
  (hr : (∀ p ∈ a.list, ∀ q ∈ b.list, ∃ c, rec p q = some c ∧ (c = 0 ↔ p = q)) ∧ ∀ p ∈ a.fields, ∀ q ∈ b.fields, ∃ c, rec p.2 q.2 = some c ∧ (c = 0 ↔ p.2 = q.2)) : ∀ (k m i : Nat), i + k = a.list.length → k < m →
  ∃ c, Zbw rec n a b m i = some c ∧ (c = 0 → a.list.drop i = b.list.drop i ∧ a.fields = b.fields) ∧ (a.list.drop i = b.list.drop i → a.list.length = b.list.length → a.fields = b.fields → c = 0)
 | k, 0, i, _, h => absurd h (Nat.not_lt_zero _)
 | k, m + 1, i, hi, hm => by
  rw [Zbw, ZaJ, ZaJ]
  by_cases h1 : i < a.list.length ∧ i < b.list.length
  ·
   obtain ⟨h1, h2⟩ := h1
   rw [decide_eq_true h1, decide_eq_true h2]
   simp only [Bool.and_self, if_true, ZaL h1, ZaL h2, Option.bind_some]
   rw [Zcy _ _ i h1 h2]
   obtain ⟨c, e, hce⟩ := hr.1 _ (List.getElem_mem h1) _ (List.getElem_mem h2)
   rw [e]
   simp only [Option.bind_some]
   by_cases hc0 : c = 0
   ·
    rw [decide_eq_true hc0]
    simp only [Bool.not_true, Bool.false_eq_true, if_false]
    rw [if_pos (Za7 (by omega))]
    cases k with
    | zero => omega
    | succ k =>
    obtain ⟨c2, e2, q1, q2⟩ := ZnS rec n a b hl hn ha hb hr k m (i + 1) (by omega) (by omega)
    exact ⟨c2, e2, fun h => ⟨⟨hce.1 hc0, (q1 h).1⟩, (q1 h).2⟩, fun h1 h2 h3 => q2 h1.2 h2 h3⟩
   ·
    rw [decide_eq_false hc0]
    simp only [Bool.not_false, if_true]
    exact ⟨c, rfl, fun h => absurd h hc0, fun h _ _ => hce.2 h.1⟩
  ·
   have e : (decide (i < a.list.length) && decide (i < b.list.length)) = false := by
    rw [Bool.and_eq_false_iff, decide_eq_false_iff_not, decide_eq_false_iff_not]; omega
   rw [e]
   simp only [Bool.false_eq_true, if_false, ZcX]
   by_cases hlen : a.list.length = b.list.length
   ·
    rw [decide_eq_true (by omega)]
    simp only [Bool.not_true, Bool.false_eq_true, if_false]
    obtain ⟨c, e2, q1, q2⟩ := Znn rec n a b hl.1 ha hb hr.2 a.fields.length n 0 (by omega) hn
    rw [List.drop_zero, List.drop_zero] at q1 q2
    refine ⟨c, e2, fun h => ⟨?_, q1 h⟩, fun _ _ h => q2 h (by rw [h])⟩
    rw [List.drop_eq_nil_of_le (by omega), List.drop_eq_nil_of_le (by omega)]
   ·
    rw [decide_eq_false (by omega)]
    simp only [Bool.not_false, if_true]
    exact ⟨_, rfl, fun h => absurd h (Zh8 (by omega)), fun _ h _ => absurd h hlen⟩
theorem Vl.ext' {a b : Vl} (h1 : a.kind = b.kind) (h2 : a.int = b.int) (h3 : a.scale = b.scale) (h4 : a.text = b.text) (h5 : a.list = b.list) (h6 : a.fields = b.fields) : a = b := by
 rw [← a.eta, ← b.eta, h1, h2, h3, h4, h5, h6]
theorem ZeV : ∀ (n : Nat) (a b : Vl), a.size < n → a.size ≤ 1000000000 → a.ok → b.ok → ∃ c, ZbI n a b = some c ∧ (c = 0 ↔ a = b)
 | 0, a, b, h, _, _, _ => absurd h (Nat.not_lt_zero _)
 | n + 1, a, b, h, hs, ha, hb => by
  have hl := Zhp a
  have a1 := a.ok_eq.1 ha
  have b1 := b.ok_eq.1 hb
  rw [ZbI, ZdF]
  by_cases h1 : a.kind = b.kind
  ·
   rw [decide_eq_true h1]; simp only [Bool.not_true, Bool.false_eq_true, if_false]
   by_cases h2 : a.int = b.int
   ·
    rw [decide_eq_true h2]; simp only [Bool.not_true, Bool.false_eq_true, if_false]
    by_cases h3 : a.scale = b.scale
    ·
     rw [decide_eq_true h3]; simp only [Bool.not_true, Bool.false_eq_true, if_false]
     rw [if_pos (ZlB a1.1), if_pos (ZlB b1.1)]
     by_cases h4 : Zof a.text b.text = 0
     ·
      rw [decide_eq_true h4]; simp only [Bool.not_true, Bool.false_eq_true, if_false]
      obtain ⟨c, e, q1, q2⟩ := ZnS (ZbI n) n a b ⟨by omega, by omega⟩ (by omega) ha hb
       ⟨fun p hp q hq => ZeV n p q (by have := a.list_size p hp; omega) (by have := a.list_size p hp; omega) (a1.2.1 p hp) (b1.2.1 q hq),
        fun p hp q hq => ZeV n p.2 q.2 (by have := a.field_size p hp; omega) (by have := a.field_size p hp; omega) (a1.2.2 p hp).2 (b1.2.2 q hq).2⟩ a.list.length n 0 (by omega) (by omega)
      rw [List.drop_zero, List.drop_zero] at q1 q2
      refine ⟨c, e, fun h => Vl.ext' h1 h2 h3 ((ZfJ _ _).1 h4) (q1 h).1 (q1 h).2, fun h => ?_⟩
      subst h
      exact q2 rfl rfl rfl
     ·
      rw [decide_eq_false h4]; simp only [Bool.not_false, if_true]
      exact ⟨_, rfl, fun h => absurd h h4, fun h => by subst h; exact (ZfJ _ _).2 rfl⟩
    ·
     rw [decide_eq_false h3]; simp only [Bool.not_false, if_true]
     exact ⟨_, rfl, fun h => absurd h (Zh8 h3), fun h => by subst h; exact absurd rfl h3⟩
   ·
    rw [decide_eq_false h2]; simp only [Bool.not_false, if_true]
    exact ⟨_, rfl, fun h => absurd h (Zh8 h2), fun h => by subst h; exact absurd rfl h2⟩
  ·
   rw [decide_eq_false h1]; simp only [Bool.not_false, if_true]
   exact ⟨_, rfl, fun h => absurd h (Zh8 h1), fun h => by subst h; exact absurd rfl h1⟩
theorem Zmp (n : Nat) (a b : Vl) (h : a.size < n) (hs : a.size ≤ 1000000000) (ha : a.ok) (hb : b.ok) : ∃ c, Zdi n a b = some c ∧ (c = true ↔ a = b) := by
 obtain ⟨c, e, hc⟩ := ZeV n a b h hs ha hb
 refine ⟨decide (c = 0), ?_, by rw [decide_eq_true_eq]; exact hc⟩
 rw [Zdi, e]; rfl
theorem ZnP (rec : Ty → Ty → Option Bool) (n : Nat) (ag : Int → Option Bool) (x7 : Int) (p q : TF) (hl : p.2.2.2.2.length ≤ 1000000000) (hpq : p.2.2.2.2.length = q.2.2.2.2.length)
  (hr : ∀ v ∈ p.2.2.2.2, ∀ w ∈ q.2.2.2.2, ∃ c, Zdi n v w = some c ∧ (c = true ↔ v = w)) : ∀ (k m i : Nat), i + k = p.2.2.2.2.length → k < m →
  (Zbk rec n ag x7 p q m i = some false ∧ p.2.2.2.2.drop i ≠ q.2.2.2.2.drop i) ∨ (Zbk rec n ag x7 p q m i = Zc1 rec n ag x7 ∧ p.2.2.2.2.drop i = q.2.2.2.2.drop i)
 | k, 0, i, _, h => absurd h (Nat.not_lt_zero _)
 | 0, m + 1, i, hi, _ => by
  rw [Zbk, ZaJ, decide_eq_false (by omega)]
  simp only [Bool.false_eq_true, if_false]
  exact .inr ⟨by trivial, by rw [List.drop_eq_nil_of_le (by omega), List.drop_eq_nil_of_le (by omega)]⟩
 | k + 1, m + 1, i, hi, hm => by
  have h1 : i < p.2.2.2.2.length := by omega
  have h2 : i < q.2.2.2.2.length := by omega
  rw [Zbk, ZaJ, decide_eq_true h1]
  simp only [if_true, ZaL h1, ZaL h2, Option.bind_some]
  obtain ⟨c, e, hc⟩ := hr _ (List.getElem_mem h1) _ (List.getElem_mem h2)
  rw [e, ne_eq, Zcy _ _ i h1 h2]
  simp only [Option.bind_some]
  cases c with
  | false => simp only [Bool.not_false, if_true]; exact .inl ⟨by trivial, fun h => by simpa using hc.2 h.1⟩
  | true =>
   simp only [Bool.not_true, Bool.false_eq_true, if_false]
   rw [if_pos (Za7 (by omega))]
   rcases ZnP rec n ag x7 p q hl hpq hr k m (i + 1) (by omega) (by omega) with ⟨e1, e2⟩ | ⟨e1, e2⟩
   ·
    exact .inl ⟨e1, fun h => e2 h.2⟩
   ·
    exact .inr ⟨e1, hc.1 rfl, e2⟩
theorem TF.ext' {p q : TF} (h1 : p.1 = q.1) (h2 : p.2.1 = q.2.1) (h3 : p.2.2.1 = q.2.2.1) (h4 : p.2.2.2.1 = q.2.2.2.1) (h5 : p.2.2.2.2 = q.2.2.2.2) : p = q := by
 obtain ⟨a, b, c, d, e⟩ := p
 obtain ⟨a', b', c', d', e'⟩ := q
 simp only at h1 h2 h3 h4 h5
 rw [h1, h2, h3, h4, h5]
theorem Zm6 (rec : Ty → Ty → Option Bool) (n : Nat) (hn : 400 ≤ n) (a b : Ty) (hl : a.fields.length ≤ 1000000000) (hab : a.fields.length = b.fields.length) (ha : a.ok) (hb : b.ok)
  (hr : ∀ p ∈ a.fields, ∀ q ∈ b.fields, ∃ c, rec p.2.2.2.1 q.2.2.2.1 = some c ∧ (c = true ↔ p.2.2.2.1 = q.2.2.2.1)) : ∀ (k m i : Nat), i + k = a.fields.length → k < m → ∃ c, ZaW rec n a b m i = some c ∧ (c = true ↔ a.fields.drop i = b.fields.drop i)
 | k, 0, i, _, h => absurd h (Nat.not_lt_zero _)
 | 0, m + 1, i, hi, _ => by
  rw [ZaW, ZaJ, decide_eq_false (by omega)]
  simp only [Bool.false_eq_true, if_false, ZdE]
  exact ⟨true, rfl, by rw [List.drop_eq_nil_of_le (by omega), List.drop_eq_nil_of_le (by omega)]; simp⟩
 | k + 1, m + 1, i, hi, hm => by
  have h1 : i < a.fields.length := by omega
  have h2 : i < b.fields.length := by omega
  rw [ZaW, ZaJ, decide_eq_true h1]
  simp only [if_true, ZaL h1, ZaL h2, Option.bind_some]
  rw [Zcy _ _ i h1 h2]
  obtain ⟨_, _, o3, o4⟩ := (a.ok_eq.1 ha).2.2.2 _ (List.getElem_mem h1)
  obtain ⟨_, _, _, o5⟩ := (b.ok_eq.1 hb).2.2.2 _ (List.getElem_mem h2)
  by_cases hc : a.fields[i].1 = b.fields[i].1 ∧ a.fields[i].2.1 = b.fields[i].2.1 ∧ a.fields[i].2.2.1 = b.fields[i].2.2.1 ∧ a.fields[i].2.2.2.2.length = b.fields[i].2.2.2.2.length
  ·
   obtain ⟨c1, c2, c3, c4⟩ := hc
   rw [if_neg (by rw [c1, c2, c3, c4, ZlO]; simp)]
   obtain ⟨c, e, hce⟩ := hr _ (List.getElem_mem h1) _ (List.getElem_mem h2)
   rw [e]
   simp only [Option.bind_some]
   cases c with
   | false => simp only [Bool.not_false, if_true]; exact ⟨false, rfl, by simp only [Bool.false_eq_true, false_iff]; intro h; simpa using hce.2 (by rw [h.1])⟩
   | true =>
    simp only [Bool.not_true, Bool.false_eq_true, if_false]
    rcases ZnP rec n (ZaW rec n a b m) i a.fields[i] b.fields[i] (by omega) c4 (fun v hv w hw => Zmp n v w (by have := (o4 v hv).1; omega) (by have := (o4 v hv).1; omega) (o4 v hv).2.2 (o5 w hw).2.2) a.fields[i].2.2.2.2.length n 0 (by omega) (by omega) with ⟨e1, e2⟩ | ⟨e1, e2⟩
    ·
     refine ⟨false, e1, ?_⟩
     rw [List.drop_zero, List.drop_zero] at e2
     simp only [Bool.false_eq_true, false_iff]
     exact fun h => e2 (by rw [h.1])
    ·
     rw [List.drop_zero, List.drop_zero] at e2
     obtain ⟨c5, e5, h5⟩ := Zm6 rec n hn a b hl hab ha hb hr k m (i + 1) (by omega) (by omega)
     refine ⟨c5, ?_, ?_⟩
     ·
      refine e1.trans ?_
      rw [Zc1, if_pos (Za7 (by omega))]; exact e5
     ·
      rw [h5]
      exact ⟨fun h => ⟨TF.ext' c1 c2 c3 (hce.1 rfl) e2, h⟩, fun h => h.2⟩
  ·
   rw [if_pos]
   ·
    exact ⟨false, rfl, by simp only [Bool.false_eq_true, false_iff]; intro h; exact hc (by rw [h.1]; exact ⟨rfl, rfl, rfl, rfl⟩)⟩
   ·
    have := ZkX a.fields[i].2.1 b.fields[i].2.1
    simp only [Bool.or_eq_true, Bool.not_eq_true', decide_eq_false_iff_not]
    by_cases s : sEq a.fields[i].2.1 b.fields[i].2.1 = true
    ·
     have := this.1 s; by_cases x1 : a.fields[i].1 = b.fields[i].1
     ·
      by_cases x2 : a.fields[i].2.2.1 = b.fields[i].2.2.1
      ·
       exact .inr (fun h => hc ⟨x1, this, x2, by omega⟩)
      ·
       exact .inl (.inr x2)
     ·
      exact .inl (.inl (.inl x1))
    ·
     exact .inl (.inl (.inr (by simpa using s)))
theorem ZmT (rec : Ty → Ty → Option Bool) (n : Nat) (a b : Ty) (hl : a.elem.length ≤ 1000000000) (hab : a.elem.length = b.elem.length)
  (hr : ∀ p ∈ a.elem, ∀ q ∈ b.elem, ∃ c, rec p q = some c ∧ (c = true ↔ p = q)) : ∀ (k m i : Nat), i + k = a.elem.length → k < m →
  (Zbo rec n a b m i = some false ∧ a.elem.drop i ≠ b.elem.drop i) ∨ (Zbo rec n a b m i = ZcY rec n a b ∧ a.elem.drop i = b.elem.drop i)
 | k, 0, i, _, h => absurd h (Nat.not_lt_zero _)
 | 0, m + 1, i, hi, _ => by
  rw [Zbo, ZaJ, decide_eq_false (by omega)]
  simp only [Bool.false_eq_true, if_false]
  exact .inr ⟨by trivial, by rw [List.drop_eq_nil_of_le (by omega), List.drop_eq_nil_of_le (by omega)]⟩
 | k + 1, m + 1, i, hi, hm => by
  have h1 : i < a.elem.length := by omega
  have h2 : i < b.elem.length := by omega
  rw [Zbo, ZaJ, decide_eq_true h1]
  simp only [if_true, ZaL h1, ZaL h2, Option.bind_some]
  obtain ⟨c, e, hc⟩ := hr _ (List.getElem_mem h1) _ (List.getElem_mem h2)
  rw [e, ne_eq, Zcy _ _ i h1 h2]
  simp only [Option.bind_some]
  cases c with
  | false => simp only [Bool.not_false, if_true]; exact .inl ⟨by trivial, fun h => by simpa using hc.2 h.1⟩
  | true =>
   simp only [Bool.not_true, Bool.false_eq_true, if_false]
   rw [if_pos (Za7 (by omega))]
   rcases ZmT rec n a b hl hab hr k m (i + 1) (by omega) (by omega) with ⟨e1, e2⟩ | ⟨e1, e2⟩
   ·
    exact .inl ⟨e1, fun h => e2 h.2⟩
   ·
    exact .inr ⟨e1, hc.1 rfl, e2⟩
theorem Zm4 (rec : Ty → Ty → Option Bool) (n : Nat) (a b : Ty) (hl : a.words.length ≤ 1000000000) (hab : a.words.length = b.words.length) : ∀ (k m i : Nat), i + k = a.words.length → k < m →
  (Zbm rec n a b m i = some false ∧ a.words.drop i ≠ b.words.drop i) ∨ (Zbm rec n a b m i = ZcN rec n a b ∧ a.words.drop i = b.words.drop i)
 | k, 0, i, _, h => absurd h (Nat.not_lt_zero _)
 | 0, m + 1, i, hi, _ => by
  rw [Zbm, ZaJ, decide_eq_false (by omega)]
  simp only [Bool.false_eq_true, if_false]
  exact .inr ⟨by trivial, by rw [List.drop_eq_nil_of_le (by omega), List.drop_eq_nil_of_le (by omega)]⟩
 | k + 1, m + 1, i, hi, hm => by
  have h1 : i < a.words.length := by omega
  have h2 : i < b.words.length := by omega
  rw [Zbm, ZaJ, decide_eq_true h1]
  simp only [if_true, ZaL h1, ZaL h2, Option.bind_some]
  rw [ne_eq, Zcy _ _ i h1 h2]
  by_cases s : a.words[i] = b.words[i]
  ·
   rw [s, ZlO]
   simp only [Bool.not_true, Bool.false_eq_true, if_false]
   rw [if_pos (Za7 (by omega))]
   rcases Zm4 rec n a b hl hab k m (i + 1) (by omega) (by omega) with ⟨e1, e2⟩ | ⟨e1, e2⟩
   ·
    exact .inl ⟨e1, fun h => e2 h.2⟩
   ·
    exact .inr ⟨e1, by trivial, e2⟩
  ·
   have : sEq a.words[i] b.words[i] = false := by
    cases h : sEq a.words[i] b.words[i]
    ·
     rfl
    ·
     exact absurd ((ZkX _ _).1 h) s
   rw [this]
   simp only [Bool.not_false, if_true]
   exact .inl ⟨trivial, fun h => s h.1⟩
theorem Ty.ext' {a b : Ty} (h1 : a.kind = b.kind) (h2 : a.min = b.min) (h3 : a.max = b.max) (h4 : a.scale = b.scale) (h5 : a.words = b.words) (h6 : a.elem = b.elem) (h7 : a.fields = b.fields) : a = b := by
 rw [← a.eta, ← b.eta, h1, h2, h3, h4, h5, h6, h7]
theorem Zgj : ∀ (n : Nat) (a b : Ty), a.size + 400 < n → a.size ≤ 1000000000 → a.ok → b.ok → ∃ c, ZbO n a b = some c ∧ (c = true ↔ a = b)
 | 0, a, b, h, _, _, _ => absurd h (Nat.not_lt_zero _)
 | n + 1, a, b, h, hs, ha, hb => by
  have hl := a.lens
  have a1 := a.ok_eq.1 ha
  have b1 := b.ok_eq.1 hb
  rw [ZbO, Ze4]
  by_cases hc : a.kind = b.kind ∧ a.min = b.min ∧ a.max = b.max ∧ a.scale = b.scale ∧ a.words.length = b.words.length ∧ a.elem.length = b.elem.length ∧ a.fields.length = b.fields.length
  ·
   obtain ⟨c1, c2, c3, c4, c5, c6, c7⟩ := hc
   rw [if_neg (by rw [c1, c2, c3, c4, c5, c6, c7]; simp)]
   rcases Zm4 (ZbO n) n a b (by omega) c5 a.words.length n 0 (by omega) (by omega) with ⟨e1, e2⟩ | ⟨e1, e2⟩
   ·
    rw [List.drop_zero, List.drop_zero] at e2
    exact ⟨false, e1, by simp only [Bool.false_eq_true, false_iff]; intro h; exact e2 (by rw [h])⟩
   rw [List.drop_zero, List.drop_zero] at e2
   have w := e2
   rcases ZmT (ZbO n) n a b (by omega) c6 (fun p hp q hq => Zgj n p q (by have := a.elem_size p hp; omega) (by have := a.elem_size p hp; omega) (a1.2.2.1 p hp) (b1.2.2.1 q hq)) a.elem.length n 0 (by omega) (by omega) with ⟨e3, e4⟩ | ⟨e3, e4⟩
   ·
    rw [List.drop_zero, List.drop_zero] at e4
    refine ⟨false, ?_, by simp only [Bool.false_eq_true, false_iff]; intro h; exact e4 (by rw [h])⟩
    exact e1.trans (by rw [ZcN]; exact e3)
   rw [List.drop_zero, List.drop_zero] at e4
   obtain ⟨c, e5, h5⟩ := Zm6 (ZbO n) n (by omega) a b (by omega) c7 ha hb (fun p hp q hq => Zgj n _ _ (by have := a.field_size p hp; omega) (by have := a.field_size p hp; omega) (a1.2.2.2 p hp).2.1 (b1.2.2.2 q hq).2.1) a.fields.length n 0 (by omega) (by omega)
   rw [List.drop_zero, List.drop_zero] at h5
   refine ⟨c, ?_, h5.trans ⟨fun h => Ty.ext' c1 c2 c3 c4 w e4 h, fun h => by rw [h]⟩⟩
   refine e1.trans ?_
   rw [ZcN]
   refine e3.trans ?_
   rw [ZcY]; exact e5
  ·
   rw [if_pos]
   ·
    exact ⟨false, rfl, by simp only [Bool.false_eq_true, false_iff]; intro h; subst h; exact hc ⟨rfl, rfl, rfl, rfl, rfl, rfl, rfl⟩⟩
   ·
    simp only [Bool.or_eq_true, Bool.not_eq_true', decide_eq_false_iff_not]
    have : ∀ x y : Nat, ((x : Int) = (y : Int)) = (x = y) := fun x y => propext ⟨fun h => by omega, fun h => by omega⟩
    simp only [this]
    by_cases x1 : a.kind = b.kind
    ·
     by_cases x2 : a.min = b.min
     ·
      by_cases x3 : a.max = b.max
      ·
       by_cases x4 : a.scale = b.scale
       ·
        by_cases x5 : a.words.length = b.words.length
        ·
         by_cases x6 : a.elem.length = b.elem.length
         ·
          exact .inr fun x7 => hc ⟨x1, x2, x3, x4, x5, x6, x7⟩
         ·
          exact .inl (.inr x6)
        ·
         exact .inl (.inl (.inr x5))
       ·
        exact .inl (.inl (.inl (.inr x4)))
      ·
       exact .inl (.inl (.inl (.inl (.inr x3))))
     ·
      exact .inl (.inl (.inl (.inl (.inl (.inr x2)))))
    ·
     exact .inl (.inl (.inl (.inl (.inl (.inl x1)))))
def ZaF  : Ty :=
 Ty.mk 9 0 0 0 ([]) ([]) ([(1, (⟨#[110]⟩ : ByteArray), 1, Ty.mk 2 1 9 0 ([]) ([]) ([]), []), (2, (⟨#[108]⟩ : ByteArray), 2, Ty.mk 8 0 3 0 ([]) ([Ty.mk 4 1 5 0 ([]) ([]) ([])]) ([]), [])])
theorem ZiX (w0 : World) (B : List (List AV)) (Rw : List RowA) (L : List LoopA)  (r : Ty) (h : ZaF  = r) :
  ACalls Tryz.prog w0 51 [] ⟨B, Rw, L⟩ fun x st => x = .agg (r.cs) ∧ st = ⟨B, Rw, L⟩ := by
 rw [ZaF] at h
 refine hd [.cell 0 26] Tryz.func51 Tryz.ntmps51 fun M0 W0 hN hNR hNL hcalm hu hO hs => ?_
 simp only [Zan]
 refine rg [0] hs ?_
 apply Zab; intro K2 hK2
 apply Zac 1 [0, 1]
 rw [Zaa]; simp +decide only [go_sem, Nat.reduceAdd, ZaP, Zax, Zas]
 (repeat' apply And.intro) <;> first | refine hK2 _ _ ?_ | exact cl
 clear hK2
 apply Zab; intro K3 hK3
 apply Zac 1 [0]
 rw [Zaa]; simp +decide only [go_sem, Nat.reduceAdd, ZaP, Zax, Zas]
 (repeat' apply And.intro) <;> first | refine hK3 _ _ ?_ | exact cl
 clear hK3
 apply Zah; simp +decide only [go_sem, Nat.reduceAdd]
 subst h
 first | refine ZaE hcalm rfl hO.pre ev ⟨?_, rfl⟩ | refine Za4 hcalm rfl hO.pre ev ⟨?_, rfl⟩
 first | rfl | (simp +decide only [go_sem, Nat.reduceAdd]; done) | (simp +decide only [go_sem, Nat.reduceAdd, Vl.cs, Ty.cs]; done)
theorem Zih (w0 : World) (B : List (List AV)) (Rw : List RowA) (L : List LoopA)  :
  ACalls Tryz.prog w0 51 [] ⟨B, Rw, L⟩ fun x st => x = .agg ((ZaF ).cs) ∧ st = ⟨B, Rw, L⟩ := ZiX w0 B Rw L  _ rfl
def Zgf (rec : Ty → Vl → Option Bool) (a0 : Vl) (a1 : Ty) : Option Bool :=
 (idx a1.elem 0).bind fun x3 =>
 (rec x3 a0).bind fun y4 =>
 some (!y4)
theorem ZlP (w0 : World) (rec : Ty → Vl → Option Bool) (ih : ∀ (B : List (List AV)) (Rw : List RowA) (L : List LoopA) (a0 : Ty) (a1 : Vl) (r : Bool) (h : rec a0 a1 = some r), ACalls Tryz.prog w0 101 [.agg (a0.cs), .agg (a1.cs)] ⟨B, Rw, L⟩ fun x st => x = .val (.bool r) ∧ st = ⟨B, Rw, L⟩) (B : List (List AV)) (Rw : List RowA) (L : List LoopA) (a0 : Vl) (la1 : Nat) (a1 : Ty) (hla1 : B[la1]? = some (a1.cs)) (r : Bool) (h : Zgf rec a0 a1 = some r) :
  ACalls Tryz.prog w0 153 [.agg (a0.cs), .box la1 0] ⟨B, Rw, L⟩ fun x st => x = .val (.bool r) ∧ st = ⟨B, Rw, L⟩ := by
 rw [Zgf] at h
 refine hd [.tmp 3] Tryz.func153 Tryz.ntmps153 fun M0 W0 hN hNR hNL hcalm hu hO hs => ?_
 simp only [Zan]
 have hltla1 := (List.getElem?_eq_some_iff.1 hla1).1
 have hs := And.intro (Zag hla1) hs
 refine rg [1, 2] hs ?_
 apply Zab; intro K2 hK2
 obtain ⟨x3, hx3a, hx3b, hx3d, h⟩ := ix avT h
 have hx3e : (a1.elem.map avT).getD 0 .junk = _ := hx3d
 obtain ⟨y4, hy4, h⟩ := bind_some h
 apply Zap mix 8 2 1 [3] (by kernel_rfl)
 rw [Zaa]; simp +decide only [go_sem, Nat.reduceAdd, Zag hla1, hx3d, hx3e]
 have hs := And.intro hx3d hs
 have hs := And.intro hx3e hs
 (repeat' apply And.intro) <;> first | refine Zaf _ (ih _ _ _ x3 a0 _ hy4) (hv hs) ?_ | exact cl
 rw [Zaa]; simp +decide only [go_sem, Nat.reduceAdd, Zag hla1, hx3d, hx3e]
 (repeat' with_reducible apply And.intro) <;> first | (rw [Zaa]; simp +decide only [go_sem, Nat.reduceAdd, Zag hla1, hx3d, hx3e]) | exact cl
 (repeat' apply And.intro) <;> first | refine hK2 _ _ ?_ | exact cl
 clear hK2
 exact rt h hs hcalm hO
def ZbK (n : Nat)  : Option Int :=
 some ((-1))
def Za8 (n : Nat) (a0 : List (ByteArray × Vl)) (a1 : (ByteArray × Vl) → Option Bool) : Nat → Int → Option Int
 | 0, _ => none
 | m + 1, x8_l6 =>
  if decide (x8_l6 < ((a0.length : Int))) then
   (idx a0 x8_l6).bind fun x13 =>
   (a1 x13).bind fun y14 =>
   if y14 then
    some (x8_l6)
   else
    if I64 (x8_l6 + 1) then
     (Za8 n a0 a1 m) (x8_l6 + 1)
    else none
  else
   ZbK n 
def Zbg (n : Nat) (a0 : List (ByteArray × Vl)) (a1 : (ByteArray × Vl) → Option Bool) : Option Int :=
 Za8 n a0 a1 n 0
theorem Zc5 (w0 : World) (n : Nat) (B : List (List AV)) (Rw : List RowA) (L : List LoopA) (a0 : List (ByteArray × Vl)) (fa1 : FuncId) (ca1 : List AV) (a1 : (ByteArray × Vl) → Option Bool) (ha1 : ∀ (x0 : ByteArray × Vl) r, a1 x0 = some r → ∀ B' rows, B <+: B' → Rw <+: rows → ACalls Tryz.prog w0 fa1 ([.agg (.val (.string x0.1) :: (x0.2.cs))] ++ ca1) ⟨B', rows, L⟩ fun v s => v = .val (.bool r) ∧ s = ⟨B', rows, L⟩) (r : Int) (h : Zbg n a0 a1 = some r) :
  ACalls Tryz.prog w0 94 [.list (a0.map avF) .none, .clo fa1 ca1] ⟨B, Rw, L⟩ fun x st => x = .val (.int .i64 r) ∧ st = ⟨B, Rw, L⟩ := by
 rw [Zbg] at h
 refine hd [.tmp 4] Tryz.func94 Tryz.ntmps94 fun M0 W0 hN hNR hNL hcalm hu hO hs => ?_
 simp only [Zan]
 have hU_a1 := ZcD (hu (.clo fa1 ca1) (by simp))
 refine rg [0, 1] hs ?_
 refine Zal (fun e st => Ck e st B Rw L [] [] [] (ZbK n  = some r)) ?_ ?_
 ·
  intro K4 hK4
  refine rg [0, 1, 7, 8] hs ?_
  apply Zae
  refine Zak (fun m e st => ∃ (x8_l6 : Int), Ck e st B Rw L [(0, true, .list (a0.map avF) .none), (1, true, .clo fa1 ca1), (7, true, .val (.int .i64 ((a0.length : Int)))), (8, true, .val (.int .i64 x8_l6))] [] [] (Za8 n a0 a1 m x8_l6 = some r)) n ⟨0, ([]), Rw, ef hs, ef hs, hO, h⟩ ?_
  rintro ml6 e st ⟨x8_l6, Xl6, Rl6, rfl, rfl, hO, h⟩ Ul6 Vl6
  cases ml6 with
  | zero => cases h
  | succ ml6 =>
  rw [Za8] at h
  refine ZaM hN hNR hNL rfl hcalm hO (by (simp +decide only [go_sem, Nat.reduceAdd]) <;> (try (repeat' apply And.intro)) <;> first | omega | assumption | exact hU_a1 _ _ _ (by omega) (by have := hO.len; omega) (by omega)) (by (simp +decide only [go_sem, Nat.reduceAdd, ZbC]) <;> (try (repeat' apply And.intro)) <;> first | omega | assumption | exact hU_a1 _ _ _ (by omega) (by have := hO.len; omega) (by omega)) ?_
  refine rg [0, 1, 7, 8, 9] hs ?_
  apply Zab; intro K8 hK8
  refine cnd h hs (fun hs h => ?_) (fun hs h => ?_)
  rotate_left
  ·
   refine sx [] hs hK4 ?_
   exact ⟨([]), Rl6, ef hs, ef hs, hO, h⟩
  refine sk [0, 1, 7, 8] hs hK8 ?_
  clear hK8
  apply Zab; intro K10 hK10
  apply Zae
  refine rg [0, 1, 5, 7, 8] hs ?_
  obtain ⟨x13, hx13, h⟩ := bind_some h
  obtain ⟨hx13a, hx13b, hx13c⟩ := Zau hx13
  have hx13d := Zav (f := avF) hx13c
  obtain ⟨y14, hy14, h⟩ := bind_some h
  have hs := And.intro hx13d hs
  refine rc 2 [0, 1, 5, 7, 8, 16] hs ?_; intro K12 hK12
  refine Zk4 _ (ha1 x13 _ hy14 _ _ (by first | exact List.prefix_append _ _ | exact List.prefix_refl _) hO.pre) (hv hs) ?_
  refine ne hs hK12 ?_
  clear hK12
  refine cnd h hs (fun hs h => ?_) (fun hs h => ?_)
  ·
   refine rg [4] hs ?_
   exact rt h hs hcalm hO
  refine sk [0, 1, 7, 8] hs hK10 ?_
  clear hK10
  obtain ⟨hg17, h⟩ := Zad h
  refine rl [0, 1, 7, 8] hs (fun e s => Vl6 ml6 e s (Nat.lt_succ_self _)) ?_
  exact ⟨(x8_l6 + 1), ([]), Rl6, ef hs, ef hs, hO, h⟩
 ·
  clear h; rintro e st ⟨Xk3, Rk3, rfl, rfl, hO, h⟩
  rw [ZbK] at h
  refine ZaM hN hNR hNL rfl hcalm hO (by (simp +decide only [go_sem, Nat.reduceAdd]) <;> (try (repeat' apply And.intro)) <;> first | omega | assumption | exact hU_a1 _ _ _ (by omega) (by have := hO.len; omega) (by omega)) (by (simp +decide only [go_sem, Nat.reduceAdd, ZbC]) <;> (try (repeat' apply And.intro)) <;> first | omega | assumption | exact hU_a1 _ _ _ (by omega) (by have := hO.len; omega) (by omega)) ?_
  refine rg [4] hs ?_
  exact rt h hs hcalm hO
def Zdo (a0 : ByteArray × Vl) (a1 : ByteArray) : Bool :=
 sEq a0.1 a1
theorem Zkg (w0 : World) (B : List (List AV)) (Rw : List RowA) (L : List LoopA) (a0 : ByteArray × Vl) (la1 : Nat) (a1 : ByteArray) (hla1 : B[la1]? = some ([.val (.string a1)])) (r : Bool) (h : Zdo a0 a1 = r) :
  ACalls Tryz.prog w0 138 [.agg (.val (.string a0.1) :: (a0.2.cs)), .box la1 0] ⟨B, Rw, L⟩ fun x st => x = .val (.bool r) ∧ st = ⟨B, Rw, L⟩ := by
 rw [Zdo] at h
 refine hd [.tmp 3] Tryz.func138 Tryz.ntmps138 fun M0 W0 hN hNR hNL hcalm hu hO hs => ?_
 simp only [Zan]
 have hltla1 := (List.getElem?_eq_some_iff.1 hla1).1
 have hs := And.intro (Zag hla1) hs
 refine rg [1, 2] hs ?_
 refine rg [3] hs ?_
 apply Zah; simp +decide only [go_sem, Nat.reduceAdd, Zag hla1]
 subst h
 first | refine ZaE hcalm rfl hO.pre ev ⟨?_, rfl⟩ | refine Za4 hcalm rfl hO.pre ev ⟨?_, rfl⟩
 first | rfl | (simp +decide only [go_sem, Nat.reduceAdd, Zag hla1]; done) | (simp +decide only [go_sem, Nat.reduceAdd, Vl.cs, Ty.cs, Zag hla1]; done)
theorem Zi6 (w0 : World) (B : List (List AV)) (Rw : List RowA) (L : List LoopA) (a0 : ByteArray × Vl) (la1 : Nat) (a1 : ByteArray) (hla1 : B[la1]? = some ([.val (.string a1)])) :
  ACalls Tryz.prog w0 138 [.agg (.val (.string a0.1) :: (a0.2.cs)), .box la1 0] ⟨B, Rw, L⟩ fun x st => x = .val (.bool (Zdo a0 a1)) ∧ st = ⟨B, Rw, L⟩ := Zkg w0 B Rw L a0 la1 a1 hla1 _ rfl
def Zhi (n : Nat) (a0 : Vl) (a1 : ByteArray) : Option Int :=
 (Zbg n a0.fields (fun (x0 : ByteArray × Vl) => some (Zdo x0 a1))).bind fun y3 =>
 some (y3)
theorem Zmg (w0 : World) (n : Nat) (B : List (List AV)) (Rw : List RowA) (L : List LoopA) (a0 : Vl) (a1 : ByteArray) (r : Int) (h : Zhi n a0 a1 = some r) :
  ACalls Tryz.prog w0 92 [.agg (a0.cs), .val (.string a1)] ⟨B, Rw, L⟩ fun x st => x = .val (.int .i64 r) ∧ st = ⟨B, Rw, L⟩ := by
 rw [Zhi] at h
 refine hd [.tmp 4] Tryz.func92 Tryz.ntmps92 fun M0 W0 hN hNR hNL hcalm hu hO hs => ?_
 simp only [Zan]
 refine rg [2, 3] hs ?_
 obtain ⟨y3, hy3, h⟩ := bind_some h
 refine rc 2 [4] hs ?_; intro K2 hK2
 refine Zaf _ (Zc5 w0 n _ _ _ a0.fields 138 [.box (B.length + 1) 0] (fun (x0 : ByteArray × Vl) => some (Zdo x0 a1)) (fun x0 r hx B' rows' hB' hR' => by cases hx; exact Zi6 w0 _ _ _ x0 _ a1 (Zdf hB' ev)) _ hy3) (hv hs) ?_
 refine ne hs hK2 ?_
 clear hK2
 exact rt h hs hcalm hO
def Zhm (n : Nat) (a0 : Vl) (a1 : ByteArray) : Option (Vl × Bool) :=
 (Zhi n a0 a1).bind fun y3 =>
 if (!(decide (a0.kind = 9))) || (decide (y3 < 0)) then
  some ((Vl.mk 0 0 0 ((⟨#[]⟩ : ByteArray)) ([]) ([]), false))
 else
  (idx a0.fields y3).bind fun x9 =>
  (Za6 n x9.2).bind fun y10 =>
  some ((y10, true))
theorem Zmb (w0 : World) (n : Nat) (B : List (List AV)) (Rw : List RowA) (L : List LoopA) (a0 : Vl) (a1 : ByteArray) (r : Vl × Bool) (h : Zhm n a0 a1 = some r) :
  ACalls Tryz.prog w0 156 [.agg (a0.cs), .val (.string a1)] ⟨B, Rw, L⟩ fun x st => x = .tup [.agg (r.1.cs), .val (.bool r.2)] ∧ st = ⟨B, Rw, L⟩ := by
 rw [Zhm] at h
 refine hd [.cell 4 34, .tmp 5] Tryz.func156 Tryz.ntmps156 fun M0 W0 hN hNR hNL hcalm hu hO hs => ?_
 simp only [Zan]
 refine rg [1, 2, 4] hs ?_
 obtain ⟨y3, hy3, h⟩ := bind_some h
 refine rc 2 [2, 4, 6] hs ?_; intro K2 hK2
 refine Zaf _ (Zmg w0 n _ _ _ a0 a1 _ hy3) (hv hs) ?_
 refine ne hs hK2 ?_
 clear hK2
 apply Zab; intro K4 hK4
 refine rg [2, 4, 6, 16] hs ?_
 refine cnd h hs (fun hs h => ?_) (fun hs h => ?_)
 ·
  have hb6 := hs.1
  apply Zab; intro K7 hK7
  apply Zac 1 [4, 5]
  rw [Zaa]; simp +decide only [go_sem, Nat.reduceAdd, hb6, ZaP, Zax, Zas]
  (repeat' apply And.intro) <;> first | refine hK7 _ _ ?_ | exact cl
  clear hK7
  exact rt h hs hcalm hO
 have hb6 := hs.1
 refine sk [2, 4, 6] hs hK4 ?_
 clear hK4
 obtain ⟨x9, hx9, h⟩ := bind_some h
 obtain ⟨hx9a, hx9b, hx9c⟩ := Zau hx9
 have hx9d := Zav (f := avF) hx9c
 obtain ⟨y10, hy10, h⟩ := bind_some h
 have hs := And.intro hx9d hs
 refine rc 2 [4, 5] hs ?_; intro K8 hK8
 refine Zaf _ (Zcf w0 n _ _ _ x9.2 _ hy10) (hv hs) ?_
 refine ne hs hK8 ?_
 clear hK8
 exact rt h hs hcalm hO
def ZfM (n : Nat) (a0 : Int × ByteArray × Int × Ty × List Vl) (a1 : Vl) : Option Bool :=
 (Zhm n a1 a0.2.1).bind fun y3 =>
 some ((!y3.2) && (!(decide (a0.2.2.1 = 2))))
theorem Zmr (w0 : World) (n : Nat) (B : List (List AV)) (Rw : List RowA) (L : List LoopA) (a0 : Int × ByteArray × Int × Ty × List Vl) (la1 : Nat) (a1 : Vl) (hla1 : B[la1]? = some (a1.cs)) (r : Bool) (h : ZfM n a0 a1 = some r) :
  ACalls Tryz.prog w0 155 [.agg (.val (.int .i64 a0.1) :: (.val (.string a0.2.1) :: (.val (.int .i64 a0.2.2.1) :: ((a0.2.2.2.1.cs) ++ ([.list (a0.2.2.2.2.map avV) .none]))))), .box la1 0] ⟨B, Rw, L⟩ fun x st => x = .val (.bool r) ∧ st = ⟨B, Rw, L⟩ := by
 rw [ZfM] at h
 refine hd [.tmp 3] Tryz.func155 Tryz.ntmps155 fun M0 W0 hN hNR hNL hcalm hu hO hs => ?_
 simp only [Zan]
 have hltla1 := (List.getElem?_eq_some_iff.1 hla1).1
 have hs := And.intro (Zag hla1) hs
 refine rg [1, 2] hs ?_
 obtain ⟨y3, hy3, h⟩ := bind_some h
 refine rc 2 [2, 5] hs ?_; intro K2 hK2
 refine Zaf _ (Zmb w0 n _ _ _ a1 a0.2.1 _ hy3) (hv hs) ?_
 refine ne hs hK2 ?_
 clear hK2
 refine rg [3] hs ?_
 exact rt h hs hcalm hO
def ZaI (n : Nat) (a0 : List (Int × ByteArray × Int × Ty × List Vl)) (a1 : (Int × ByteArray × Int × Ty × List Vl) → Option Bool) : Option Bool :=
 (ZaR n a0 a1).bind fun y3 =>
 some (decide (0 ≤ y3))
theorem Zbz (w0 : World) (n : Nat) (B : List (List AV)) (Rw : List RowA) (L : List LoopA) (a0 : List (Int × ByteArray × Int × Ty × List Vl)) (fa1 : FuncId) (ca1 : List AV) (a1 : (Int × ByteArray × Int × Ty × List Vl) → Option Bool) (ha1 : ∀ (x0 : Int × ByteArray × Int × Ty × List Vl) r, a1 x0 = some r → ∀ B' rows, B <+: B' → Rw <+: rows → ACalls Tryz.prog w0 fa1 ([.agg (.val (.int .i64 x0.1) :: (.val (.string x0.2.1) :: (.val (.int .i64 x0.2.2.1) :: ((x0.2.2.2.1.cs) ++ ([.list (x0.2.2.2.2.map avV) .none])))))] ++ ca1) ⟨B', rows, L⟩ fun v s => v = .val (.bool r) ∧ s = ⟨B', rows, L⟩) (r : Bool) (h : ZaI n a0 a1 = some r) :
  ACalls Tryz.prog w0 154 [.list (a0.map ZdK) .none, .clo fa1 ca1] ⟨B, Rw, L⟩ fun x st => x = .val (.bool r) ∧ st = ⟨B, Rw, L⟩ := by
 rw [ZaI] at h
 refine hd [.tmp 4] Tryz.func154 Tryz.ntmps154 fun M0 W0 hN hNR hNL hcalm hu hO hs => ?_
 simp only [Zan]
 have hU_a1 := ZcD (hu (.clo fa1 ca1) (by simp))
 refine rg [0, 1] hs ?_
 obtain ⟨y3, hy3, h⟩ := bind_some h
 refine rc 2 [4] hs ?_; intro K2 hK2
 refine Zaf _ (Zb1 w0 n _ _ _ a0 fa1 ca1 a1 (fun x0 r hx B'' rows'' q1 q2 => ha1 x0 r hx B'' rows'' (List.IsPrefix.trans (by first | exact List.prefix_append _ _ | exact List.prefix_refl _) q1) (hO.pre.trans q2)) _ hy3) (hv hs) ?_
 refine ne hs hK2 ?_
 clear hK2
 exact rt h hs hcalm hO
def ZbG (n : Nat)  : Option Int :=
 some ((-1))
def Za9 (n : Nat) (a0 : List Vl) (a1 : Vl → Option Bool) : Nat → Int → Option Int
 | 0, _ => none
 | m + 1, x8_l6 =>
  if decide (x8_l6 < ((a0.length : Int))) then
   (idx a0 x8_l6).bind fun x13 =>
   (a1 x13).bind fun y14 =>
   if y14 then
    some (x8_l6)
   else
    if I64 (x8_l6 + 1) then
     (Za9 n a0 a1 m) (x8_l6 + 1)
    else none
  else
   ZbG n 
def ZbW (n : Nat) (a0 : List Vl) (a1 : Vl → Option Bool) : Option Int :=
 Za9 n a0 a1 n 0
theorem ZeF (w0 : World) (n : Nat) (B : List (List AV)) (Rw : List RowA) (L : List LoopA) (a0 : List Vl) (fa1 : FuncId) (ca1 : List AV) (a1 : Vl → Option Bool) (ha1 : ∀ (x0 : Vl) r, a1 x0 = some r → ∀ B' rows, B <+: B' → Rw <+: rows → ACalls Tryz.prog w0 fa1 ([.agg (x0.cs)] ++ ca1) ⟨B', rows, L⟩ fun v s => v = .val (.bool r) ∧ s = ⟨B', rows, L⟩) (r : Int) (h : ZbW n a0 a1 = some r) :
  ACalls Tryz.prog w0 182 [.list (a0.map avV) .none, .clo fa1 ca1] ⟨B, Rw, L⟩ fun x st => x = .val (.int .i64 r) ∧ st = ⟨B, Rw, L⟩ := by
 rw [ZbW] at h
 refine hd [.tmp 4] Tryz.func182 Tryz.ntmps182 fun M0 W0 hN hNR hNL hcalm hu hO hs => ?_
 simp only [Zan]
 have hU_a1 := ZcD (hu (.clo fa1 ca1) (by simp))
 refine rg [0, 1] hs ?_
 refine Zal (fun e st => Ck e st B Rw L [] [] [] (ZbG n  = some r)) ?_ ?_
 ·
  intro K4 hK4
  refine rg [0, 1, 7, 8] hs ?_
  apply Zae
  refine Zak (fun m e st => ∃ (x8_l6 : Int), Ck e st B Rw L [(0, true, .list (a0.map avV) .none), (1, true, .clo fa1 ca1), (7, true, .val (.int .i64 ((a0.length : Int)))), (8, true, .val (.int .i64 x8_l6))] [] [] (Za9 n a0 a1 m x8_l6 = some r)) n ⟨0, ([]), Rw, ef hs, ef hs, hO, h⟩ ?_
  rintro ml6 e st ⟨x8_l6, Xl6, Rl6, rfl, rfl, hO, h⟩ Ul6 Vl6
  cases ml6 with
  | zero => cases h
  | succ ml6 =>
  rw [Za9] at h
  refine ZaM hN hNR hNL rfl hcalm hO (by (simp +decide only [go_sem, Nat.reduceAdd]) <;> (try (repeat' apply And.intro)) <;> first | omega | assumption | exact hU_a1 _ _ _ (by omega) (by have := hO.len; omega) (by omega)) (by (simp +decide only [go_sem, Nat.reduceAdd, ZbC]) <;> (try (repeat' apply And.intro)) <;> first | omega | assumption | exact hU_a1 _ _ _ (by omega) (by have := hO.len; omega) (by omega)) ?_
  refine rg [0, 1, 7, 8, 9] hs ?_
  apply Zab; intro K8 hK8
  refine cnd h hs (fun hs h => ?_) (fun hs h => ?_)
  rotate_left
  ·
   refine sx [] hs hK4 ?_
   exact ⟨([]), Rl6, ef hs, ef hs, hO, h⟩
  refine sk [0, 1, 7, 8] hs hK8 ?_
  clear hK8
  apply Zab; intro K10 hK10
  apply Zae
  refine rg [0, 1, 5, 7, 8] hs ?_
  obtain ⟨x13, hx13, h⟩ := bind_some h
  obtain ⟨hx13a, hx13b, hx13c⟩ := Zau hx13
  have hx13d := Zav (f := avV) hx13c
  obtain ⟨y14, hy14, h⟩ := bind_some h
  have hs := And.intro hx13d hs
  refine rc 2 [0, 1, 5, 7, 8, 16] hs ?_; intro K12 hK12
  refine Zk4 _ (ha1 x13 _ hy14 _ _ (by first | exact List.prefix_append _ _ | exact List.prefix_refl _) hO.pre) (hv hs) ?_
  refine ne hs hK12 ?_
  clear hK12
  refine cnd h hs (fun hs h => ?_) (fun hs h => ?_)
  ·
   refine rg [4] hs ?_
   exact rt h hs hcalm hO
  refine sk [0, 1, 7, 8] hs hK10 ?_
  clear hK10
  obtain ⟨hg17, h⟩ := Zad h
  refine rl [0, 1, 7, 8] hs (fun e s => Vl6 ml6 e s (Nat.lt_succ_self _)) ?_
  exact ⟨(x8_l6 + 1), ([]), Rl6, ef hs, ef hs, hO, h⟩
 ·
  clear h; rintro e st ⟨Xk3, Rk3, rfl, rfl, hO, h⟩
  rw [ZbG] at h
  refine ZaM hN hNR hNL rfl hcalm hO (by (simp +decide only [go_sem, Nat.reduceAdd]) <;> (try (repeat' apply And.intro)) <;> first | omega | assumption | exact hU_a1 _ _ _ (by omega) (by have := hO.len; omega) (by omega)) (by (simp +decide only [go_sem, Nat.reduceAdd, ZbC]) <;> (try (repeat' apply And.intro)) <;> first | omega | assumption | exact hU_a1 _ _ _ (by omega) (by have := hO.len; omega) (by omega)) ?_
  refine rg [4] hs ?_
  exact rt h hs hcalm hO
def Zbs (n : Nat) (a0 : List Vl) (a1 : Vl → Option Bool) : Option Bool :=
 (ZbW n a0 a1).bind fun y3 =>
 some (decide (0 ≤ y3))
theorem ZdM (w0 : World) (n : Nat) (B : List (List AV)) (Rw : List RowA) (L : List LoopA) (a0 : List Vl) (fa1 : FuncId) (ca1 : List AV) (a1 : Vl → Option Bool) (ha1 : ∀ (x0 : Vl) r, a1 x0 = some r → ∀ B' rows, B <+: B' → Rw <+: rows → ACalls Tryz.prog w0 fa1 ([.agg (x0.cs)] ++ ca1) ⟨B', rows, L⟩ fun v s => v = .val (.bool r) ∧ s = ⟨B', rows, L⟩) (r : Bool) (h : Zbs n a0 a1 = some r) :
  ACalls Tryz.prog w0 152 [.list (a0.map avV) .none, .clo fa1 ca1] ⟨B, Rw, L⟩ fun x st => x = .val (.bool r) ∧ st = ⟨B, Rw, L⟩ := by
 rw [Zbs] at h
 refine hd [.tmp 4] Tryz.func152 Tryz.ntmps152 fun M0 W0 hN hNR hNL hcalm hu hO hs => ?_
 simp only [Zan]
 have hU_a1 := ZcD (hu (.clo fa1 ca1) (by simp))
 refine rg [0, 1] hs ?_
 obtain ⟨y3, hy3, h⟩ := bind_some h
 refine rc 2 [4] hs ?_; intro K2 hK2
 refine Zaf _ (ZeF w0 n _ _ _ a0 fa1 ca1 a1 (fun x0 r hx B'' rows'' q1 q2 => ha1 x0 r hx B'' rows'' (List.IsPrefix.trans (by first | exact List.prefix_append _ _ | exact List.prefix_refl _) q1) (hO.pre.trans q2)) _ hy3) (hv hs) ?_
 refine ne hs hK2 ?_
 clear hK2
 exact rt h hs hcalm hO
def Zcs (n : Nat)  : Option Int :=
 some ((-1))
def ZbB (n : Nat) (a0 : List ByteArray) (a1 : ByteArray) : Nat → Int → Option Int
 | 0, _ => none
 | m + 1, x8_l6 =>
  if decide (x8_l6 < ((a0.length : Int))) then
   (idx a0 x8_l6).bind fun x13 =>
   if sEq a1 x13 then
    some (x8_l6)
   else
    if I64 (x8_l6 + 1) then
     (ZbB n a0 a1 m) (x8_l6 + 1)
    else none
  else
   Zcs n 
def ZcA (n : Nat) (a0 : List ByteArray) (a1 : ByteArray) : Option Int :=
 ZbB n a0 a1 n 0
theorem Zf9 (w0 : World) (n : Nat) (B : List (List AV)) (Rw : List RowA) (L : List LoopA) (a0 : List ByteArray) (a1 : ByteArray) (r : Int) (h : ZcA n a0 a1 = some r) :
  ACalls Tryz.prog w0 181 [.list (a0.map avS) .none, .val (.string a1)] ⟨B, Rw, L⟩ fun x st => x = .val (.int .i64 r) ∧ st = ⟨B, Rw, L⟩ := by
 rw [ZcA] at h
 refine hd [.tmp 4] Tryz.func181 Tryz.ntmps181 fun M0 W0 hN hNR hNL hcalm hu hO hs => ?_
 simp only [Zan]
 refine rg [0, 1] hs ?_
 refine Zal (fun e st => Ck e st B Rw L [] [] [] (Zcs n  = some r)) ?_ ?_
 ·
  intro K4 hK4
  refine rg [0, 1, 7, 8] hs ?_
  apply Zae
  refine Zak (fun m e st => ∃ (x8_l6 : Int), Ck e st B Rw L [(0, true, .list (a0.map avS) .none), (1, true, .val (.string a1)), (7, true, .val (.int .i64 ((a0.length : Int)))), (8, true, .val (.int .i64 x8_l6))] [] [] (ZbB n a0 a1 m x8_l6 = some r)) n ⟨0, ([]), Rw, ef hs, ef hs, hO, h⟩ ?_
  rintro ml6 e st ⟨x8_l6, Xl6, Rl6, rfl, rfl, hO, h⟩ Ul6 Vl6
  cases ml6 with
  | zero => cases h
  | succ ml6 =>
  rw [ZbB] at h
  refine td hN hNR hNL hcalm hO ?_
  refine rg [0, 1, 7, 8, 9] hs ?_
  apply Zab; intro K8 hK8
  refine cnd h hs (fun hs h => ?_) (fun hs h => ?_)
  rotate_left
  ·
   refine sx [] hs hK4 ?_
   exact ⟨([]), Rl6, ef hs, ef hs, hO, h⟩
  refine sk [0, 1, 7, 8] hs hK8 ?_
  clear hK8
  apply Zab; intro K10 hK10
  apply Zae
  refine rg [0, 1, 5, 7, 8] hs ?_
  obtain ⟨x13, hx13, h⟩ := bind_some h
  obtain ⟨hx13a, hx13b, hx13c⟩ := Zau hx13
  have hx13d := Zav (f := avS) hx13c
  have hs := And.intro hx13d hs
  refine rg [0, 1, 5, 7, 8, 16] hs ?_
  refine cnd h hs (fun hs h => ?_) (fun hs h => ?_)
  ·
   refine rg [4] hs ?_
   exact rt h hs hcalm hO
  refine sk [0, 1, 7, 8] hs hK10 ?_
  clear hK10
  obtain ⟨hg16, h⟩ := Zad h
  refine rl [0, 1, 7, 8] hs (fun e s => Vl6 ml6 e s (Nat.lt_succ_self _)) ?_
  exact ⟨(x8_l6 + 1), ([]), Rl6, ef hs, ef hs, hO, h⟩
 ·
  clear h; rintro e st ⟨Xk3, Rk3, rfl, rfl, hO, h⟩
  rw [Zcs] at h
  refine td hN hNR hNL hcalm hO ?_
  refine rg [4] hs ?_
  exact rt h hs hcalm hO
def ZbY (n : Nat) (a0 : List ByteArray) (a1 : ByteArray) : Option Bool :=
 (ZcA n a0 a1).bind fun y3 =>
 some (decide (0 ≤ y3))
theorem ZeE (w0 : World) (n : Nat) (B : List (List AV)) (Rw : List RowA) (L : List LoopA) (a0 : List ByteArray) (a1 : ByteArray) (r : Bool) (h : ZbY n a0 a1 = some r) :
  ACalls Tryz.prog w0 151 [.list (a0.map avS) .none, .val (.string a1)] ⟨B, Rw, L⟩ fun x st => x = .val (.bool r) ∧ st = ⟨B, Rw, L⟩ := by
 rw [ZbY] at h
 refine hd [.tmp 4] Tryz.func151 Tryz.ntmps151 fun M0 W0 hN hNR hNL hcalm hu hO hs => ?_
 simp only [Zan]
 refine rg [0, 1] hs ?_
 obtain ⟨y3, hy3, h⟩ := bind_some h
 refine rc 2 [4] hs ?_; intro K2 hK2
 refine Zaf _ (Zf9 w0 n _ _ _ a0 a1 _ hy3) (hv hs) ?_
 refine ne hs hK2 ?_
 clear hK2
 exact rt h hs hcalm hO
def ZhJ (rec : Ty → Vl → Option Bool) (n : Nat) (a0 : Ty) (a1 : Vl) : Option Bool :=
 (ZaI n a0.fields (fun (x0 : Int × ByteArray × Int × Ty × List Vl) => ZfM n x0 a1)).bind fun y69 =>
 some (!y69)
def ZjC (rec : Ty → Vl → Option Bool) (n : Nat)  : Option Bool :=
 some (true)
def ZfV (rec : Ty → Vl → Option Bool) (n : Nat) (a0 : Ty) (a1 : Vl) : Nat → Int → Option Bool
 | 0, _ => none
 | m + 1, x107_l51 =>
  if decide (x107_l51 < ((a1.fields.length : Int))) then
   (idx a1.fields x107_l51).bind fun x57 =>
   (ZeD n a0 x57.1).bind fun y59 =>
   if !y59.2 then
    some (false)
   else
    (rec y59.1.2.2.2.1 x57.2).bind fun y64 =>
    if !y64 then
     some (false)
    else
     if I64 (x107_l51 + 1) then
      (ZfV rec n a0 a1 m) (x107_l51 + 1)
     else none
  else
   ZhJ rec n a0 a1 
def ZdY (rec : Ty → Vl → Option Bool) (n : Nat) (a0 : Ty) (a1 : Vl) (x18_k11 : Bool) : Option Bool :=
 if x18_k11 then
  some ((decide (a0.min ≤ a1.int) && decide (a1.int ≤ a0.max)) && (decide (a1.scale = a0.scale)))
 else
  if decide (a0.kind = 4) then
   if decide (0 < ((a0.words.length : Int))) then
    (ZbY n a0.words a1.text).bind fun y27 =>
    some (y27)
   else
    some (decide (a0.min ≤ ((a1.text.size : Int))) && decide (((a1.text.size : Int)) ≤ a0.max))
  else
   if decide (a0.kind = 5) then
    some (decide (a0.min ≤ ((a1.text.size : Int))) && decide (((a1.text.size : Int)) ≤ a0.max))
   else
    if decide (a0.kind = 8) then
     if decide (a0.min ≤ ((a1.list.length : Int))) && decide (((a1.list.length : Int)) ≤ a0.max) then
      (Zbs n a1.list (fun (x0 : Vl) => Zgf rec x0 a0)).bind fun y36 =>
      some (!y36)
     else
      some (false)
    else
     if decide (a0.kind = 10) then
      (ZeD n a0 a1.text).bind fun y40 =>
      if y40.2 then
       (idx a1.list 0).bind fun x43 =>
       (rec y40.1.2.2.2.1 x43).bind fun y44 =>
       some (y44)
      else
       some (false)
     else
      if decide (a0.kind = 9) then
       ZfV rec n a0 a1 n 0
      else
       ZjC rec n 
def Zk6 (rec : Ty → Vl → Option Bool) (n : Nat) (a0 : Ty) (a1 : Vl) : Option Bool :=
 if !(decide (a1.kind = a0.kind)) then
  some (false)
 else
  if decide (a0.kind = 2) then
   ZdY rec n a0 a1 true
  else
   if decide (a0.kind = 6) then
    ZdY rec n a0 a1 true
   else
    if decide (a0.kind = 7) then
     ZdY rec n a0 a1 true
    else
     ZdY rec n a0 a1 (decide (a0.kind = 3))
def Zjx : Nat → Ty → Vl → Option Bool
 | 0, _, _ => none
 | n + 1, a0, a1 => Zk6 (Zjx n) n a0 a1
def Zk2 (w0 : World) (F : Ty → Vl → Option Bool) : Prop := ∀ (B : List (List AV)) (Rw : List RowA) (L : List LoopA) (a0 : Ty) (a1 : Vl) (r : Bool), F a0 a1 = some r → ACalls Tryz.prog w0 101 [.agg (a0.cs), .agg (a1.cs)] ⟨B, Rw, L⟩ fun x st => x = .val (.bool r) ∧ st = ⟨B, Rw, L⟩
theorem ZlQ (w0 : World) (rec : Ty → Vl → Option Bool) (ih : Zk2 w0 rec) (n : Nat) : Zk2 w0 (Zk6 rec n) := by
 intro B Rw L a0 a1 r h
 rw [Zk6] at h
 refine hd [.tmp 4] Tryz.func101 Tryz.ntmps101 fun M0 W0 hN hNR hNL hcalm hu hO hs => ?_
 simp only [Zan]
 refine rg [2, 3] hs ?_
 apply Zab; intro K2 hK2
 refine rg [2, 3, 15] hs ?_
 refine cnd h hs (fun hs h => ?_) (fun hs h => ?_)
 ·
  have hb4 := hs.1
  refine rg [4] hs ?_
  exact rt h hs hcalm hO
 have hb4 := hs.1
 refine sk [2, 3] hs hK2 ?_
 clear hK2
 refine Zal (fun e st => Ck e st B Rw L [] [a0.cs, a1.cs] [] (ZjC rec n  = some r)) ?_ ?_
 ·
  intro K8 hK8
  refine rg [2, 3, 17] hs ?_
  apply Zae
  refine Zal (fun e st => ∃ (x18_k11 : Bool), Ck e st B Rw L [(2, true, .box B.length 0), (3, true, .box (B.length + 1) 0), (17, true, .val (.int .i64 a0.kind)), (18, true, .val (.bool x18_k11))] [a0.cs, a1.cs] [] (ZdY rec n a0 a1 x18_k11 = some r)) ?_ ?_
  ·
   intro K12 hK12
   refine rg [2, 3, 17, 18] hs ?_
   refine cnd h hs (fun hs h => ?_) (fun hs h => ?_)
   ·
    refine sk [2, 3, 17, 18] hs hK12 ?_
    exact ⟨true, ([]), Rw, ef hs, ef hs, hO, h⟩
   refine rg [2, 3, 17, 18] hs ?_
   refine cnd h hs (fun hs h => ?_) (fun hs h => ?_)
   ·
    refine sk [2, 3, 17, 18] hs hK12 ?_
    exact ⟨true, ([]), Rw, ef hs, ef hs, hO, h⟩
   refine rg [2, 3, 17, 18] hs ?_
   refine cnd h hs (fun hs h => ?_) (fun hs h => ?_)
   ·
    refine sk [2, 3, 17, 18] hs hK12 ?_
    exact ⟨true, ([]), Rw, ef hs, ef hs, hO, h⟩
   refine rl [2, 3, 17, 18] hs hK12 ?_
   exact ⟨(decide (a0.kind = 3)), ([]), Rw, ef hs, ef hs, hO, h⟩
  ·
   clear h; rintro e st ⟨x18_k11, Xk11, Rk11, rfl, rfl, hO, h⟩
   rw [ZdY] at h
   refine td hN hNR hNL hcalm hO ?_
   refine cnd h hs (fun hs h => ?_) (fun hs h => ?_)
   ·
    have hb19 := hs.1
    refine rc 2 [4] hs ?_; intro K20 hK20
    refine Zaf _ (Zi7 w0 _ _ _ a1.int a0.min a0.max) (hv hs) ?_
    refine ne hs hK20 ?_
    clear hK20
    exact rt h hs hcalm hO
   have hb19 := hs.1
   refine rg [2, 3, 17, 37] hs ?_
   refine cnd h hs (fun hs h => ?_) (fun hs h => ?_)
   ·
    have hb22 := hs.1
    apply Zab; intro K23 hK23
    refine rg [2, 3, 42] hs ?_
    refine cnd h hs (fun hs h => ?_) (fun hs h => ?_)
    ·
     obtain ⟨y27, hy27, h⟩ := bind_some h
     refine rc 2 [4] hs ?_; intro K26 hK26
     refine Zaf _ (ZeE w0 n _ _ _ a0.words a1.text _ hy27) (hv hs) ?_
     refine ne hs hK26 ?_
     clear hK26
     exact rt h hs hcalm hO
    refine sk [2, 3] hs hK23 ?_
    clear hK23
    refine rc 2 [4] hs ?_; intro K28 hK28
    refine Zaf _ (Zi7 w0 _ _ _ ((a1.text.size : Int)) a0.min a0.max) (hv hs) ?_
    refine ne hs hK28 ?_
    clear hK28
    exact rt h hs hcalm hO
   have hb22 := hs.1
   refine rg [2, 3, 17, 56] hs ?_
   refine cnd h hs (fun hs h => ?_) (fun hs h => ?_)
   ·
    have hb30 := hs.1
    refine rc 2 [4] hs ?_; intro K31 hK31
    refine Zaf _ (Zi7 w0 _ _ _ ((a1.text.size : Int)) a0.min a0.max) (hv hs) ?_
    refine ne hs hK31 ?_
    clear hK31
    exact rt h hs hcalm hO
   have hb30 := hs.1
   refine rg [2, 3, 17, 66] hs ?_
   refine cnd h hs (fun hs h => ?_) (fun hs h => ?_)
   ·
    have hb33 := hs.1
    apply Zab; intro K34 hK34
    rcases Bool.eq_false_or_eq_true (decide (a0.min ≤ ((a1.list.length : Int))) && decide (((a1.list.length : Int)) ≤ a0.max)) with hf35 | hf35
    ·
     replace h := ZaQ h hf35
     obtain ⟨y36, hy36, h⟩ := bind_some h
     have hs := And.intro hf35 hs
     refine rk 3 [4] hs ?_
     refine Zaf _ (Zi7 w0 _ _ _ ((a1.list.length : Int)) a0.min a0.max) (hv hs) ?_
     refine nc hs ?_
     refine Zaf _ (ZdM w0 n _ _ _ a1.list 153 [.box B.length 0] (fun (x0 : Vl) => Zgf rec x0 a0) (fun x0 r hx B' rows' hB' hR' => by exact ZlP w0 rec ih _ _ _ x0 _ a0 (Zdf hB' (ef hs)) _ hx) _ hy36) (hv hs) ?_
     refine ne hs hK34 ?_
     clear hK34
     exact rt h hs hcalm hO
    ·
     replace h := ZaO h hf35
     apply Zac 3 [4]
     rw [Zaa]; simp +decide only [go_sem, Nat.reduceAdd, hb4, hb19, hb22, hb30, hb33, hf35]
     have hs := And.intro hf35 hs
     (repeat' apply And.intro) <;> first | refine Zaf _ (Zi7 w0 _ _ _ ((a1.list.length : Int)) a0.min a0.max) (hv hs) ?_ | exact cl
     rw [Zaa]; simp +decide only [go_sem, Nat.reduceAdd, hb4, hb19, hb22, hb30, hb33, hf35]
     (repeat' apply And.intro) <;> first | refine Zay ?_ | exact cl
     rw [Zaa]; simp +decide only [go_sem, Nat.reduceAdd, hb4, hb19, hb22, hb30, hb33, hf35]
     (repeat' apply And.intro) <;> first | refine hK34 _ _ ?_ | exact cl
     clear hK34
     exact rt h hs hcalm hO
   have hb33 := hs.1
   refine rg [2, 3, 17, 83] hs ?_
   refine cnd h hs (fun hs h => ?_) (fun hs h => ?_)
   ·
    have hb38 := hs.1
    obtain ⟨y40, hy40, h⟩ := bind_some h
    refine rc 2 [3, 5, 6] hs ?_; intro K39 hK39
    refine Zaf _ (ZgK w0 n _ _ _ a0 a1.text _ hy40) (hv hs) ?_
    refine ne hs hK39 ?_
    clear hK39
    apply Zab; intro K41 hK41
    rcases Bool.eq_false_or_eq_true (y40.2) with hf42 | hf42
    ·
     replace h := ZaQ h hf42
     obtain ⟨x43, hx43a, hx43b, hx43d, h⟩ := ix avV h
     have hx43e : (a1.list.map avV).getD 0 .junk = _ := hx43d
     obtain ⟨y44, hy44, h⟩ := bind_some h
     apply Zap mix 11 2 1 [4] (by kernel_rfl)
     rw [Zaa]; simp +decide only [go_sem, Nat.reduceAdd, hb4, hb19, hb22, hb30, hb33, hb38, hf42, hx43d, hx43e]
     have hs := And.intro hf42 hs
     have hs := And.intro hx43d hs
     have hs := And.intro hx43e hs
     (repeat' apply And.intro) <;> first | refine Zaf _ (ih _ _ _ y40.1.2.2.2.1 x43 _ hy44) (hv hs) ?_ | exact cl
     rw [Zaa]; simp +decide only [go_sem, Nat.reduceAdd, hb4, hb19, hb22, hb30, hb33, hb38, hf42, hx43d, hx43e]
     (repeat' with_reducible apply And.intro) <;> first | (rw [Zaa]; simp +decide only [go_sem, Nat.reduceAdd, hb4, hb19, hb22, hb30, hb33, hb38, hf42, hx43d, hx43e]) | exact cl
     (repeat' apply And.intro) <;> first | refine hK41 _ _ ?_ | exact cl
     clear hK41
     exact rt h hs hcalm hO
    ·
     replace h := ZaO h hf42
     apply Zap mix 11 2 1 [4] (by kernel_rfl)
     rw [Zaa]; simp +decide only [go_sem, Nat.reduceAdd, hb4, hb19, hb22, hb30, hb33, hb38, hf42]
     (repeat' apply And.intro) <;> first | refine Zay ?_ | exact cl
     rw [Zaa]; simp +decide only [go_sem, Nat.reduceAdd, hb4, hb19, hb22, hb30, hb33, hb38, hf42]
     (repeat' with_reducible apply And.intro) <;> first | (rw [Zaa]; simp +decide only [go_sem, Nat.reduceAdd, hb4, hb19, hb22, hb30, hb33, hb38, hf42]) | exact cl
     (repeat' apply And.intro) <;> first | refine hK41 _ _ ?_ | exact cl
     clear hK41
     have hs := And.intro hf42 hs
     exact rt h hs hcalm hO
   have hb38 := hs.1
   refine rg [2, 3, 102] hs ?_
   refine cnd h hs (fun hs h => ?_) (fun hs h => ?_)
   ·
    have hb46 := hs.1
    refine Zal (fun e st => Ck e st B Rw L [(2, true, .box B.length 0), (3, true, .box (B.length + 1) 0)] [a0.cs, a1.cs] [] (ZhJ rec n a0 a1  = some r)) ?_ ?_
    ·
     intro K49 hK49
     refine rg [2, 3, 105, 106, 107] hs ?_
     apply Zae
     refine Zak (fun m e st => ∃ (x107_l51 : Int), Ck e st B Rw L [(2, true, .box B.length 0), (3, true, .box (B.length + 1) 0), (105, true, .list (a1.fields.map avF) .none), (106, true, .val (.int .i64 ((a1.fields.length : Int)))), (107, true, .val (.int .i64 x107_l51))] [a0.cs, a1.cs] [] (ZfV rec n a0 a1 m x107_l51 = some r)) n ⟨0, ([]), Rk11, ef hs, ef hs, hO, h⟩ ?_
     rintro ml51 e st ⟨x107_l51, Xl51, Rl51, rfl, rfl, hO, h⟩ Ul51 Vl51
     cases ml51 with
     | zero => cases h
     | succ ml51 =>
     rw [ZfV] at h
     refine td hN hNR hNL hcalm hO ?_
     refine rg [2, 3, 105, 106, 107, 108] hs ?_
     apply Zab; intro K53 hK53
     refine cnd h hs (fun hs h => ?_) (fun hs h => ?_)
     rotate_left
     ·
      have hb54 := hs.1
      refine sx [2, 3] hs hK49 ?_
      exact ⟨([]), Rl51, ef hs, ef hs, hO, h⟩
     have hb54 := hs.1
     refine sk [2, 3, 105, 106, 107] hs hK53 ?_
     clear hK53
     apply Zab; intro K55 hK55
     apply Zae
     obtain ⟨x57, hx57, h⟩ := bind_some h
     obtain ⟨hx57a, hx57b, hx57c⟩ := Zau hx57
     have hx57d := Zav (f := avF) hx57c
     have hs := And.intro hx57d hs
     refine rg [2, 3, 8, 105, 106, 107] hs ?_
     obtain ⟨y59, hy59, h⟩ := bind_some h
     refine rc 2 [2, 3, 8, 9, 10, 105, 106, 107] hs ?_; intro K58 hK58
     refine Zaf _ (ZgK w0 n _ _ _ a0 x57.1 _ hy59) (hv hs) ?_
     refine ne hs hK58 ?_
     clear hK58
     apply Zab; intro K60 hK60
     rcases Bool.eq_false_or_eq_true (!y59.2) with hf61 | hf61
     ·
      replace h := ZaQ h hf61
      apply Zac 2 [2, 3, 105, 106, 107, 127]
      rw [Zaa]; simp +decide only [go_sem, Nat.reduceAdd, hb4, hb19, hb22, hb30, hb33, hb38, hb46, hb54, hx57d, hf61]
      (repeat' apply And.intro) <;> first | refine Zay ?_ | exact cl
      rw [Zaa]; simp +decide only [go_sem, Nat.reduceAdd, hb4, hb19, hb22, hb30, hb33, hb38, hb46, hb54, hx57d, hf61]
      (repeat' apply And.intro) <;> first | refine hK60 _ _ ?_ | exact cl
      clear hK60
      have hs := And.intro hf61 hs
      refine Zar true ev (ef hs) (fun hb62 => ?_) (fun hb62 => by cases hb62)
      refine rg [4] hs ?_
      exact rt h hs hcalm hO
     ·
      replace h := ZaO h hf61
      obtain ⟨y64, hy64, h⟩ := bind_some h
      have hs := And.intro hf61 hs
      refine rk 2 [2, 3, 105, 106, 107, 127] hs ?_
      refine Zaf _ (ih _ _ _ y59.1.2.2.2.1 x57.2 _ hy64) (hv hs) ?_
      refine ne hs hK60 ?_
      clear hK60
      refine cnd h hs (fun hs h => ?_) (fun hs h => ?_)
      ·
       refine rg [4] hs ?_
       exact rt h hs hcalm hO
      refine sk [2, 3, 105, 106, 107] hs hK55 ?_
      clear hK55
      obtain ⟨hg67, h⟩ := Zad h
      refine rl [2, 3, 105, 106, 107] hs (fun e s => Vl51 ml51 e s (Nat.lt_succ_self _)) ?_
      exact ⟨(x107_l51 + 1), ([.val (.string x57.1) :: (x57.2.cs), .val (.int .i64 y59.1.1) :: (.val (.string y59.1.2.1) :: (.val (.int .i64 y59.1.2.2.1) :: ((y59.1.2.2.2.1.cs) ++ ([.list (y59.1.2.2.2.2.map avV) .none]))))]), Rl51, ef hs, ef hs, hO, h⟩
    ·
     clear h; rintro e st ⟨Xk48, Rk48, rfl, rfl, hO, h⟩
     rw [ZhJ] at h
     refine td hN hNR hNL hcalm hO ?_
     obtain ⟨y69, hy69, h⟩ := bind_some h
     refine rc 2 [4] hs ?_; intro K68 hK68
     refine Zaf _ (Zbz w0 n _ _ _ a0.fields 155 [.box (B.length + 1) 0] (fun (x0 : Int × ByteArray × Int × Ty × List Vl) => ZfM n x0 a1) (fun x0 r hx B' rows' hB' hR' => by exact Zmr w0 n _ _ _ x0 _ a1 (Zdf hB' (ef hs)) _ hx) _ hy69) (hv hs) ?_
     refine ne hs hK68 ?_
     clear hK68
     exact rt h hs hcalm hO
   have hb46 := hs.1
   refine sk [] hs hK8 ?_
   exact ⟨([]), Rk11, ef hs, ef hs, hO, h⟩
 ·
  clear h; rintro e st ⟨Xk7, Rk7, rfl, rfl, hO, h⟩
  rw [ZjC] at h
  refine td hN hNR hNL hcalm hO ?_
  refine rg [4] hs ?_
  exact rt h hs hcalm hO
theorem ZlG (w0 : World) : ∀ n : Nat, Zk2 w0 (Zjx n)
 | 0 => fun _ _ _ _ _ _ h => (nomatch h)
 | n + 1 => ZlQ w0 (Zjx n) (ZlG w0 n) n
def Zde (a0 : Vl) : Bool :=
 (((((decide (a0.kind = 0)) && (decide (a0.int = 0))) && (decide (a0.scale = 0))) && (sEq a0.text ((⟨#[]⟩ : ByteArray)))) && (decide (((a0.list.length : Int)) = 0))) && (decide (((a0.fields.length : Int)) = 0))
theorem Zk1 (w0 : World) (B : List (List AV)) (Rw : List RowA) (L : List LoopA) (a0 : Vl) (r : Bool) (h : Zde a0 = r) :
  ACalls Tryz.prog w0 90 [.agg (a0.cs)] ⟨B, Rw, L⟩ fun x st => x = .val (.bool r) ∧ st = ⟨B, Rw, L⟩ := by
 rw [Zde] at h
 refine hd [.tmp 2] Tryz.func90 Tryz.ntmps90 fun M0 W0 hN hNR hNL hcalm hu hO hs => ?_
 simp only [Zan]
 refine rg [1] hs ?_
 refine rg [2] hs ?_
 apply Zah; simp +decide only [go_sem, Nat.reduceAdd]
 subst h
 first | refine ZaE hcalm rfl hO.pre ev ⟨?_, rfl⟩ | refine Za4 hcalm rfl hO.pre ev ⟨?_, rfl⟩
 first | rfl | (simp +decide only [go_sem, Nat.reduceAdd]; done) | (simp +decide only [go_sem, Nat.reduceAdd, Vl.cs, Ty.cs]; done)
theorem ZeH (w0 : World) (B : List (List AV)) (Rw : List RowA) (L : List LoopA) (a0 : Vl) :
  ACalls Tryz.prog w0 90 [.agg (a0.cs)] ⟨B, Rw, L⟩ fun x st => x = .val (.bool (Zde a0)) ∧ st = ⟨B, Rw, L⟩ := Zk1 w0 B Rw L a0 _ rfl
def Za2 (a0 : Int) (a1 : Int) (a2 : Int) : Int :=
 if (decide (a0 < a1)) || (decide (a2 < a0)) then
  2
 else
  0
theorem ZjV (w0 : World) (B : List (List AV)) (Rw : List RowA) (L : List LoopA) (a0 : Int) (a1 : Int) (a2 : Int) (r : Int) (h : Za2 a0 a1 a2 = r) :
  ACalls Tryz.prog w0 123 [.val (.int .i64 a0), .val (.int .i64 a1), .val (.int .i64 a2)] ⟨B, Rw, L⟩ fun x st => x = .val (.int .i64 r) ∧ st = ⟨B, Rw, L⟩ := by
 rw [Za2] at h
 refine hd [.tmp 6] Tryz.func123 Tryz.ntmps123 fun M0 W0 hN hNR hNL hcalm hu hO hs => ?_
 simp only [Zan]
 refine rg [0, 1, 2] hs ?_
 apply Zab; intro K2 hK2
 refine rg [14] hs ?_
 refine cnd h hs (fun hs h => ?_) (fun hs h => ?_)
 ·
  have hb4 := hs.1
  refine rg [6] hs ?_
  apply Zah; simp +decide only [go_sem, Nat.reduceAdd, hb4]
  subst h
  first | refine ZaE hcalm rfl hO.pre ev ⟨?_, rfl⟩ | refine Za4 hcalm rfl hO.pre ev ⟨?_, rfl⟩
  first | rfl | (simp +decide only [go_sem, Nat.reduceAdd, hb4]; done) | (simp +decide only [go_sem, Nat.reduceAdd, Vl.cs, Ty.cs, hb4]; done)
 have hb4 := hs.1
 refine sk [] hs hK2 ?_
 clear hK2
 refine rg [6] hs ?_
 apply Zah; simp +decide only [go_sem, Nat.reduceAdd, hb4]
 subst h
 first | refine ZaE hcalm rfl hO.pre ev ⟨?_, rfl⟩ | refine Za4 hcalm rfl hO.pre ev ⟨?_, rfl⟩
 first | rfl | (simp +decide only [go_sem, Nat.reduceAdd, hb4]; done) | (simp +decide only [go_sem, Nat.reduceAdd, Vl.cs, Ty.cs, hb4]; done)
theorem ZbS (w0 : World) (B : List (List AV)) (Rw : List RowA) (L : List LoopA) (a0 : Int) (a1 : Int) (a2 : Int) :
  ACalls Tryz.prog w0 123 [.val (.int .i64 a0), .val (.int .i64 a1), .val (.int .i64 a2)] ⟨B, Rw, L⟩ fun x st => x = .val (.int .i64 (Za2 a0 a1 a2)) ∧ st = ⟨B, Rw, L⟩ := ZjV w0 B Rw L a0 a1 a2 _ rfl
def ZcL (a0 : Vl) : Int :=
 Za2 a0.int 0 1
theorem ZkA (w0 : World) (B : List (List AV)) (Rw : List RowA) (L : List LoopA) (a0 : Vl) (r : Int) (h : ZcL a0 = r) :
  ACalls Tryz.prog w0 122 [.agg (a0.cs)] ⟨B, Rw, L⟩ fun x st => x = .val (.int .i64 r) ∧ st = ⟨B, Rw, L⟩ := by
 rw [ZcL] at h
 refine hd [.tmp 2] Tryz.func122 Tryz.ntmps122 fun M0 W0 hN hNR hNL hcalm hu hO hs => ?_
 simp only [Zan]
 refine rg [1] hs ?_
 refine rc 2 [2] hs ?_; intro K2 hK2
 refine Zaf _ (ZbS w0 _ _ _ a0.int 0 1) (hv hs) ?_
 refine ne hs hK2 ?_
 clear hK2
 apply Zah; simp +decide only [go_sem, Nat.reduceAdd]
 subst h
 first | refine ZaE hcalm rfl hO.pre ev ⟨?_, rfl⟩ | refine Za4 hcalm rfl hO.pre ev ⟨?_, rfl⟩
 first | rfl | (simp +decide only [go_sem, Nat.reduceAdd]; done) | (simp +decide only [go_sem, Nat.reduceAdd, Vl.cs, Ty.cs]; done)
theorem Zi4 (w0 : World) (B : List (List AV)) (Rw : List RowA) (L : List LoopA) (a0 : Vl) :
  ACalls Tryz.prog w0 122 [.agg (a0.cs)] ⟨B, Rw, L⟩ fun x st => x = .val (.int .i64 (ZcL a0)) ∧ st = ⟨B, Rw, L⟩ := ZkA w0 B Rw L a0 _ rfl
def ZbA (a0 : Int) (a1 : Int) (a2 : Int) : Int :=
 if decide (a1 < a0) then
  a2
 else
  0
theorem Znp (w0 : World) (B : List (List AV)) (Rw : List RowA) (L : List LoopA) (a0 : Int) (a1 : Int) (a2 : Int) (r : Int) (h : ZbA a0 a1 a2 = r) :
  ACalls Tryz.prog w0 128 [.val (.int .i64 a0), .val (.int .i64 a1), .val (.int .i64 a2)] ⟨B, Rw, L⟩ fun x st => x = .val (.int .i64 r) ∧ st = ⟨B, Rw, L⟩ := by
 rw [ZbA] at h
 refine hd [.tmp 6] Tryz.func128 Tryz.ntmps128 fun M0 W0 hN hNR hNL hcalm hu hO hs => ?_
 simp only [Zan]
 refine rg [0, 1, 2] hs ?_
 apply Zab; intro K2 hK2
 refine rg [2, 9] hs ?_
 refine cnd h hs (fun hs h => ?_) (fun hs h => ?_)
 ·
  have hb4 := hs.1
  refine rg [6] hs ?_
  apply Zah; simp +decide only [go_sem, Nat.reduceAdd, hb4]
  subst h
  first | refine ZaE hcalm rfl hO.pre ev ⟨?_, rfl⟩ | refine Za4 hcalm rfl hO.pre ev ⟨?_, rfl⟩
  first | rfl | (simp +decide only [go_sem, Nat.reduceAdd, hb4]; done) | (simp +decide only [go_sem, Nat.reduceAdd, Vl.cs, Ty.cs, hb4]; done)
 have hb4 := hs.1
 refine sk [] hs hK2 ?_
 clear hK2
 refine rg [6] hs ?_
 apply Zah; simp +decide only [go_sem, Nat.reduceAdd, hb4]
 subst h
 first | refine ZaE hcalm rfl hO.pre ev ⟨?_, rfl⟩ | refine Za4 hcalm rfl hO.pre ev ⟨?_, rfl⟩
 first | rfl | (simp +decide only [go_sem, Nat.reduceAdd, hb4]; done) | (simp +decide only [go_sem, Nat.reduceAdd, Vl.cs, Ty.cs, hb4]; done)
theorem ZdR (w0 : World) (B : List (List AV)) (Rw : List RowA) (L : List LoopA) (a0 : Int) (a1 : Int) (a2 : Int) :
  ACalls Tryz.prog w0 128 [.val (.int .i64 a0), .val (.int .i64 a1), .val (.int .i64 a2)] ⟨B, Rw, L⟩ fun x st => x = .val (.int .i64 (ZbA a0 a1 a2)) ∧ st = ⟨B, Rw, L⟩ := Znp w0 B Rw L a0 a1 a2 _ rfl
def ZeU (a0 : Vl) : Option Int :=
 if a0.text.size ≤ maxLen then
  if !(Zjl a0.text) then
   some (12)
  else
   if decide (((a0.list.length : Int)) = 0) then
    some (4)
   else
    some (ZbA ((a0.list.length : Int)) 1 3)
 else none
theorem ZjA (w0 : World) (B : List (List AV)) (Rw : List RowA) (L : List LoopA) (a0 : Vl) (r : Int) (h : ZeU a0 = some r) :
  ACalls Tryz.prog w0 135 [.agg (a0.cs)] ⟨B, Rw, L⟩ fun x st => x = .val (.int .i64 r) ∧ st = ⟨B, Rw, L⟩ := by
 rw [ZeU] at h
 refine hd [.tmp 2] Tryz.func135 Tryz.ntmps135 fun M0 W0 hN hNR hNL hcalm hu hO hs => ?_
 simp only [Zan]
 refine rg [1] hs ?_
 apply Zab; intro K2 hK2
 apply Zae
 obtain ⟨hg4, h⟩ := Zad h
 refine rc 2 [1, 3] hs ?_; intro K3 hK3
 refine Zaf _ (ZfE w0 _ _ _ a0.text hg4) (hv hs) ?_
 refine ne hs hK3 ?_
 clear hK3
 refine cnd h hs (fun hs h => ?_) (fun hs h => ?_)
 ·
  refine rg [2] hs ?_
  exact rt h hs hcalm hO
 refine rg [1, 8] hs ?_
 refine cnd h hs (fun hs h => ?_) (fun hs h => ?_)
 ·
  refine rg [2] hs ?_
  exact rt h hs hcalm hO
 refine sk [1] hs hK2 ?_
 clear hK2
 refine rc 2 [2] hs ?_; intro K10 hK10
 refine Zaf _ (ZdR w0 _ _ _ ((a0.list.length : Int)) 1 3) (hv hs) ?_
 refine ne hs hK10 ?_
 clear hK10
 exact rt h hs hcalm hO
def ZcM (a0 : Vl) : Int :=
 Za2 a0.int ((-999999999999999)) 999999999999999
theorem ZjF (w0 : World) (B : List (List AV)) (Rw : List RowA) (L : List LoopA) (a0 : Vl) (r : Int) (h : ZcM a0 = r) :
  ACalls Tryz.prog w0 124 [.agg (a0.cs)] ⟨B, Rw, L⟩ fun x st => x = .val (.int .i64 r) ∧ st = ⟨B, Rw, L⟩ := by
 rw [ZcM] at h
 refine hd [.tmp 2] Tryz.func124 Tryz.ntmps124 fun M0 W0 hN hNR hNL hcalm hu hO hs => ?_
 simp only [Zan]
 refine rg [1] hs ?_
 refine rc 2 [2] hs ?_; intro K2 hK2
 refine Zaf _ (ZbS w0 _ _ _ a0.int ((-999999999999999)) 999999999999999) (hv hs) ?_
 refine ne hs hK2 ?_
 clear hK2
 apply Zah; simp +decide only [go_sem, Nat.reduceAdd]
 subst h
 first | refine ZaE hcalm rfl hO.pre ev ⟨?_, rfl⟩ | refine Za4 hcalm rfl hO.pre ev ⟨?_, rfl⟩
 first | rfl | (simp +decide only [go_sem, Nat.reduceAdd]; done) | (simp +decide only [go_sem, Nat.reduceAdd, Vl.cs, Ty.cs]; done)
theorem Zi9 (w0 : World) (B : List (List AV)) (Rw : List RowA) (L : List LoopA) (a0 : Vl) :
  ACalls Tryz.prog w0 124 [.agg (a0.cs)] ⟨B, Rw, L⟩ fun x st => x = .val (.int .i64 (ZcM a0)) ∧ st = ⟨B, Rw, L⟩ := ZjF w0 B Rw L a0 _ rfl
def ZgH (n : Nat)  : Option Int :=
 some (0)
def Ze7 (n : Nat) (a0 : List Int) : Nat → Int → Option Int
 | 0, _ => none
 | m + 1, x7_l6 =>
  if decide (x7_l6 < ((a0.length : Int))) then
   (idx a0 x7_l6).bind fun x12 =>
   if !(decide (x12 = 0)) then
    some (x12)
   else
    if I64 (x7_l6 + 1) then
     (Ze7 n a0 m) (x7_l6 + 1)
    else none
  else
   ZgH n 
def Zhg (n : Nat) (a0 : List Int) : Option Int :=
 Ze7 n a0 n 0
theorem ZlZ (w0 : World) (n : Nat) (B : List (List AV)) (Rw : List RowA) (L : List LoopA) (a0 : List Int) (r : Int) (h : Zhg n a0 = some r) :
  ACalls Tryz.prog w0 126 [.list (a0.map avI) .none] ⟨B, Rw, L⟩ fun x st => x = .val (.int .i64 r) ∧ st = ⟨B, Rw, L⟩ := by
 rw [Zhg] at h
 refine hd [.tmp 2] Tryz.func126 Tryz.ntmps126 fun M0 W0 hN hNR hNL hcalm hu hO hs => ?_
 simp only [Zan]
 refine rg [0] hs ?_
 refine Zal (fun e st => Ck e st B Rw L [] [] [] (ZgH n  = some r)) ?_ ?_
 ·
  intro K4 hK4
  refine rg [5, 6, 7] hs ?_
  apply Zae
  refine Zak (fun m e st => ∃ (x7_l6 : Int), Ck e st B Rw L [(5, true, .list (a0.map avI) .none), (6, true, .val (.int .i64 ((a0.length : Int)))), (7, true, .val (.int .i64 x7_l6))] [] [] (Ze7 n a0 m x7_l6 = some r)) n ⟨0, ([]), Rw, ef hs, ef hs, hO, h⟩ ?_
  rintro ml6 e st ⟨x7_l6, Xl6, Rl6, rfl, rfl, hO, h⟩ Ul6 Vl6
  cases ml6 with
  | zero => cases h
  | succ ml6 =>
  rw [Ze7] at h
  refine td hN hNR hNL hcalm hO ?_
  refine rg [5, 6, 7, 8] hs ?_
  apply Zab; intro K8 hK8
  refine cnd h hs (fun hs h => ?_) (fun hs h => ?_)
  rotate_left
  ·
   refine sx [] hs hK4 ?_
   exact ⟨([]), Rl6, ef hs, ef hs, hO, h⟩
  refine sk [5, 6, 7] hs hK8 ?_
  clear hK8
  apply Zab; intro K10 hK10
  apply Zae
  obtain ⟨x12, hx12, h⟩ := bind_some h
  obtain ⟨hx12a, hx12b, hx12c⟩ := Zau hx12
  have hx12d := Zav (f := avI) hx12c
  have hs := And.intro hx12d hs
  refine rg [4, 5, 6, 7] hs ?_
  refine rg [4, 5, 6, 7, 12] hs ?_
  refine cnd h hs (fun hs h => ?_) (fun hs h => ?_)
  ·
   refine rg [2] hs ?_
   exact rt h hs hcalm hO
  refine sk [5, 6, 7] hs hK10 ?_
  clear hK10
  obtain ⟨hg16, h⟩ := Zad h
  refine rl [5, 6, 7] hs (fun e s => Vl6 ml6 e s (Nat.lt_succ_self _)) ?_
  exact ⟨(x7_l6 + 1), ([]), Rl6, ef hs, ef hs, hO, h⟩
 ·
  clear h; rintro e st ⟨Xk3, Rk3, rfl, rfl, hO, h⟩
  rw [ZgH] at h
  refine td hN hNR hNL hcalm hO ?_
  refine rg [2] hs ?_
  exact rt h hs hcalm hO
def Zfu (n : Nat) (a0 : Vl) : Option Int :=
 (Zhg n ([Za2 a0.int ((-999999999999999)) 999999999999999, Za2 a0.scale 0 12])).bind fun y3 =>
 some (y3)
theorem Zkv (w0 : World) (n : Nat) (B : List (List AV)) (Rw : List RowA) (L : List LoopA) (a0 : Vl) (r : Int) (h : Zfu n a0 = some r) :
  ACalls Tryz.prog w0 125 [.agg (a0.cs)] ⟨B, Rw, L⟩ fun x st => x = .val (.int .i64 r) ∧ st = ⟨B, Rw, L⟩ := by
 rw [Zfu] at h
 refine hd [.tmp 2] Tryz.func125 Tryz.ntmps125 fun M0 W0 hN hNR hNL hcalm hu hO hs => ?_
 simp only [Zan]
 refine rg [1] hs ?_
 apply Zab; intro K2 hK2
 obtain ⟨y3, hy3, h⟩ := bind_some h
 apply Zap mix 9 4 1 [2] (by kernel_rfl)
 rw [Zaa]; simp +decide only [go_sem, Nat.reduceAdd]
 (repeat' apply And.intro) <;> first | refine Zaf _ (ZbS w0 _ _ _ a0.int ((-999999999999999)) 999999999999999) (hv hs) ?_ | exact cl
 rw [Zaa]; simp +decide only [go_sem, Nat.reduceAdd]
 (repeat' apply And.intro) <;> first | refine Zaf _ (ZbS w0 _ _ _ a0.scale 0 12) (hv hs) ?_ | exact cl
 rw [Zaa]; simp +decide only [go_sem, Nat.reduceAdd]
 (repeat' apply And.intro) <;> first | refine Zaf _ (ZlZ w0 n _ _ _ ([Za2 a0.int ((-999999999999999)) 999999999999999, Za2 a0.scale 0 12]) _ hy3) (hv hs) ?_ | exact cl
 rw [Zaa]; simp +decide only [go_sem, Nat.reduceAdd]
 (repeat' with_reducible apply And.intro) <;> first | (rw [Zaa]; simp +decide only [go_sem, Nat.reduceAdd]) | exact cl
 (repeat' apply And.intro) <;> first | refine hK2 _ _ ?_ | exact cl
 clear hK2
 exact rt h hs hcalm hO
def Zc2  (x3_k4 : Int) : Option Int :=
 some (x3_k4)
def Zfy (a0 : Vl) : Option Int :=
 if decide ((ZbA ((a0.text.size : Int)) 1024 5) = 0) then
  if a0.text.size ≤ maxLen then
   if !(Lib.validD a0.text.data.toList) then
    Zc2  16
   else
    Zc2  (ZbA ((a0.text.size : Int)) 1024 5)
  else none
 else
  Zc2  (ZbA ((a0.text.size : Int)) 1024 5)
theorem Zj9 (w0 : World) (hT : Lib.Utf8Tabs 0 1 w0) (B : List (List AV)) (Rw : List RowA) (L : List LoopA) (a0 : Vl) (r : Int) (h : Zfy a0 = some r) :
  ACalls Tryz.prog w0 127 [.agg (a0.cs)] ⟨B, Rw, L⟩ fun x st => x = .val (.int .i64 r) ∧ st = ⟨B, Rw, L⟩ := by
 rw [Zfy] at h
 refine hd [.tmp 2] Tryz.func127 Tryz.ntmps127 fun M0 W0 hN hNR hNL hcalm hu hO hs => ?_
 simp only [Zan]
 refine rg [1] hs ?_
 refine rc 2 [1, 3] hs ?_; intro K2 hK2
 refine Zaf _ (ZdR w0 _ _ _ ((a0.text.size : Int)) 1024 5) (hv hs) ?_
 refine ne hs hK2 ?_
 clear hK2
 refine Zal (fun e st => ∃ (x3_k4 : Int), Ck e st B Rw L [(3, true, .val (.int .i64 x3_k4))] [a0.cs] [] (Zc2  x3_k4 = some r)) ?_ ?_
 ·
  intro K5 hK5
  apply Zab; intro K6 hK6
  rcases Bool.eq_false_or_eq_true (decide ((ZbA ((a0.text.size : Int)) 1024 5) = 0)) with hf7 | hf7
  ·
   replace h := ZaQ h hf7
   obtain ⟨hg8, h⟩ := Zad h
   have hs := And.intro hf7 hs
   refine rk 2 [3, 15] hs ?_
   refine Zaf _ (Zl8 w0 _ _ _ hT a0.text hg8) (hv hs) ?_
   refine ne hs hK6 ?_
   clear hK6
   refine cnd h hs (fun hs h => ?_) (fun hs h => ?_)
   ·
    refine rl [3] hs hK5 ?_
    exact ⟨16, ([]), Rw, ef hs, ef hs, hO, h⟩
   refine sk [3] hs hK5 ?_
   exact ⟨(ZbA ((a0.text.size : Int)) 1024 5), ([]), Rw, ef hs, ef hs, hO, h⟩
  ·
   replace h := ZaO h hf7
   apply Zac 2 [3, 15]
   rw [Zaa]; simp +decide only [go_sem, Nat.reduceAdd, hf7]
   (repeat' apply And.intro) <;> first | refine Zay ?_ | exact cl
   rw [Zaa]; simp +decide only [go_sem, Nat.reduceAdd, hf7]
   (repeat' apply And.intro) <;> first | refine hK6 _ _ ?_ | exact cl
   clear hK6
   have hs := And.intro hf7 hs
   refine Zar false ev (ef hs) (fun hb10 => by cases hb10) (fun hb10 => ?_)
   refine sk [3] hs hK5 ?_
   exact ⟨(ZbA ((a0.text.size : Int)) 1024 5), ([]), Rw, ef hs, ef hs, hO, h⟩
 ·
  clear h; rintro e st ⟨x3_k4, Xk4, Rk4, rfl, rfl, hO, h⟩
  rw [Zc2] at h
  refine td hN hNR hNL hcalm hO ?_
  refine rg [2] hs ?_
  exact rt h hs hcalm hO
def ZcP (a0 : Vl) : Int :=
 ZbA ((a0.text.size : Int)) 1024 5
theorem Zko (w0 : World) (B : List (List AV)) (Rw : List RowA) (L : List LoopA) (a0 : Vl) (r : Int) (h : ZcP a0 = r) :
  ACalls Tryz.prog w0 130 [.agg (a0.cs)] ⟨B, Rw, L⟩ fun x st => x = .val (.int .i64 r) ∧ st = ⟨B, Rw, L⟩ := by
 rw [ZcP] at h
 refine hd [.tmp 2] Tryz.func130 Tryz.ntmps130 fun M0 W0 hN hNR hNL hcalm hu hO hs => ?_
 simp only [Zan]
 refine rg [1] hs ?_
 refine rc 2 [2] hs ?_; intro K2 hK2
 refine Zaf _ (ZdR w0 _ _ _ ((a0.text.size : Int)) 1024 5) (hv hs) ?_
 refine ne hs hK2 ?_
 clear hK2
 apply Zah; simp +decide only [go_sem, Nat.reduceAdd]
 subst h
 first | refine ZaE hcalm rfl hO.pre ev ⟨?_, rfl⟩ | refine Za4 hcalm rfl hO.pre ev ⟨?_, rfl⟩
 first | rfl | (simp +decide only [go_sem, Nat.reduceAdd]; done) | (simp +decide only [go_sem, Nat.reduceAdd, Vl.cs, Ty.cs]; done)
theorem Zjo (w0 : World) (B : List (List AV)) (Rw : List RowA) (L : List LoopA) (a0 : Vl) :
  ACalls Tryz.prog w0 130 [.agg (a0.cs)] ⟨B, Rw, L⟩ fun x st => x = .val (.int .i64 (ZcP a0)) ∧ st = ⟨B, Rw, L⟩ := Zko w0 B Rw L a0 _ rfl
def Zcz (a0 : Vl) : Int :=
 Za2 a0.int ((-719162)) 2932896
theorem Zku (w0 : World) (B : List (List AV)) (Rw : List RowA) (L : List LoopA) (a0 : Vl) (r : Int) (h : Zcz a0 = r) :
  ACalls Tryz.prog w0 131 [.agg (a0.cs)] ⟨B, Rw, L⟩ fun x st => x = .val (.int .i64 r) ∧ st = ⟨B, Rw, L⟩ := by
 rw [Zcz] at h
 refine hd [.tmp 2] Tryz.func131 Tryz.ntmps131 fun M0 W0 hN hNR hNL hcalm hu hO hs => ?_
 simp only [Zan]
 refine rg [1] hs ?_
 refine rc 2 [2] hs ?_; intro K2 hK2
 refine Zaf _ (ZbS w0 _ _ _ a0.int ((-719162)) 2932896) (hv hs) ?_
 refine ne hs hK2 ?_
 clear hK2
 apply Zah; simp +decide only [go_sem, Nat.reduceAdd]
 subst h
 first | refine ZaE hcalm rfl hO.pre ev ⟨?_, rfl⟩ | refine Za4 hcalm rfl hO.pre ev ⟨?_, rfl⟩
 first | rfl | (simp +decide only [go_sem, Nat.reduceAdd]; done) | (simp +decide only [go_sem, Nat.reduceAdd, Vl.cs, Ty.cs]; done)
theorem Zjc (w0 : World) (B : List (List AV)) (Rw : List RowA) (L : List LoopA) (a0 : Vl) :
  ACalls Tryz.prog w0 131 [.agg (a0.cs)] ⟨B, Rw, L⟩ fun x st => x = .val (.int .i64 (Zcz a0)) ∧ st = ⟨B, Rw, L⟩ := Zku w0 B Rw L a0 _ rfl
def ZcI (a0 : Vl) : Int :=
 Za2 a0.int ((-62135596800000)) 253402300799999
theorem Zkf (w0 : World) (B : List (List AV)) (Rw : List RowA) (L : List LoopA) (a0 : Vl) (r : Int) (h : ZcI a0 = r) :
  ACalls Tryz.prog w0 132 [.agg (a0.cs)] ⟨B, Rw, L⟩ fun x st => x = .val (.int .i64 r) ∧ st = ⟨B, Rw, L⟩ := by
 rw [ZcI] at h
 refine hd [.tmp 2] Tryz.func132 Tryz.ntmps132 fun M0 W0 hN hNR hNL hcalm hu hO hs => ?_
 simp only [Zan]
 refine rg [1] hs ?_
 refine rc 2 [2] hs ?_; intro K2 hK2
 refine Zaf _ (ZbS w0 _ _ _ a0.int ((-62135596800000)) 253402300799999) (hv hs) ?_
 refine ne hs hK2 ?_
 clear hK2
 apply Zah; simp +decide only [go_sem, Nat.reduceAdd]
 subst h
 first | refine ZaE hcalm rfl hO.pre ev ⟨?_, rfl⟩ | refine Za4 hcalm rfl hO.pre ev ⟨?_, rfl⟩
 first | rfl | (simp +decide only [go_sem, Nat.reduceAdd]; done) | (simp +decide only [go_sem, Nat.reduceAdd, Vl.cs, Ty.cs]; done)
theorem Zjq (w0 : World) (B : List (List AV)) (Rw : List RowA) (L : List LoopA) (a0 : Vl) :
  ACalls Tryz.prog w0 132 [.agg (a0.cs)] ⟨B, Rw, L⟩ fun x st => x = .val (.int .i64 (ZcI a0)) ∧ st = ⟨B, Rw, L⟩ := Zkf w0 B Rw L a0 _ rfl
def ZcJ (a0 : Vl) : Int :=
 ZbA ((a0.list.length : Int)) 256 9
theorem ZjM (w0 : World) (B : List (List AV)) (Rw : List RowA) (L : List LoopA) (a0 : Vl) (r : Int) (h : ZcJ a0 = r) :
  ACalls Tryz.prog w0 133 [.agg (a0.cs)] ⟨B, Rw, L⟩ fun x st => x = .val (.int .i64 r) ∧ st = ⟨B, Rw, L⟩ := by
 rw [ZcJ] at h
 refine hd [.tmp 2] Tryz.func133 Tryz.ntmps133 fun M0 W0 hN hNR hNL hcalm hu hO hs => ?_
 simp only [Zan]
 refine rg [1] hs ?_
 refine rc 2 [2] hs ?_; intro K2 hK2
 refine Zaf _ (ZdR w0 _ _ _ ((a0.list.length : Int)) 256 9) (hv hs) ?_
 refine ne hs hK2 ?_
 clear hK2
 apply Zah; simp +decide only [go_sem, Nat.reduceAdd]
 subst h
 first | refine ZaE hcalm rfl hO.pre ev ⟨?_, rfl⟩ | refine Za4 hcalm rfl hO.pre ev ⟨?_, rfl⟩
 first | rfl | (simp +decide only [go_sem, Nat.reduceAdd]; done) | (simp +decide only [go_sem, Nat.reduceAdd, Vl.cs, Ty.cs]; done)
theorem Zjf (w0 : World) (B : List (List AV)) (Rw : List RowA) (L : List LoopA) (a0 : Vl) :
  ACalls Tryz.prog w0 133 [.agg (a0.cs)] ⟨B, Rw, L⟩ fun x st => x = .val (.int .i64 (ZcJ a0)) ∧ st = ⟨B, Rw, L⟩ := ZjM w0 B Rw L a0 _ rfl
def ZeG (n : Nat)  : Option Int :=
 some (0)
def Zcp (n : Nat) (a0 : Vl) : Nat → Int → Option Int
 | 0, _ => none
 | m + 1, x16_l11 =>
  if decide (x16_l11 < ((a0.fields.length : Int))) then
   (idx a0.fields x16_l11).bind fun x17 =>
   if x17.1.size ≤ maxLen then
    if !(Zjl x17.1) then
     some (12)
    else
     if decide (0 < x16_l11) then
      if I64 (x16_l11 - 1) then
       (idx a0.fields (x16_l11 - 1)).bind fun x25 =>
       if sEq x17.1 x25.1 then
        some (7)
       else
        if I64 (x16_l11 - 1) then
         if sLt x17.1 x25.1 then
          some (24)
         else
          if I64 (x16_l11 + 1) then
           (Zcp n a0 m) (x16_l11 + 1)
          else none
        else none
      else none
     else
      if I64 (x16_l11 + 1) then
       (Zcp n a0 m) (x16_l11 + 1)
      else none
   else none
  else
   ZeG n 
def Zfp (n : Nat) (a0 : Vl) : Option Int :=
 if !(decide ((ZbA ((a0.fields.length : Int)) 64 9) = 0)) then
  some (ZbA ((a0.fields.length : Int)) 64 9)
 else
  Zcp n a0 n 0
theorem ZjU (w0 : World) (n : Nat) (B : List (List AV)) (Rw : List RowA) (L : List LoopA) (a0 : Vl) (r : Int) (h : Zfp n a0 = some r) :
  ACalls Tryz.prog w0 134 [.agg (a0.cs)] ⟨B, Rw, L⟩ fun x st => x = .val (.int .i64 r) ∧ st = ⟨B, Rw, L⟩ := by
 rw [Zfp] at h
 refine hd [.tmp 2] Tryz.func134 Tryz.ntmps134 fun M0 W0 hN hNR hNL hcalm hu hO hs => ?_
 simp only [Zan]
 refine rg [1] hs ?_
 apply Zab; intro K2 hK2
 refine rc 2 [1, 3] hs ?_; intro K3 hK3
 refine Zaf _ (ZdR w0 _ _ _ ((a0.fields.length : Int)) 64 9) (hv hs) ?_
 refine ne hs hK3 ?_
 clear hK3
 refine rg [1, 3, 11] hs ?_
 refine cnd h hs (fun hs h => ?_) (fun hs h => ?_)
 ·
  have hb5 := hs.1
  refine rg [2] hs ?_
  exact rt h hs hcalm hO
 have hb5 := hs.1
 refine sk [1] hs hK2 ?_
 clear hK2
 refine Zal (fun e st => Ck e st B Rw L [] [a0.cs] [] (ZeG n  = some r)) ?_ ?_
 ·
  intro K9 hK9
  refine rg [1, 14, 15, 16] hs ?_
  apply Zae
  refine Zak (fun m e st => ∃ (x16_l11 : Int), Ck e st B Rw L [(1, true, .box B.length 0), (14, true, .list (a0.fields.map avF) .none), (15, true, .val (.int .i64 ((a0.fields.length : Int)))), (16, true, .val (.int .i64 x16_l11))] [a0.cs] [] (Zcp n a0 m x16_l11 = some r)) n ⟨0, ([]), Rw, ef hs, ef hs, hO, h⟩ ?_
  rintro ml11 e st ⟨x16_l11, Xl11, Rl11, rfl, rfl, hO, h⟩ Ul11 Vl11
  cases ml11 with
  | zero => cases h
  | succ ml11 =>
  rw [Zcp] at h
  refine td hN hNR hNL hcalm hO ?_
  refine rg [1, 14, 15, 16, 17] hs ?_
  apply Zab; intro K13 hK13
  refine cnd h hs (fun hs h => ?_) (fun hs h => ?_)
  rotate_left
  ·
   have hb14 := hs.1
   refine sx [] hs hK9 ?_
   exact ⟨([]), Rl11, ef hs, ef hs, hO, h⟩
  have hb14 := hs.1
  refine sk [1, 14, 15, 16] hs hK13 ?_
  clear hK13
  apply Zab; intro K15 hK15
  apply Zae
  obtain ⟨x17, hx17, h⟩ := bind_some h
  obtain ⟨hx17a, hx17b, hx17c⟩ := Zau hx17
  have hx17d := Zav (f := avF) hx17c
  have hs := And.intro hx17d hs
  refine rg [1, 4, 5, 14, 15, 16] hs ?_
  apply Zae
  obtain ⟨hg19, h⟩ := Zad h
  refine rc 2 [1, 4, 5, 14, 15, 16, 21] hs ?_; intro K18 hK18
  refine Zaf _ (ZfE w0 _ _ _ x17.1 hg19) (hv hs) ?_
  refine ne hs hK18 ?_
  clear hK18
  refine cnd h hs (fun hs h => ?_) (fun hs h => ?_)
  ·
   have hb20 := hs.1
   refine rg [2] hs ?_
   exact rt h hs hcalm hO
  have hb20 := hs.1
  apply Zab; intro K22 hK22
  rcases Bool.eq_false_or_eq_true (decide (0 < x16_l11)) with hf23 | hf23
  ·
   replace h := ZaQ h hf23
   obtain ⟨hg24, h⟩ := Zad h
   obtain ⟨x25, hx25a, hx25b, hx25d, h⟩ := ix avF h
   apply Zap mix 15 1 1 [1, 4, 5, 14, 15, 16, 26] (by kernel_rfl)
   rw [Zaa]; simp +decide only [go_sem, Nat.reduceAdd, hb5, hb14, hx17d, hb20, hf23, hx25d]
   (repeat' with_reducible apply And.intro) <;> first | (rw [Zaa]; simp +decide only [go_sem, Nat.reduceAdd, hb5, hb14, hx17d, hb20, hf23, hx25d]) | exact cl
   (repeat' apply And.intro) <;> first | refine hK22 _ _ ?_ | exact cl
   clear hK22
   have hs := And.intro hf23 hs
   have hs := And.intro hx25d hs
   refine cnd h hs (fun hs h => ?_) (fun hs h => ?_)
   ·
    refine rg [2] hs ?_
    exact rt h hs hcalm hO
   obtain ⟨hg29, h⟩ := Zad h
   refine dg 15 1 1 [1, 14, 15, 16, 41] hs mix ?_
   refine cnd h hs (fun hs h => ?_) (fun hs h => ?_)
   ·
    refine rg [2] hs ?_
    exact rt h hs hcalm hO
   refine sk [1, 14, 15, 16] hs hK15 ?_
   clear hK15
   obtain ⟨hg32, h⟩ := Zad h
   refine rl [1, 14, 15, 16] hs (fun e s => Vl11 ml11 e s (Nat.lt_succ_self _)) ?_
   exact ⟨(x16_l11 + 1), ([.val (.string x17.1) :: (x17.2.cs)]), Rl11, ef hs, ef hs, hO, h⟩
  ·
   replace h := ZaO h hf23
   apply Zap mix 15 1 1 [1, 4, 5, 14, 15, 16, 26] (by kernel_rfl)
   rw [Zaa]; simp +decide only [go_sem, Nat.reduceAdd, hb5, hb14, hx17d, hb20, hf23]
   (repeat' with_reducible apply And.intro) <;> first | (rw [Zaa]; simp +decide only [go_sem, Nat.reduceAdd, hb5, hb14, hx17d, hb20, hf23]) | exact cl
   (repeat' apply And.intro) <;> first | refine hK22 _ _ ?_ | exact cl
   clear hK22
   have hs := And.intro hf23 hs
   refine Zar false ev (ef hs) (fun hb33 => by cases hb33) (fun hb33 => ?_)
   refine dg 15 1 1 [1, 14, 15, 16, 41] hs mix ?_
   refine Zar false ev (ef hs) (fun hb35 => by cases hb35) (fun hb35 => ?_)
   refine sk [1, 14, 15, 16] hs hK15 ?_
   clear hK15
   obtain ⟨hg36, h⟩ := Zad h
   refine rl [1, 14, 15, 16] hs (fun e s => Vl11 ml11 e s (Nat.lt_succ_self _)) ?_
   exact ⟨(x16_l11 + 1), ([.val (.string x17.1) :: (x17.2.cs)]), Rl11, ef hs, ef hs, hO, h⟩
 ·
  clear h; rintro e st ⟨Xk8, Rk8, rfl, rfl, hO, h⟩
  rw [ZeG] at h
  refine td hN hNR hNL hcalm hO ?_
  refine rg [2] hs ?_
  exact rt h hs hcalm hO
def Zg7 (a0 : Vl) : Bool :=
 (((((((((decide (a0.kind = 1)) || (decide (a0.kind = 2))) || (decide (a0.kind = 6))) || (decide (a0.kind = 7))) || (decide (a0.kind = 3))) || (decide (a0.int = 0))) && ((decide (a0.kind = 3)) || (decide (a0.scale = 0)))) && ((((decide (a0.kind = 4)) || (decide (a0.kind = 5))) || (decide (a0.kind = 10))) || (sEq a0.text ((⟨#[]⟩ : ByteArray))))) && (((decide (a0.kind = 8)) || (decide (a0.kind = 10))) || (decide (((a0.list.length : Int)) = 0)))) && ((decide (a0.kind = 9)) || (decide (((a0.fields.length : Int)) = 0)))
theorem ZnJ (w0 : World) (B : List (List AV)) (Rw : List RowA) (L : List LoopA) (a0 : Vl) (r : Bool) (h : Zg7 a0 = r) :
  ACalls Tryz.prog w0 91 [.agg (a0.cs)] ⟨B, Rw, L⟩ fun x st => x = .val (.bool r) ∧ st = ⟨B, Rw, L⟩ := by
 rw [Zg7] at h
 refine hd [.tmp 2] Tryz.func91 Tryz.ntmps91 fun M0 W0 hN hNR hNL hcalm hu hO hs => ?_
 simp only [Zan]
 refine rg [1] hs ?_
 refine rg [1, 3] hs ?_
 refine rg [1, 3, 4] hs ?_
 refine rg [1, 3, 4, 5] hs ?_
 refine rg [2] hs ?_
 apply Zah; simp +decide only [go_sem, Nat.reduceAdd]
 subst h
 first | refine ZaE hcalm rfl hO.pre ev ⟨?_, rfl⟩ | refine Za4 hcalm rfl hO.pre ev ⟨?_, rfl⟩
 first | rfl | (simp +decide only [go_sem, Nat.reduceAdd]; done) | (simp +decide only [go_sem, Nat.reduceAdd, Vl.cs, Ty.cs]; done)
theorem Zmn (w0 : World) (B : List (List AV)) (Rw : List RowA) (L : List LoopA) (a0 : Vl) :
  ACalls Tryz.prog w0 91 [.agg (a0.cs)] ⟨B, Rw, L⟩ fun x st => x = .val (.bool (Zg7 a0)) ∧ st = ⟨B, Rw, L⟩ := ZnJ w0 B Rw L a0 _ rfl
end Go.Proofs.YtggimoedcamonaaGreatDoor
