/-
  Part 4 of the proof: rules and walks that the claim's last text uses.
-/
import Derived.Shelf.Spec.SlicesInsertGrow
import Derived.Test.YtgpmlelfkjfbiaaGreatDoorSn3
set_option linter.unusedSimpArgs false
set_option linter.unusedVariables false
set_option maxRecDepth 100000
set_option maxHeartbeats 4000000
namespace Go.Proofs.YtgpmlelfkjfbiaaGreatDoor
open Go Go.RowKit Go.Ev
def ZcN (n : Nat)  : Option Int :=
 some ((-1))
def ZbO (n : Nat) (a0 : List Vl) (a1 : Vl → Option Bool) : Nat → Int → Option Int
 | 0, _ => none
 | m + 1, x8_l6 =>
  if decide (x8_l6 < ((a0.length : Int))) then
   (idx a0 x8_l6).bind fun x13 =>
   (a1 x13).bind fun y14 =>
   if y14 then
    some (x8_l6)
   else
    if I64 (x8_l6 + 1) then
     (ZbO n a0 a1 m) (x8_l6 + 1)
    else none
  else
   ZcN n 
def Zc0 (n : Nat) (a0 : List Vl) (a1 : Vl → Option Bool) : Option Int :=
 ZbO n a0 a1 n 0
theorem ZgC (w0 : World) (n : Nat) (B : List (List AV)) (Rw : List RowA) (L : List LoopA) (a0 : List Vl) (fa1 : FuncId) (ca1 : List AV) (a1 : Vl → Option Bool) (ha1 : ∀ (x0 : Vl) r, a1 x0 = some r → ∀ B' rows, B <+: B' → Rw <+: rows → ACalls Tryz.prog w0 fa1 ([.agg (x0.cs)] ++ ca1) ⟨B', rows, L⟩ fun v s => v = .val (.bool r) ∧ s = ⟨B', rows, L⟩) (r : Int) (h : Zc0 n a0 a1 = some r) :
  ACalls Tryz.prog w0 225 [.list (a0.map avV) .none, .clo fa1 ca1] ⟨B, Rw, L⟩ fun x st => x = .val (.int .i64 r) ∧ st = ⟨B, Rw, L⟩ := by
 rw [Zc0] at h
 refine hd [.tmp 4] Tryz.func225 Tryz.ntmps225 fun M0 W0 hN hNR hNL hcalm hu hO hs => ?_
 simp only [Zal]
 have hU_a1 := Za0 (hu (.clo fa1 ca1) (by simp))
 refine rg [0, 1] hs ?_
 refine Zak (fun e st => Ck e st B Rw L [] [] [] (ZcN n  = some r)) ?_ ?_
 ·
  intro K4 hK4
  refine rg [0, 1, 7, 8] hs ?_
  apply Zaf
  refine Zap (fun m e st => ∃ (x8_l6 : Int), Ck e st B Rw L [(0, true, .list (a0.map avV) .none), (1, true, .clo fa1 ca1), (7, true, .val (.int .i64 ((a0.length : Int)))), (8, true, .val (.int .i64 x8_l6))] [] [] (ZbO n a0 a1 m x8_l6 = some r)) n ⟨0, ([]), Rw, ef hs, ef hs, hO, h⟩ ?_
  rintro ml6 e st ⟨x8_l6, Xl6, Rl6, rfl, rfl, hO, h⟩ Ul6 Vl6
  cases ml6 with
  | zero => cases h
  | succ ml6 =>
  rw [ZbO] at h
  refine Zas hN hNR hNL rfl hcalm hO (by (simp +decide only [go_sem, Nat.reduceAdd]) <;> (try (repeat' apply And.intro)) <;> first | omega | assumption | exact hU_a1 _ _ _ (by omega) (by have := hO.len; omega) (by omega)) (by (simp +decide only [go_sem, Nat.reduceAdd, Za2]) <;> (try (repeat' apply And.intro)) <;> first | omega | assumption | exact hU_a1 _ _ _ (by omega) (by have := hO.len; omega) (by omega)) ?_
  refine rg [0, 1, 7, 8, 9] hs ?_
  apply Zac; intro K8 hK8
  refine cnd h hs (fun hs h => ?_) (fun hs h => ?_)
  rotate_left
  ·
   refine sx [] hs hK4 ?_
   exact ⟨([]), Rl6, ef hs, ef hs, hO, h⟩
  refine sk [0, 1, 7, 8] hs hK8 ?_
  clear hK8
  apply Zac; intro K10 hK10
  apply Zaf
  refine rg [0, 1, 5, 7, 8] hs ?_
  obtain ⟨x13, hx13, h⟩ := bind_some h
  obtain ⟨hx13a, hx13b, hx13c⟩ := Zam hx13
  have hx13d := Zao (f := avV) hx13c
  obtain ⟨y14, hy14, h⟩ := bind_some h
  have hs := And.intro hx13d hs
  refine rc 2 [0, 1, 5, 7, 8, 16] hs ?_; intro K12 hK12
  refine Zdl _ (ha1 x13 _ hy14 _ _ (by first | exact List.prefix_append _ _ | exact List.prefix_refl _) hO.pre) (hv hs) ?_
  refine ne hs hK12 ?_
  clear hK12
  refine cnd h hs (fun hs h => ?_) (fun hs h => ?_)
  ·
   refine rg [4] hs ?_
   exact rt h hs hcalm hO
  refine sk [0, 1, 7, 8] hs hK10 ?_
  clear hK10
  obtain ⟨hg17, h⟩ := Zae h
  refine rl [0, 1, 7, 8] hs (fun e s => Vl6 ml6 e s (Nat.lt_succ_self _)) ?_
  exact ⟨(x8_l6 + 1), ([]), Rl6, ef hs, ef hs, hO, h⟩
 ·
  clear h; rintro e st ⟨Xk3, Rk3, rfl, rfl, hO, h⟩
  rw [ZcN] at h
  refine Zas hN hNR hNL rfl hcalm hO (by (simp +decide only [go_sem, Nat.reduceAdd]) <;> (try (repeat' apply And.intro)) <;> first | omega | assumption | exact hU_a1 _ _ _ (by omega) (by have := hO.len; omega) (by omega)) (by (simp +decide only [go_sem, Nat.reduceAdd, Za2]) <;> (try (repeat' apply And.intro)) <;> first | omega | assumption | exact hU_a1 _ _ _ (by omega) (by have := hO.len; omega) (by omega)) ?_
  refine rg [4] hs ?_
  exact rt h hs hcalm hO
def Zb8 (n : Nat) (a0 : List Vl) (a1 : Vl → Option Bool) : Option Bool :=
 (Zc0 n a0 a1).bind fun y3 =>
 some (decide (0 ≤ y3))
theorem Zfw (w0 : World) (n : Nat) (B : List (List AV)) (Rw : List RowA) (L : List LoopA) (a0 : List Vl) (fa1 : FuncId) (ca1 : List AV) (a1 : Vl → Option Bool) (ha1 : ∀ (x0 : Vl) r, a1 x0 = some r → ∀ B' rows, B <+: B' → Rw <+: rows → ACalls Tryz.prog w0 fa1 ([.agg (x0.cs)] ++ ca1) ⟨B', rows, L⟩ fun v s => v = .val (.bool r) ∧ s = ⟨B', rows, L⟩) (r : Bool) (h : Zb8 n a0 a1 = some r) :
  ACalls Tryz.prog w0 182 [.list (a0.map avV) .none, .clo fa1 ca1] ⟨B, Rw, L⟩ fun x st => x = .val (.bool r) ∧ st = ⟨B, Rw, L⟩ := by
 rw [Zb8] at h
 refine hd [.tmp 4] Tryz.func182 Tryz.ntmps182 fun M0 W0 hN hNR hNL hcalm hu hO hs => ?_
 simp only [Zal]
 have hU_a1 := Za0 (hu (.clo fa1 ca1) (by simp))
 refine rg [0, 1] hs ?_
 obtain ⟨y3, hy3, h⟩ := bind_some h
 refine rc 2 [4] hs ?_; intro K2 hK2
 refine Zad _ (ZgC w0 n _ _ _ a0 fa1 ca1 a1 (fun x0 r hx B'' rows'' q1 q2 => ha1 x0 r hx B'' rows'' (List.IsPrefix.trans (by first | exact List.prefix_append _ _ | exact List.prefix_refl _) q1) (hO.pre.trans q2)) _ hy3) (hv hs) ?_
 refine ne hs hK2 ?_
 clear hK2
 exact rt h hs hcalm hO
def ZdE (n : Nat)  : Option Int :=
 some ((-1))
def ZcC (n : Nat) (a0 : List ByteArray) (a1 : ByteArray) : Nat → Int → Option Int
 | 0, _ => none
 | m + 1, x8_l6 =>
  if decide (x8_l6 < ((a0.length : Int))) then
   (idx a0 x8_l6).bind fun x13 =>
   if sEq a1 x13 then
    some (x8_l6)
   else
    if I64 (x8_l6 + 1) then
     (ZcC n a0 a1 m) (x8_l6 + 1)
    else none
  else
   ZdE n 
def ZdM (n : Nat) (a0 : List ByteArray) (a1 : ByteArray) : Option Int :=
 ZcC n a0 a1 n 0
theorem Zhy (w0 : World) (n : Nat) (B : List (List AV)) (Rw : List RowA) (L : List LoopA) (a0 : List ByteArray) (a1 : ByteArray) (r : Int) (h : ZdM n a0 a1 = some r) :
  ACalls Tryz.prog w0 190 [.list (a0.map avS) .none, .val (.string a1)] ⟨B, Rw, L⟩ fun x st => x = .val (.int .i64 r) ∧ st = ⟨B, Rw, L⟩ := by
 rw [ZdM] at h
 refine hd [.tmp 4] Tryz.func190 Tryz.ntmps190 fun M0 W0 hN hNR hNL hcalm hu hO hs => ?_
 simp only [Zal]
 refine rg [0, 1] hs ?_
 refine Zak (fun e st => Ck e st B Rw L [] [] [] (ZdE n  = some r)) ?_ ?_
 ·
  intro K4 hK4
  refine rg [0, 1, 7, 8] hs ?_
  apply Zaf
  refine Zap (fun m e st => ∃ (x8_l6 : Int), Ck e st B Rw L [(0, true, .list (a0.map avS) .none), (1, true, .val (.string a1)), (7, true, .val (.int .i64 ((a0.length : Int)))), (8, true, .val (.int .i64 x8_l6))] [] [] (ZcC n a0 a1 m x8_l6 = some r)) n ⟨0, ([]), Rw, ef hs, ef hs, hO, h⟩ ?_
  rintro ml6 e st ⟨x8_l6, Xl6, Rl6, rfl, rfl, hO, h⟩ Ul6 Vl6
  cases ml6 with
  | zero => cases h
  | succ ml6 =>
  rw [ZcC] at h
  refine td hN hNR hNL hcalm hO ?_
  refine rg [0, 1, 7, 8, 9] hs ?_
  apply Zac; intro K8 hK8
  refine cnd h hs (fun hs h => ?_) (fun hs h => ?_)
  rotate_left
  ·
   refine sx [] hs hK4 ?_
   exact ⟨([]), Rl6, ef hs, ef hs, hO, h⟩
  refine sk [0, 1, 7, 8] hs hK8 ?_
  clear hK8
  apply Zac; intro K10 hK10
  apply Zaf
  refine rg [0, 1, 5, 7, 8] hs ?_
  obtain ⟨x13, hx13, h⟩ := bind_some h
  obtain ⟨hx13a, hx13b, hx13c⟩ := Zam hx13
  have hx13d := Zao (f := avS) hx13c
  have hs := And.intro hx13d hs
  refine rg [0, 1, 5, 7, 8, 16] hs ?_
  refine cnd h hs (fun hs h => ?_) (fun hs h => ?_)
  ·
   refine rg [4] hs ?_
   exact rt h hs hcalm hO
  refine sk [0, 1, 7, 8] hs hK10 ?_
  clear hK10
  obtain ⟨hg16, h⟩ := Zae h
  refine rl [0, 1, 7, 8] hs (fun e s => Vl6 ml6 e s (Nat.lt_succ_self _)) ?_
  exact ⟨(x8_l6 + 1), ([]), Rl6, ef hs, ef hs, hO, h⟩
 ·
  clear h; rintro e st ⟨Xk3, Rk3, rfl, rfl, hO, h⟩
  rw [ZdE] at h
  refine td hN hNR hNL hcalm hO ?_
  refine rg [4] hs ?_
  exact rt h hs hcalm hO
def Za9 (n : Nat) (a0 : List ByteArray) (a1 : ByteArray) : Option Bool :=
 (ZdM n a0 a1).bind fun y3 =>
 some (decide (0 ≤ y3))
theorem ZbK (w0 : World) (n : Nat) (B : List (List AV)) (Rw : List RowA) (L : List LoopA) (a0 : List ByteArray) (a1 : ByteArray) (r : Bool) (h : Za9 n a0 a1 = some r) :
  ACalls Tryz.prog w0 131 [.list (a0.map avS) .none, .val (.string a1)] ⟨B, Rw, L⟩ fun x st => x = .val (.bool r) ∧ st = ⟨B, Rw, L⟩ := by
 rw [Za9] at h
 refine hd [.tmp 4] Tryz.func131 Tryz.ntmps131 fun M0 W0 hN hNR hNL hcalm hu hO hs => ?_
 simp only [Zal]
 refine rg [0, 1] hs ?_
 obtain ⟨y3, hy3, h⟩ := bind_some h
 refine rc 2 [4] hs ?_; intro K2 hK2
 refine Zad _ (Zhy w0 n _ _ _ a0 a1 _ hy3) (hv hs) ?_
 refine ne hs hK2 ?_
 clear hK2
 exact rt h hs hcalm hO
def Zjh (rec : Ty → Vl → Option Bool) (n : Nat) (a0 : Ty) (a1 : Vl) : Option Bool :=
 (ZaF n a0.fields (fun (x0 : Int × ByteArray × Int × Ty × List Vl) => ZhW n x0 a1)).bind fun y69 =>
 some (!y69)
def Zk3 (rec : Ty → Vl → Option Bool) (n : Nat)  : Option Bool :=
 some (true)
def ZhI (rec : Ty → Vl → Option Bool) (n : Nat) (a0 : Ty) (a1 : Vl) : Nat → Int → Option Bool
 | 0, _ => none
 | m + 1, x107_l51 =>
  if decide (x107_l51 < ((a1.fields.length : Int))) then
   (idx a1.fields x107_l51).bind fun x57 =>
   (Zgr n a0 x57.1).bind fun y59 =>
   if !y59.2 then
    some (false)
   else
    (rec y59.1.2.2.2.1 x57.2).bind fun y64 =>
    if !y64 then
     some (false)
    else
     if I64 (x107_l51 + 1) then
      (ZhI rec n a0 a1 m) (x107_l51 + 1)
     else none
  else
   Zjh rec n a0 a1 
def Zfs (rec : Ty → Vl → Option Bool) (n : Nat) (a0 : Ty) (a1 : Vl) (x18_k11 : Bool) : Option Bool :=
 if x18_k11 then
  some ((decide (a0.min ≤ a1.int) && decide (a1.int ≤ a0.max)) && (decide (a1.scale = a0.scale)))
 else
  if decide (a0.kind = 4) then
   if decide (0 < ((a0.words.length : Int))) then
    (Za9 n a0.words a1.text).bind fun y27 =>
    some (y27)
   else
    some (decide (a0.min ≤ ((a1.text.size : Int))) && decide (((a1.text.size : Int)) ≤ a0.max))
  else
   if decide (a0.kind = 5) then
    some (decide (a0.min ≤ ((a1.text.size : Int))) && decide (((a1.text.size : Int)) ≤ a0.max))
   else
    if decide (a0.kind = 8) then
     if decide (a0.min ≤ ((a1.list.length : Int))) && decide (((a1.list.length : Int)) ≤ a0.max) then
      (Zb8 n a1.list (fun (x0 : Vl) => ZhP rec x0 a0)).bind fun y36 =>
      some (!y36)
     else
      some (false)
    else
     if decide (a0.kind = 10) then
      (Zgr n a0 a1.text).bind fun y40 =>
      if y40.2 then
       (idx a1.list 0).bind fun x43 =>
       (rec y40.1.2.2.2.1 x43).bind fun y44 =>
       some (y44)
      else
       some (false)
     else
      if decide (a0.kind = 9) then
       ZhI rec n a0 a1 n 0
      else
       Zk3 rec n 
def Zmm (rec : Ty → Vl → Option Bool) (n : Nat) (a0 : Ty) (a1 : Vl) : Option Bool :=
 if !(decide (a1.kind = a0.kind)) then
  some (false)
 else
  if decide (a0.kind = 2) then
   Zfs rec n a0 a1 true
  else
   if decide (a0.kind = 6) then
    Zfs rec n a0 a1 true
   else
    if decide (a0.kind = 7) then
     Zfs rec n a0 a1 true
    else
     Zfs rec n a0 a1 (decide (a0.kind = 3))
def Zk4 : Nat → Ty → Vl → Option Bool
 | 0, _, _ => none
 | n + 1, a0, a1 => Zmm (Zk4 n) n a0 a1
def Zmk (w0 : World) (F : Ty → Vl → Option Bool) : Prop := ∀ (B : List (List AV)) (Rw : List RowA) (L : List LoopA) (a0 : Ty) (a1 : Vl) (r : Bool), F a0 a1 = some r → ACalls Tryz.prog w0 107 [.agg (a0.cs), .agg (a1.cs)] ⟨B, Rw, L⟩ fun x st => x = .val (.bool r) ∧ st = ⟨B, Rw, L⟩
theorem Zns (w0 : World) (rec : Ty → Vl → Option Bool) (ih : Zmk w0 rec) (n : Nat) : Zmk w0 (Zmm rec n) := by
 intro B Rw L a0 a1 r h
 rw [Zmm] at h
 refine hd [.tmp 4] Tryz.func107 Tryz.ntmps107 fun M0 W0 hN hNR hNL hcalm hu hO hs => ?_
 simp only [Zal]
 refine rg [2, 3] hs ?_
 apply Zac; intro K2 hK2
 refine rg [2, 3, 15] hs ?_
 refine cnd h hs (fun hs h => ?_) (fun hs h => ?_)
 ·
  have hb4 := hs.1
  refine rg [4] hs ?_
  exact rt h hs hcalm hO
 have hb4 := hs.1
 refine sk [2, 3] hs hK2 ?_
 clear hK2
 refine Zak (fun e st => Ck e st B Rw L [] [a0.cs, a1.cs] [] (Zk3 rec n  = some r)) ?_ ?_
 ·
  intro K8 hK8
  refine rg [2, 3, 17] hs ?_
  apply Zaf
  refine Zak (fun e st => ∃ (x18_k11 : Bool), Ck e st B Rw L [(2, true, .box B.length 0), (3, true, .box (B.length + 1) 0), (17, true, .val (.int .i64 a0.kind)), (18, true, .val (.bool x18_k11))] [a0.cs, a1.cs] [] (Zfs rec n a0 a1 x18_k11 = some r)) ?_ ?_
  ·
   intro K12 hK12
   refine rg [2, 3, 17, 18] hs ?_
   refine cnd h hs (fun hs h => ?_) (fun hs h => ?_)
   ·
    refine sk [2, 3, 17, 18] hs hK12 ?_
    exact ⟨true, ([]), Rw, ef hs, ef hs, hO, h⟩
   refine rg [2, 3, 17, 18] hs ?_
   refine cnd h hs (fun hs h => ?_) (fun hs h => ?_)
   ·
    refine sk [2, 3, 17, 18] hs hK12 ?_
    exact ⟨true, ([]), Rw, ef hs, ef hs, hO, h⟩
   refine rg [2, 3, 17, 18] hs ?_
   refine cnd h hs (fun hs h => ?_) (fun hs h => ?_)
   ·
    refine sk [2, 3, 17, 18] hs hK12 ?_
    exact ⟨true, ([]), Rw, ef hs, ef hs, hO, h⟩
   refine rl [2, 3, 17, 18] hs hK12 ?_
   exact ⟨(decide (a0.kind = 3)), ([]), Rw, ef hs, ef hs, hO, h⟩
  ·
   clear h; rintro e st ⟨x18_k11, Xk11, Rk11, rfl, rfl, hO, h⟩
   rw [Zfs] at h
   refine td hN hNR hNL hcalm hO ?_
   refine cnd h hs (fun hs h => ?_) (fun hs h => ?_)
   ·
    have hb19 := hs.1
    refine rc 2 [4] hs ?_; intro K20 hK20
    refine Zad _ (ZkC w0 _ _ _ a1.int a0.min a0.max) (hv hs) ?_
    refine ne hs hK20 ?_
    clear hK20
    exact rt h hs hcalm hO
   have hb19 := hs.1
   refine rg [2, 3, 17, 37] hs ?_
   refine cnd h hs (fun hs h => ?_) (fun hs h => ?_)
   ·
    have hb22 := hs.1
    apply Zac; intro K23 hK23
    refine rg [2, 3, 42] hs ?_
    refine cnd h hs (fun hs h => ?_) (fun hs h => ?_)
    ·
     obtain ⟨y27, hy27, h⟩ := bind_some h
     refine rc 2 [4] hs ?_; intro K26 hK26
     refine Zad _ (ZbK w0 n _ _ _ a0.words a1.text _ hy27) (hv hs) ?_
     refine ne hs hK26 ?_
     clear hK26
     exact rt h hs hcalm hO
    refine sk [2, 3] hs hK23 ?_
    clear hK23
    refine rc 2 [4] hs ?_; intro K28 hK28
    refine Zad _ (ZkC w0 _ _ _ ((a1.text.size : Int)) a0.min a0.max) (hv hs) ?_
    refine ne hs hK28 ?_
    clear hK28
    exact rt h hs hcalm hO
   have hb22 := hs.1
   refine rg [2, 3, 17, 56] hs ?_
   refine cnd h hs (fun hs h => ?_) (fun hs h => ?_)
   ·
    have hb30 := hs.1
    refine rc 2 [4] hs ?_; intro K31 hK31
    refine Zad _ (ZkC w0 _ _ _ ((a1.text.size : Int)) a0.min a0.max) (hv hs) ?_
    refine ne hs hK31 ?_
    clear hK31
    exact rt h hs hcalm hO
   have hb30 := hs.1
   refine rg [2, 3, 17, 66] hs ?_
   refine cnd h hs (fun hs h => ?_) (fun hs h => ?_)
   ·
    have hb33 := hs.1
    apply Zac; intro K34 hK34
    rcases Bool.eq_false_or_eq_true (decide (a0.min ≤ ((a1.list.length : Int))) && decide (((a1.list.length : Int)) ≤ a0.max)) with hf35 | hf35
    ·
     replace h := ZaC h hf35
     obtain ⟨y36, hy36, h⟩ := bind_some h
     have hs := And.intro hf35 hs
     refine rk 3 [4] hs ?_
     refine Zad _ (ZkC w0 _ _ _ ((a1.list.length : Int)) a0.min a0.max) (hv hs) ?_
     refine nc hs ?_
     refine Zad _ (Zfw w0 n _ _ _ a1.list 183 [.box B.length 0] (fun (x0 : Vl) => ZhP rec x0 a0) (fun x0 r hx B' rows' hB' hR' => by exact ZnF w0 rec ih _ _ _ x0 _ a0 (ZbC hB' (ef hs)) _ hx) _ hy36) (hv hs) ?_
     refine ne hs hK34 ?_
     clear hK34
     exact rt h hs hcalm hO
    ·
     replace h := ZaD h hf35
     apply Zab 3 [4]
     rw [Zaa]; simp +decide only [go_sem, Nat.reduceAdd, hb4, hb19, hb22, hb30, hb33, hf35]
     have hs := And.intro hf35 hs
     (repeat' apply And.intro) <;> first | refine Zad _ (ZkC w0 _ _ _ ((a1.list.length : Int)) a0.min a0.max) (hv hs) ?_ | exact cl
     rw [Zaa]; simp +decide only [go_sem, Nat.reduceAdd, hb4, hb19, hb22, hb30, hb33, hf35]
     (repeat' apply And.intro) <;> first | refine ZaB ?_ | exact cl
     rw [Zaa]; simp +decide only [go_sem, Nat.reduceAdd, hb4, hb19, hb22, hb30, hb33, hf35]
     (repeat' apply And.intro) <;> first | refine hK34 _ _ ?_ | exact cl
     clear hK34
     exact rt h hs hcalm hO
   have hb33 := hs.1
   refine rg [2, 3, 17, 83] hs ?_
   refine cnd h hs (fun hs h => ?_) (fun hs h => ?_)
   ·
    have hb38 := hs.1
    obtain ⟨y40, hy40, h⟩ := bind_some h
    refine rc 2 [3, 5, 6] hs ?_; intro K39 hK39
    refine Zad _ (Zin w0 n _ _ _ a0 a1.text _ hy40) (hv hs) ?_
    refine ne hs hK39 ?_
    clear hK39
    apply Zac; intro K41 hK41
    rcases Bool.eq_false_or_eq_true (y40.2) with hf42 | hf42
    ·
     replace h := ZaC h hf42
     obtain ⟨x43, hx43a, hx43b, hx43d, h⟩ := ix avV h
     have hx43e : (a1.list.map avV).getD 0 .junk = _ := hx43d
     obtain ⟨y44, hy44, h⟩ := bind_some h
     apply Zaw mix 11 2 1 [4] (by kernel_rfl)
     rw [Zaa]; simp +decide only [go_sem, Nat.reduceAdd, hb4, hb19, hb22, hb30, hb33, hb38, hf42, hx43d, hx43e]
     have hs := And.intro hf42 hs
     have hs := And.intro hx43d hs
     have hs := And.intro hx43e hs
     (repeat' apply And.intro) <;> first | refine Zad _ (ih _ _ _ y40.1.2.2.2.1 x43 _ hy44) (hv hs) ?_ | exact cl
     rw [Zaa]; simp +decide only [go_sem, Nat.reduceAdd, hb4, hb19, hb22, hb30, hb33, hb38, hf42, hx43d, hx43e]
     (repeat' with_reducible apply And.intro) <;> first | (rw [Zaa]; simp +decide only [go_sem, Nat.reduceAdd, hb4, hb19, hb22, hb30, hb33, hb38, hf42, hx43d, hx43e]) | exact cl
     (repeat' apply And.intro) <;> first | refine hK41 _ _ ?_ | exact cl
     clear hK41
     exact rt h hs hcalm hO
    ·
     replace h := ZaD h hf42
     apply Zaw mix 11 2 1 [4] (by kernel_rfl)
     rw [Zaa]; simp +decide only [go_sem, Nat.reduceAdd, hb4, hb19, hb22, hb30, hb33, hb38, hf42]
     (repeat' apply And.intro) <;> first | refine ZaB ?_ | exact cl
     rw [Zaa]; simp +decide only [go_sem, Nat.reduceAdd, hb4, hb19, hb22, hb30, hb33, hb38, hf42]
     (repeat' with_reducible apply And.intro) <;> first | (rw [Zaa]; simp +decide only [go_sem, Nat.reduceAdd, hb4, hb19, hb22, hb30, hb33, hb38, hf42]) | exact cl
     (repeat' apply And.intro) <;> first | refine hK41 _ _ ?_ | exact cl
     clear hK41
     have hs := And.intro hf42 hs
     exact rt h hs hcalm hO
   have hb38 := hs.1
   refine rg [2, 3, 102] hs ?_
   refine cnd h hs (fun hs h => ?_) (fun hs h => ?_)
   ·
    have hb46 := hs.1
    refine Zak (fun e st => Ck e st B Rw L [(2, true, .box B.length 0), (3, true, .box (B.length + 1) 0)] [a0.cs, a1.cs] [] (Zjh rec n a0 a1  = some r)) ?_ ?_
    ·
     intro K49 hK49
     refine rg [2, 3, 105, 106, 107] hs ?_
     apply Zaf
     refine Zap (fun m e st => ∃ (x107_l51 : Int), Ck e st B Rw L [(2, true, .box B.length 0), (3, true, .box (B.length + 1) 0), (105, true, .list (a1.fields.map avF) .none), (106, true, .val (.int .i64 ((a1.fields.length : Int)))), (107, true, .val (.int .i64 x107_l51))] [a0.cs, a1.cs] [] (ZhI rec n a0 a1 m x107_l51 = some r)) n ⟨0, ([]), Rk11, ef hs, ef hs, hO, h⟩ ?_
     rintro ml51 e st ⟨x107_l51, Xl51, Rl51, rfl, rfl, hO, h⟩ Ul51 Vl51
     cases ml51 with
     | zero => cases h
     | succ ml51 =>
     rw [ZhI] at h
     refine td hN hNR hNL hcalm hO ?_
     refine rg [2, 3, 105, 106, 107, 108] hs ?_
     apply Zac; intro K53 hK53
     refine cnd h hs (fun hs h => ?_) (fun hs h => ?_)
     rotate_left
     ·
      have hb54 := hs.1
      refine sx [2, 3] hs hK49 ?_
      exact ⟨([]), Rl51, ef hs, ef hs, hO, h⟩
     have hb54 := hs.1
     refine sk [2, 3, 105, 106, 107] hs hK53 ?_
     clear hK53
     apply Zac; intro K55 hK55
     apply Zaf
     obtain ⟨x57, hx57, h⟩ := bind_some h
     obtain ⟨hx57a, hx57b, hx57c⟩ := Zam hx57
     have hx57d := Zao (f := avF) hx57c
     have hs := And.intro hx57d hs
     refine rg [2, 3, 8, 105, 106, 107] hs ?_
     obtain ⟨y59, hy59, h⟩ := bind_some h
     refine rc 2 [2, 3, 8, 9, 10, 105, 106, 107] hs ?_; intro K58 hK58
     refine Zad _ (Zin w0 n _ _ _ a0 x57.1 _ hy59) (hv hs) ?_
     refine ne hs hK58 ?_
     clear hK58
     apply Zac; intro K60 hK60
     rcases Bool.eq_false_or_eq_true (!y59.2) with hf61 | hf61
     ·
      replace h := ZaC h hf61
      apply Zab 2 [2, 3, 105, 106, 107, 127]
      rw [Zaa]; simp +decide only [go_sem, Nat.reduceAdd, hb4, hb19, hb22, hb30, hb33, hb38, hb46, hb54, hx57d, hf61]
      (repeat' apply And.intro) <;> first | refine ZaB ?_ | exact cl
      rw [Zaa]; simp +decide only [go_sem, Nat.reduceAdd, hb4, hb19, hb22, hb30, hb33, hb38, hb46, hb54, hx57d, hf61]
      (repeat' apply And.intro) <;> first | refine hK60 _ _ ?_ | exact cl
      clear hK60
      have hs := And.intro hf61 hs
      refine Zav true ev (ef hs) (fun hb62 => ?_) (fun hb62 => by cases hb62)
      refine rg [4] hs ?_
      exact rt h hs hcalm hO
     ·
      replace h := ZaD h hf61
      obtain ⟨y64, hy64, h⟩ := bind_some h
      have hs := And.intro hf61 hs
      refine rk 2 [2, 3, 105, 106, 107, 127] hs ?_
      refine Zad _ (ih _ _ _ y59.1.2.2.2.1 x57.2 _ hy64) (hv hs) ?_
      refine ne hs hK60 ?_
      clear hK60
      refine cnd h hs (fun hs h => ?_) (fun hs h => ?_)
      ·
       refine rg [4] hs ?_
       exact rt h hs hcalm hO
      refine sk [2, 3, 105, 106, 107] hs hK55 ?_
      clear hK55
      obtain ⟨hg67, h⟩ := Zae h
      refine rl [2, 3, 105, 106, 107] hs (fun e s => Vl51 ml51 e s (Nat.lt_succ_self _)) ?_
      exact ⟨(x107_l51 + 1), ([.val (.string x57.1) :: (x57.2.cs), .val (.int .i64 y59.1.1) :: (.val (.string y59.1.2.1) :: (.val (.int .i64 y59.1.2.2.1) :: ((y59.1.2.2.2.1.cs) ++ ([.list (y59.1.2.2.2.2.map avV) .none]))))]), Rl51, ef hs, ef hs, hO, h⟩
    ·
     clear h; rintro e st ⟨Xk48, Rk48, rfl, rfl, hO, h⟩
     rw [Zjh] at h
     refine td hN hNR hNL hcalm hO ?_
     obtain ⟨y69, hy69, h⟩ := bind_some h
     refine rc 2 [4] hs ?_; intro K68 hK68
     refine Zad _ (Za4 w0 n _ _ _ a0.fields 184 [.box (B.length + 1) 0] (fun (x0 : Int × ByteArray × Int × Ty × List Vl) => ZhW n x0 a1) (fun x0 r hx B' rows' hB' hR' => by exact ZnL w0 n _ _ _ x0 _ a1 (ZbC hB' (ef hs)) _ hx) _ hy69) (hv hs) ?_
     refine ne hs hK68 ?_
     clear hK68
     exact rt h hs hcalm hO
   have hb46 := hs.1
   refine sk [] hs hK8 ?_
   exact ⟨([]), Rk11, ef hs, ef hs, hO, h⟩
 ·
  clear h; rintro e st ⟨Xk7, Rk7, rfl, rfl, hO, h⟩
  rw [Zk3] at h
  refine td hN hNR hNL hcalm hO ?_
  refine rg [4] hs ?_
  exact rt h hs hcalm hO
theorem ZmQ (w0 : World) : ∀ n : Nat, Zmk w0 (Zk4 n)
 | 0 => fun _ _ _ _ _ _ h => (nomatch h)
 | n + 1 => Zns w0 (Zk4 n) (ZmQ w0 n) n
def ZeJ (a0 : Vl) : Bool :=
 (((((decide (a0.kind = 0)) && (decide (a0.int = 0))) && (decide (a0.scale = 0))) && (sEq a0.text ((⟨#[]⟩ : ByteArray)))) && (decide (((a0.list.length : Int)) = 0))) && (decide (((a0.fields.length : Int)) = 0))
theorem Zmi (w0 : World) (B : List (List AV)) (Rw : List RowA) (L : List LoopA) (a0 : Vl) (r : Bool) (h : ZeJ a0 = r) :
  ACalls Tryz.prog w0 62 [.agg (a0.cs)] ⟨B, Rw, L⟩ fun x st => x = .val (.bool r) ∧ st = ⟨B, Rw, L⟩ := by
 rw [ZeJ] at h
 refine hd [.tmp 2] Tryz.func62 Tryz.ntmps62 fun M0 W0 hN hNR hNL hcalm hu hO hs => ?_
 simp only [Zal]
 refine rg [1] hs ?_
 refine rg [2] hs ?_
 apply Zaj; simp +decide only [go_sem, Nat.reduceAdd]
 subst h
 first | refine Zaz hcalm rfl hO.pre ev ⟨?_, rfl⟩ | refine Za5 hcalm rfl hO.pre ev ⟨?_, rfl⟩
 first | rfl | (simp +decide only [go_sem, Nat.reduceAdd]; done) | (simp +decide only [go_sem, Nat.reduceAdd, Vl.cs, Ty.cs]; done)
theorem ZgB (w0 : World) (B : List (List AV)) (Rw : List RowA) (L : List LoopA) (a0 : Vl) :
  ACalls Tryz.prog w0 62 [.agg (a0.cs)] ⟨B, Rw, L⟩ fun x st => x = .val (.bool (ZeJ a0)) ∧ st = ⟨B, Rw, L⟩ := Zmi w0 B Rw L a0 _ rfl
def Zbu (a0 : Int) (a1 : Int) (a2 : Int) : Int :=
 if (decide (a0 < a1)) || (decide (a2 < a0)) then
  2
 else
  0
theorem Zlb (w0 : World) (B : List (List AV)) (Rw : List RowA) (L : List LoopA) (a0 : Int) (a1 : Int) (a2 : Int) (r : Int) (h : Zbu a0 a1 a2 = r) :
  ACalls Tryz.prog w0 109 [.val (.int .i64 a0), .val (.int .i64 a1), .val (.int .i64 a2)] ⟨B, Rw, L⟩ fun x st => x = .val (.int .i64 r) ∧ st = ⟨B, Rw, L⟩ := by
 rw [Zbu] at h
 refine hd [.tmp 6] Tryz.func109 Tryz.ntmps109 fun M0 W0 hN hNR hNL hcalm hu hO hs => ?_
 simp only [Zal]
 refine rg [0, 1, 2] hs ?_
 apply Zac; intro K2 hK2
 refine rg [14] hs ?_
 refine cnd h hs (fun hs h => ?_) (fun hs h => ?_)
 ·
  have hb4 := hs.1
  refine rg [6] hs ?_
  apply Zaj; simp +decide only [go_sem, Nat.reduceAdd, hb4]
  subst h
  first | refine Zaz hcalm rfl hO.pre ev ⟨?_, rfl⟩ | refine Za5 hcalm rfl hO.pre ev ⟨?_, rfl⟩
  first | rfl | (simp +decide only [go_sem, Nat.reduceAdd, hb4]; done) | (simp +decide only [go_sem, Nat.reduceAdd, Vl.cs, Ty.cs, hb4]; done)
 have hb4 := hs.1
 refine sk [] hs hK2 ?_
 clear hK2
 refine rg [6] hs ?_
 apply Zaj; simp +decide only [go_sem, Nat.reduceAdd, hb4]
 subst h
 first | refine Zaz hcalm rfl hO.pre ev ⟨?_, rfl⟩ | refine Za5 hcalm rfl hO.pre ev ⟨?_, rfl⟩
 first | rfl | (simp +decide only [go_sem, Nat.reduceAdd, hb4]; done) | (simp +decide only [go_sem, Nat.reduceAdd, Vl.cs, Ty.cs, hb4]; done)
theorem ZcT (w0 : World) (B : List (List AV)) (Rw : List RowA) (L : List LoopA) (a0 : Int) (a1 : Int) (a2 : Int) :
  ACalls Tryz.prog w0 109 [.val (.int .i64 a0), .val (.int .i64 a1), .val (.int .i64 a2)] ⟨B, Rw, L⟩ fun x st => x = .val (.int .i64 (Zbu a0 a1 a2)) ∧ st = ⟨B, Rw, L⟩ := Zlb w0 B Rw L a0 a1 a2 _ rfl
def ZdK (a0 : Vl) : Int :=
 Zbu a0.int 0 1
theorem ZlP (w0 : World) (B : List (List AV)) (Rw : List RowA) (L : List LoopA) (a0 : Vl) (r : Int) (h : ZdK a0 = r) :
  ACalls Tryz.prog w0 108 [.agg (a0.cs)] ⟨B, Rw, L⟩ fun x st => x = .val (.int .i64 r) ∧ st = ⟨B, Rw, L⟩ := by
 rw [ZdK] at h
 refine hd [.tmp 2] Tryz.func108 Tryz.ntmps108 fun M0 W0 hN hNR hNL hcalm hu hO hs => ?_
 simp only [Zal]
 refine rg [1] hs ?_
 refine rc 2 [2] hs ?_; intro K2 hK2
 refine Zad _ (ZcT w0 _ _ _ a0.int 0 1) (hv hs) ?_
 refine ne hs hK2 ?_
 clear hK2
 apply Zaj; simp +decide only [go_sem, Nat.reduceAdd]
 subst h
 first | refine Zaz hcalm rfl hO.pre ev ⟨?_, rfl⟩ | refine Za5 hcalm rfl hO.pre ev ⟨?_, rfl⟩
 first | rfl | (simp +decide only [go_sem, Nat.reduceAdd]; done) | (simp +decide only [go_sem, Nat.reduceAdd, Vl.cs, Ty.cs]; done)
theorem Zkw (w0 : World) (B : List (List AV)) (Rw : List RowA) (L : List LoopA) (a0 : Vl) :
  ACalls Tryz.prog w0 108 [.agg (a0.cs)] ⟨B, Rw, L⟩ fun x st => x = .val (.int .i64 (ZdK a0)) ∧ st = ⟨B, Rw, L⟩ := ZlP w0 B Rw L a0 _ rfl
def ZcF (a0 : Int) (a1 : Int) (a2 : Int) : Int :=
 if decide (a1 < a0) then
  a2
 else
  0
theorem ZoX (w0 : World) (B : List (List AV)) (Rw : List RowA) (L : List LoopA) (a0 : Int) (a1 : Int) (a2 : Int) (r : Int) (h : ZcF a0 a1 a2 = r) :
  ACalls Tryz.prog w0 114 [.val (.int .i64 a0), .val (.int .i64 a1), .val (.int .i64 a2)] ⟨B, Rw, L⟩ fun x st => x = .val (.int .i64 r) ∧ st = ⟨B, Rw, L⟩ := by
 rw [ZcF] at h
 refine hd [.tmp 6] Tryz.func114 Tryz.ntmps114 fun M0 W0 hN hNR hNL hcalm hu hO hs => ?_
 simp only [Zal]
 refine rg [0, 1, 2] hs ?_
 apply Zac; intro K2 hK2
 refine rg [2, 9] hs ?_
 refine cnd h hs (fun hs h => ?_) (fun hs h => ?_)
 ·
  have hb4 := hs.1
  refine rg [6] hs ?_
  apply Zaj; simp +decide only [go_sem, Nat.reduceAdd, hb4]
  subst h
  first | refine Zaz hcalm rfl hO.pre ev ⟨?_, rfl⟩ | refine Za5 hcalm rfl hO.pre ev ⟨?_, rfl⟩
  first | rfl | (simp +decide only [go_sem, Nat.reduceAdd, hb4]; done) | (simp +decide only [go_sem, Nat.reduceAdd, Vl.cs, Ty.cs, hb4]; done)
 have hb4 := hs.1
 refine sk [] hs hK2 ?_
 clear hK2
 refine rg [6] hs ?_
 apply Zaj; simp +decide only [go_sem, Nat.reduceAdd, hb4]
 subst h
 first | refine Zaz hcalm rfl hO.pre ev ⟨?_, rfl⟩ | refine Za5 hcalm rfl hO.pre ev ⟨?_, rfl⟩
 first | rfl | (simp +decide only [go_sem, Nat.reduceAdd, hb4]; done) | (simp +decide only [go_sem, Nat.reduceAdd, Vl.cs, Ty.cs, hb4]; done)
theorem Zfn (w0 : World) (B : List (List AV)) (Rw : List RowA) (L : List LoopA) (a0 : Int) (a1 : Int) (a2 : Int) :
  ACalls Tryz.prog w0 114 [.val (.int .i64 a0), .val (.int .i64 a1), .val (.int .i64 a2)] ⟨B, Rw, L⟩ fun x st => x = .val (.int .i64 (ZcF a0 a1 a2)) ∧ st = ⟨B, Rw, L⟩ := ZoX w0 B Rw L a0 a1 a2 _ rfl
def ZgF (a0 : Vl) : Option Int :=
 if a0.text.size ≤ maxLen then
  if !(Zln a0.text) then
   some (12)
  else
   if decide (((a0.list.length : Int)) = 0) then
    some (4)
   else
    some (ZcF ((a0.list.length : Int)) 1 3)
 else none
theorem ZkP (w0 : World) (B : List (List AV)) (Rw : List RowA) (L : List LoopA) (a0 : Vl) (r : Int) (h : ZgF a0 = some r) :
  ACalls Tryz.prog w0 121 [.agg (a0.cs)] ⟨B, Rw, L⟩ fun x st => x = .val (.int .i64 r) ∧ st = ⟨B, Rw, L⟩ := by
 rw [ZgF] at h
 refine hd [.tmp 2] Tryz.func121 Tryz.ntmps121 fun M0 W0 hN hNR hNL hcalm hu hO hs => ?_
 simp only [Zal]
 refine rg [1] hs ?_
 apply Zac; intro K2 hK2
 apply Zaf
 obtain ⟨hg4, h⟩ := Zae h
 refine rc 2 [1, 3] hs ?_; intro K3 hK3
 refine Zad _ (Zi4 w0 _ _ _ a0.text hg4) (hv hs) ?_
 refine ne hs hK3 ?_
 clear hK3
 refine cnd h hs (fun hs h => ?_) (fun hs h => ?_)
 ·
  refine rg [2] hs ?_
  exact rt h hs hcalm hO
 refine rg [1, 8] hs ?_
 refine cnd h hs (fun hs h => ?_) (fun hs h => ?_)
 ·
  refine rg [2] hs ?_
  exact rt h hs hcalm hO
 refine sk [1] hs hK2 ?_
 clear hK2
 refine rc 2 [2] hs ?_; intro K10 hK10
 refine Zad _ (Zfn w0 _ _ _ ((a0.list.length : Int)) 1 3) (hv hs) ?_
 refine ne hs hK10 ?_
 clear hK10
 exact rt h hs hcalm hO
def ZdW (a0 : Vl) : Int :=
 Zbu a0.int ((-999999999999999)) 999999999999999
theorem Zlq (w0 : World) (B : List (List AV)) (Rw : List RowA) (L : List LoopA) (a0 : Vl) (r : Int) (h : ZdW a0 = r) :
  ACalls Tryz.prog w0 110 [.agg (a0.cs)] ⟨B, Rw, L⟩ fun x st => x = .val (.int .i64 r) ∧ st = ⟨B, Rw, L⟩ := by
 rw [ZdW] at h
 refine hd [.tmp 2] Tryz.func110 Tryz.ntmps110 fun M0 W0 hN hNR hNL hcalm hu hO hs => ?_
 simp only [Zal]
 refine rg [1] hs ?_
 refine rc 2 [2] hs ?_; intro K2 hK2
 refine Zad _ (ZcT w0 _ _ _ a0.int ((-999999999999999)) 999999999999999) (hv hs) ?_
 refine ne hs hK2 ?_
 clear hK2
 apply Zaj; simp +decide only [go_sem, Nat.reduceAdd]
 subst h
 first | refine Zaz hcalm rfl hO.pre ev ⟨?_, rfl⟩ | refine Za5 hcalm rfl hO.pre ev ⟨?_, rfl⟩
 first | rfl | (simp +decide only [go_sem, Nat.reduceAdd]; done) | (simp +decide only [go_sem, Nat.reduceAdd, Vl.cs, Ty.cs]; done)
theorem ZkJ (w0 : World) (B : List (List AV)) (Rw : List RowA) (L : List LoopA) (a0 : Vl) :
  ACalls Tryz.prog w0 110 [.agg (a0.cs)] ⟨B, Rw, L⟩ fun x st => x = .val (.int .i64 (ZdW a0)) ∧ st = ⟨B, Rw, L⟩ := Zlq w0 B Rw L a0 _ rfl
def Zio (n : Nat)  : Option Int :=
 some (0)
def ZgR (n : Nat) (a0 : List Int) : Nat → Int → Option Int
 | 0, _ => none
 | m + 1, x7_l6 =>
  if decide (x7_l6 < ((a0.length : Int))) then
   (idx a0 x7_l6).bind fun x12 =>
   if !(decide (x12 = 0)) then
    some (x12)
   else
    if I64 (x7_l6 + 1) then
     (ZgR n a0 m) (x7_l6 + 1)
    else none
  else
   Zio n 
def Zjk (n : Nat) (a0 : List Int) : Option Int :=
 ZgR n a0 n 0
theorem ZnS (w0 : World) (n : Nat) (B : List (List AV)) (Rw : List RowA) (L : List LoopA) (a0 : List Int) (r : Int) (h : Zjk n a0 = some r) :
  ACalls Tryz.prog w0 112 [.list (a0.map avI) .none] ⟨B, Rw, L⟩ fun x st => x = .val (.int .i64 r) ∧ st = ⟨B, Rw, L⟩ := by
 rw [Zjk] at h
 refine hd [.tmp 2] Tryz.func112 Tryz.ntmps112 fun M0 W0 hN hNR hNL hcalm hu hO hs => ?_
 simp only [Zal]
 refine rg [0] hs ?_
 refine Zak (fun e st => Ck e st B Rw L [] [] [] (Zio n  = some r)) ?_ ?_
 ·
  intro K4 hK4
  refine rg [5, 6, 7] hs ?_
  apply Zaf
  refine Zap (fun m e st => ∃ (x7_l6 : Int), Ck e st B Rw L [(5, true, .list (a0.map avI) .none), (6, true, .val (.int .i64 ((a0.length : Int)))), (7, true, .val (.int .i64 x7_l6))] [] [] (ZgR n a0 m x7_l6 = some r)) n ⟨0, ([]), Rw, ef hs, ef hs, hO, h⟩ ?_
  rintro ml6 e st ⟨x7_l6, Xl6, Rl6, rfl, rfl, hO, h⟩ Ul6 Vl6
  cases ml6 with
  | zero => cases h
  | succ ml6 =>
  rw [ZgR] at h
  refine td hN hNR hNL hcalm hO ?_
  refine rg [5, 6, 7, 8] hs ?_
  apply Zac; intro K8 hK8
  refine cnd h hs (fun hs h => ?_) (fun hs h => ?_)
  rotate_left
  ·
   refine sx [] hs hK4 ?_
   exact ⟨([]), Rl6, ef hs, ef hs, hO, h⟩
  refine sk [5, 6, 7] hs hK8 ?_
  clear hK8
  apply Zac; intro K10 hK10
  apply Zaf
  obtain ⟨x12, hx12, h⟩ := bind_some h
  obtain ⟨hx12a, hx12b, hx12c⟩ := Zam hx12
  have hx12d := Zao (f := avI) hx12c
  have hs := And.intro hx12d hs
  refine rg [4, 5, 6, 7] hs ?_
  refine rg [4, 5, 6, 7, 12] hs ?_
  refine cnd h hs (fun hs h => ?_) (fun hs h => ?_)
  ·
   refine rg [2] hs ?_
   exact rt h hs hcalm hO
  refine sk [5, 6, 7] hs hK10 ?_
  clear hK10
  obtain ⟨hg16, h⟩ := Zae h
  refine rl [5, 6, 7] hs (fun e s => Vl6 ml6 e s (Nat.lt_succ_self _)) ?_
  exact ⟨(x7_l6 + 1), ([]), Rl6, ef hs, ef hs, hO, h⟩
 ·
  clear h; rintro e st ⟨Xk3, Rk3, rfl, rfl, hO, h⟩
  rw [Zio] at h
  refine td hN hNR hNL hcalm hO ?_
  refine rg [2] hs ?_
  exact rt h hs hcalm hO
def Zhg (n : Nat) (a0 : Vl) : Option Int :=
 (Zjk n ([Zbu a0.int ((-999999999999999)) 999999999999999, Zbu a0.scale 0 12])).bind fun y3 =>
 some (y3)
theorem Zl8 (w0 : World) (n : Nat) (B : List (List AV)) (Rw : List RowA) (L : List LoopA) (a0 : Vl) (r : Int) (h : Zhg n a0 = some r) :
  ACalls Tryz.prog w0 111 [.agg (a0.cs)] ⟨B, Rw, L⟩ fun x st => x = .val (.int .i64 r) ∧ st = ⟨B, Rw, L⟩ := by
 rw [Zhg] at h
 refine hd [.tmp 2] Tryz.func111 Tryz.ntmps111 fun M0 W0 hN hNR hNL hcalm hu hO hs => ?_
 simp only [Zal]
 refine rg [1] hs ?_
 apply Zac; intro K2 hK2
 obtain ⟨y3, hy3, h⟩ := bind_some h
 apply Zaw mix 9 4 1 [2] (by kernel_rfl)
 rw [Zaa]; simp +decide only [go_sem, Nat.reduceAdd]
 (repeat' apply And.intro) <;> first | refine Zad _ (ZcT w0 _ _ _ a0.int ((-999999999999999)) 999999999999999) (hv hs) ?_ | exact cl
 rw [Zaa]; simp +decide only [go_sem, Nat.reduceAdd]
 (repeat' apply And.intro) <;> first | refine Zad _ (ZcT w0 _ _ _ a0.scale 0 12) (hv hs) ?_ | exact cl
 rw [Zaa]; simp +decide only [go_sem, Nat.reduceAdd]
 (repeat' apply And.intro) <;> first | refine Zad _ (ZnS w0 n _ _ _ ([Zbu a0.int ((-999999999999999)) 999999999999999, Zbu a0.scale 0 12]) _ hy3) (hv hs) ?_ | exact cl
 rw [Zaa]; simp +decide only [go_sem, Nat.reduceAdd]
 (repeat' with_reducible apply And.intro) <;> first | (rw [Zaa]; simp +decide only [go_sem, Nat.reduceAdd]) | exact cl
 (repeat' apply And.intro) <;> first | refine hK2 _ _ ?_ | exact cl
 clear hK2
 exact rt h hs hcalm hO
def Zec  (x3_k4 : Int) : Option Int :=
 some (x3_k4)
def Zhl (a0 : Vl) : Option Int :=
 if decide ((ZcF ((a0.text.size : Int)) 1024 5) = 0) then
  if a0.text.size ≤ maxLen then
   if !(Lib.validD a0.text.data.toList) then
    Zec  16
   else
    Zec  (ZcF ((a0.text.size : Int)) 1024 5)
  else none
 else
  Zec  (ZcF ((a0.text.size : Int)) 1024 5)
theorem Zme (w0 : World) (hT : Lib.Utf8Tabs 0 1 w0) (B : List (List AV)) (Rw : List RowA) (L : List LoopA) (a0 : Vl) (r : Int) (h : Zhl a0 = some r) :
  ACalls Tryz.prog w0 113 [.agg (a0.cs)] ⟨B, Rw, L⟩ fun x st => x = .val (.int .i64 r) ∧ st = ⟨B, Rw, L⟩ := by
 rw [Zhl] at h
 refine hd [.tmp 2] Tryz.func113 Tryz.ntmps113 fun M0 W0 hN hNR hNL hcalm hu hO hs => ?_
 simp only [Zal]
 refine rg [1] hs ?_
 refine rc 2 [1, 3] hs ?_; intro K2 hK2
 refine Zad _ (Zfn w0 _ _ _ ((a0.text.size : Int)) 1024 5) (hv hs) ?_
 refine ne hs hK2 ?_
 clear hK2
 refine Zak (fun e st => ∃ (x3_k4 : Int), Ck e st B Rw L [(3, true, .val (.int .i64 x3_k4))] [a0.cs] [] (Zec  x3_k4 = some r)) ?_ ?_
 ·
  intro K5 hK5
  apply Zac; intro K6 hK6
  rcases Bool.eq_false_or_eq_true (decide ((ZcF ((a0.text.size : Int)) 1024 5) = 0)) with hf7 | hf7
  ·
   replace h := ZaC h hf7
   obtain ⟨hg8, h⟩ := Zae h
   have hs := And.intro hf7 hs
   refine rk 2 [3, 15] hs ?_
   refine Zad _ (Zkq w0 _ _ _ hT a0.text hg8) (hv hs) ?_
   refine ne hs hK6 ?_
   clear hK6
   refine cnd h hs (fun hs h => ?_) (fun hs h => ?_)
   ·
    refine rl [3] hs hK5 ?_
    exact ⟨16, ([]), Rw, ef hs, ef hs, hO, h⟩
   refine sk [3] hs hK5 ?_
   exact ⟨(ZcF ((a0.text.size : Int)) 1024 5), ([]), Rw, ef hs, ef hs, hO, h⟩
  ·
   replace h := ZaD h hf7
   apply Zab 2 [3, 15]
   rw [Zaa]; simp +decide only [go_sem, Nat.reduceAdd, hf7]
   (repeat' apply And.intro) <;> first | refine ZaB ?_ | exact cl
   rw [Zaa]; simp +decide only [go_sem, Nat.reduceAdd, hf7]
   (repeat' apply And.intro) <;> first | refine hK6 _ _ ?_ | exact cl
   clear hK6
   have hs := And.intro hf7 hs
   refine Zav false ev (ef hs) (fun hb10 => by cases hb10) (fun hb10 => ?_)
   refine sk [3] hs hK5 ?_
   exact ⟨(ZcF ((a0.text.size : Int)) 1024 5), ([]), Rw, ef hs, ef hs, hO, h⟩
 ·
  clear h; rintro e st ⟨x3_k4, Xk4, Rk4, rfl, rfl, hO, h⟩
  rw [Zec] at h
  refine td hN hNR hNL hcalm hO ?_
  refine rg [2] hs ?_
  exact rt h hs hcalm hO
def ZdT (a0 : Vl) : Int :=
 ZcF ((a0.text.size : Int)) 1024 5
theorem Zlv (w0 : World) (B : List (List AV)) (Rw : List RowA) (L : List LoopA) (a0 : Vl) (r : Int) (h : ZdT a0 = r) :
  ACalls Tryz.prog w0 116 [.agg (a0.cs)] ⟨B, Rw, L⟩ fun x st => x = .val (.int .i64 r) ∧ st = ⟨B, Rw, L⟩ := by
 rw [ZdT] at h
 refine hd [.tmp 2] Tryz.func116 Tryz.ntmps116 fun M0 W0 hN hNR hNL hcalm hu hO hs => ?_
 simp only [Zal]
 refine rg [1] hs ?_
 refine rc 2 [2] hs ?_; intro K2 hK2
 refine Zad _ (Zfn w0 _ _ _ ((a0.text.size : Int)) 1024 5) (hv hs) ?_
 refine ne hs hK2 ?_
 clear hK2
 apply Zaj; simp +decide only [go_sem, Nat.reduceAdd]
 subst h
 first | refine Zaz hcalm rfl hO.pre ev ⟨?_, rfl⟩ | refine Za5 hcalm rfl hO.pre ev ⟨?_, rfl⟩
 first | rfl | (simp +decide only [go_sem, Nat.reduceAdd]; done) | (simp +decide only [go_sem, Nat.reduceAdd, Vl.cs, Ty.cs]; done)
theorem ZkI (w0 : World) (B : List (List AV)) (Rw : List RowA) (L : List LoopA) (a0 : Vl) :
  ACalls Tryz.prog w0 116 [.agg (a0.cs)] ⟨B, Rw, L⟩ fun x st => x = .val (.int .i64 (ZdT a0)) ∧ st = ⟨B, Rw, L⟩ := Zlv w0 B Rw L a0 _ rfl
def Zd0 (a0 : Vl) : Int :=
 Zbu a0.int ((-719162)) 2932896
theorem ZlS (w0 : World) (B : List (List AV)) (Rw : List RowA) (L : List LoopA) (a0 : Vl) (r : Int) (h : Zd0 a0 = r) :
  ACalls Tryz.prog w0 117 [.agg (a0.cs)] ⟨B, Rw, L⟩ fun x st => x = .val (.int .i64 r) ∧ st = ⟨B, Rw, L⟩ := by
 rw [Zd0] at h
 refine hd [.tmp 2] Tryz.func117 Tryz.ntmps117 fun M0 W0 hN hNR hNL hcalm hu hO hs => ?_
 simp only [Zal]
 refine rg [1] hs ?_
 refine rc 2 [2] hs ?_; intro K2 hK2
 refine Zad _ (ZcT w0 _ _ _ a0.int ((-719162)) 2932896) (hv hs) ?_
 refine ne hs hK2 ?_
 clear hK2
 apply Zaj; simp +decide only [go_sem, Nat.reduceAdd]
 subst h
 first | refine Zaz hcalm rfl hO.pre ev ⟨?_, rfl⟩ | refine Za5 hcalm rfl hO.pre ev ⟨?_, rfl⟩
 first | rfl | (simp +decide only [go_sem, Nat.reduceAdd]; done) | (simp +decide only [go_sem, Nat.reduceAdd, Vl.cs, Ty.cs]; done)
theorem ZkX (w0 : World) (B : List (List AV)) (Rw : List RowA) (L : List LoopA) (a0 : Vl) :
  ACalls Tryz.prog w0 117 [.agg (a0.cs)] ⟨B, Rw, L⟩ fun x st => x = .val (.int .i64 (Zd0 a0)) ∧ st = ⟨B, Rw, L⟩ := ZlS w0 B Rw L a0 _ rfl
def ZdV (a0 : Vl) : Int :=
 Zbu a0.int ((-62135596800000)) 253402300799999
theorem ZlC (w0 : World) (B : List (List AV)) (Rw : List RowA) (L : List LoopA) (a0 : Vl) (r : Int) (h : ZdV a0 = r) :
  ACalls Tryz.prog w0 118 [.agg (a0.cs)] ⟨B, Rw, L⟩ fun x st => x = .val (.int .i64 r) ∧ st = ⟨B, Rw, L⟩ := by
 rw [ZdV] at h
 refine hd [.tmp 2] Tryz.func118 Tryz.ntmps118 fun M0 W0 hN hNR hNL hcalm hu hO hs => ?_
 simp only [Zal]
 refine rg [1] hs ?_
 refine rc 2 [2] hs ?_; intro K2 hK2
 refine Zad _ (ZcT w0 _ _ _ a0.int ((-62135596800000)) 253402300799999) (hv hs) ?_
 refine ne hs hK2 ?_
 clear hK2
 apply Zaj; simp +decide only [go_sem, Nat.reduceAdd]
 subst h
 first | refine Zaz hcalm rfl hO.pre ev ⟨?_, rfl⟩ | refine Za5 hcalm rfl hO.pre ev ⟨?_, rfl⟩
 first | rfl | (simp +decide only [go_sem, Nat.reduceAdd]; done) | (simp +decide only [go_sem, Nat.reduceAdd, Vl.cs, Ty.cs]; done)
theorem ZkF (w0 : World) (B : List (List AV)) (Rw : List RowA) (L : List LoopA) (a0 : Vl) :
  ACalls Tryz.prog w0 118 [.agg (a0.cs)] ⟨B, Rw, L⟩ fun x st => x = .val (.int .i64 (ZdV a0)) ∧ st = ⟨B, Rw, L⟩ := ZlC w0 B Rw L a0 _ rfl
def ZdL (a0 : Vl) : Int :=
 ZcF ((a0.list.length : Int)) 256 9
theorem Zl0 (w0 : World) (B : List (List AV)) (Rw : List RowA) (L : List LoopA) (a0 : Vl) (r : Int) (h : ZdL a0 = r) :
  ACalls Tryz.prog w0 119 [.agg (a0.cs)] ⟨B, Rw, L⟩ fun x st => x = .val (.int .i64 r) ∧ st = ⟨B, Rw, L⟩ := by
 rw [ZdL] at h
 refine hd [.tmp 2] Tryz.func119 Tryz.ntmps119 fun M0 W0 hN hNR hNL hcalm hu hO hs => ?_
 simp only [Zal]
 refine rg [1] hs ?_
 refine rc 2 [2] hs ?_; intro K2 hK2
 refine Zad _ (Zfn w0 _ _ _ ((a0.list.length : Int)) 256 9) (hv hs) ?_
 refine ne hs hK2 ?_
 clear hK2
 apply Zaj; simp +decide only [go_sem, Nat.reduceAdd]
 subst h
 first | refine Zaz hcalm rfl hO.pre ev ⟨?_, rfl⟩ | refine Za5 hcalm rfl hO.pre ev ⟨?_, rfl⟩
 first | rfl | (simp +decide only [go_sem, Nat.reduceAdd]; done) | (simp +decide only [go_sem, Nat.reduceAdd, Vl.cs, Ty.cs]; done)
theorem ZkS (w0 : World) (B : List (List AV)) (Rw : List RowA) (L : List LoopA) (a0 : Vl) :
  ACalls Tryz.prog w0 119 [.agg (a0.cs)] ⟨B, Rw, L⟩ fun x st => x = .val (.int .i64 (ZdL a0)) ∧ st = ⟨B, Rw, L⟩ := Zl0 w0 B Rw L a0 _ rfl
def Zgs (n : Nat)  : Option Int :=
 some (0)
def ZdF (n : Nat) (a0 : Vl) : Nat → Int → Option Int
 | 0, _ => none
 | m + 1, x16_l11 =>
  if decide (x16_l11 < ((a0.fields.length : Int))) then
   (idx a0.fields x16_l11).bind fun x17 =>
   if x17.1.size ≤ maxLen then
    if !(Zln x17.1) then
     some (12)
    else
     if decide (0 < x16_l11) then
      if I64 (x16_l11 - 1) then
       (idx a0.fields (x16_l11 - 1)).bind fun x25 =>
       if sEq x17.1 x25.1 then
        some (7)
       else
        if I64 (x16_l11 - 1) then
         if sLt x17.1 x25.1 then
          some (24)
         else
          if I64 (x16_l11 + 1) then
           (ZdF n a0 m) (x16_l11 + 1)
          else none
        else none
      else none
     else
      if I64 (x16_l11 + 1) then
       (ZdF n a0 m) (x16_l11 + 1)
      else none
   else none
  else
   Zgs n 
def Zhe (n : Nat) (a0 : Vl) : Option Int :=
 if !(decide ((ZcF ((a0.fields.length : Int)) 64 9) = 0)) then
  some (ZcF ((a0.fields.length : Int)) 64 9)
 else
  ZdF n a0 n 0
theorem Zlc (w0 : World) (n : Nat) (B : List (List AV)) (Rw : List RowA) (L : List LoopA) (a0 : Vl) (r : Int) (h : Zhe n a0 = some r) :
  ACalls Tryz.prog w0 120 [.agg (a0.cs)] ⟨B, Rw, L⟩ fun x st => x = .val (.int .i64 r) ∧ st = ⟨B, Rw, L⟩ := by
 rw [Zhe] at h
 refine hd [.tmp 2] Tryz.func120 Tryz.ntmps120 fun M0 W0 hN hNR hNL hcalm hu hO hs => ?_
 simp only [Zal]
 refine rg [1] hs ?_
 apply Zac; intro K2 hK2
 refine rc 2 [1, 3] hs ?_; intro K3 hK3
 refine Zad _ (Zfn w0 _ _ _ ((a0.fields.length : Int)) 64 9) (hv hs) ?_
 refine ne hs hK3 ?_
 clear hK3
 refine rg [1, 3, 11] hs ?_
 refine cnd h hs (fun hs h => ?_) (fun hs h => ?_)
 ·
  have hb5 := hs.1
  refine rg [2] hs ?_
  exact rt h hs hcalm hO
 have hb5 := hs.1
 refine sk [1] hs hK2 ?_
 clear hK2
 refine Zak (fun e st => Ck e st B Rw L [] [a0.cs] [] (Zgs n  = some r)) ?_ ?_
 ·
  intro K9 hK9
  refine rg [1, 14, 15, 16] hs ?_
  apply Zaf
  refine Zap (fun m e st => ∃ (x16_l11 : Int), Ck e st B Rw L [(1, true, .box B.length 0), (14, true, .list (a0.fields.map avF) .none), (15, true, .val (.int .i64 ((a0.fields.length : Int)))), (16, true, .val (.int .i64 x16_l11))] [a0.cs] [] (ZdF n a0 m x16_l11 = some r)) n ⟨0, ([]), Rw, ef hs, ef hs, hO, h⟩ ?_
  rintro ml11 e st ⟨x16_l11, Xl11, Rl11, rfl, rfl, hO, h⟩ Ul11 Vl11
  cases ml11 with
  | zero => cases h
  | succ ml11 =>
  rw [ZdF] at h
  refine td hN hNR hNL hcalm hO ?_
  refine rg [1, 14, 15, 16, 17] hs ?_
  apply Zac; intro K13 hK13
  refine cnd h hs (fun hs h => ?_) (fun hs h => ?_)
  rotate_left
  ·
   have hb14 := hs.1
   refine sx [] hs hK9 ?_
   exact ⟨([]), Rl11, ef hs, ef hs, hO, h⟩
  have hb14 := hs.1
  refine sk [1, 14, 15, 16] hs hK13 ?_
  clear hK13
  apply Zac; intro K15 hK15
  apply Zaf
  obtain ⟨x17, hx17, h⟩ := bind_some h
  obtain ⟨hx17a, hx17b, hx17c⟩ := Zam hx17
  have hx17d := Zao (f := avF) hx17c
  have hs := And.intro hx17d hs
  refine rg [1, 4, 5, 14, 15, 16] hs ?_
  apply Zaf
  obtain ⟨hg19, h⟩ := Zae h
  refine rc 2 [1, 4, 5, 14, 15, 16, 21] hs ?_; intro K18 hK18
  refine Zad _ (Zi4 w0 _ _ _ x17.1 hg19) (hv hs) ?_
  refine ne hs hK18 ?_
  clear hK18
  refine cnd h hs (fun hs h => ?_) (fun hs h => ?_)
  ·
   have hb20 := hs.1
   refine rg [2] hs ?_
   exact rt h hs hcalm hO
  have hb20 := hs.1
  apply Zac; intro K22 hK22
  rcases Bool.eq_false_or_eq_true (decide (0 < x16_l11)) with hf23 | hf23
  ·
   replace h := ZaC h hf23
   obtain ⟨hg24, h⟩ := Zae h
   obtain ⟨x25, hx25a, hx25b, hx25d, h⟩ := ix avF h
   apply Zaw mix 15 1 1 [1, 4, 5, 14, 15, 16, 26] (by kernel_rfl)
   rw [Zaa]; simp +decide only [go_sem, Nat.reduceAdd, hb5, hb14, hx17d, hb20, hf23, hx25d]
   (repeat' with_reducible apply And.intro) <;> first | (rw [Zaa]; simp +decide only [go_sem, Nat.reduceAdd, hb5, hb14, hx17d, hb20, hf23, hx25d]) | exact cl
   (repeat' apply And.intro) <;> first | refine hK22 _ _ ?_ | exact cl
   clear hK22
   have hs := And.intro hf23 hs
   have hs := And.intro hx25d hs
   refine cnd h hs (fun hs h => ?_) (fun hs h => ?_)
   ·
    refine rg [2] hs ?_
    exact rt h hs hcalm hO
   obtain ⟨hg29, h⟩ := Zae h
   refine dg 15 1 1 [1, 14, 15, 16, 41] hs mix ?_
   refine cnd h hs (fun hs h => ?_) (fun hs h => ?_)
   ·
    refine rg [2] hs ?_
    exact rt h hs hcalm hO
   refine sk [1, 14, 15, 16] hs hK15 ?_
   clear hK15
   obtain ⟨hg32, h⟩ := Zae h
   refine rl [1, 14, 15, 16] hs (fun e s => Vl11 ml11 e s (Nat.lt_succ_self _)) ?_
   exact ⟨(x16_l11 + 1), ([.val (.string x17.1) :: (x17.2.cs)]), Rl11, ef hs, ef hs, hO, h⟩
  ·
   replace h := ZaD h hf23
   apply Zaw mix 15 1 1 [1, 4, 5, 14, 15, 16, 26] (by kernel_rfl)
   rw [Zaa]; simp +decide only [go_sem, Nat.reduceAdd, hb5, hb14, hx17d, hb20, hf23]
   (repeat' with_reducible apply And.intro) <;> first | (rw [Zaa]; simp +decide only [go_sem, Nat.reduceAdd, hb5, hb14, hx17d, hb20, hf23]) | exact cl
   (repeat' apply And.intro) <;> first | refine hK22 _ _ ?_ | exact cl
   clear hK22
   have hs := And.intro hf23 hs
   refine Zav false ev (ef hs) (fun hb33 => by cases hb33) (fun hb33 => ?_)
   refine dg 15 1 1 [1, 14, 15, 16, 41] hs mix ?_
   refine Zav false ev (ef hs) (fun hb35 => by cases hb35) (fun hb35 => ?_)
   refine sk [1, 14, 15, 16] hs hK15 ?_
   clear hK15
   obtain ⟨hg36, h⟩ := Zae h
   refine rl [1, 14, 15, 16] hs (fun e s => Vl11 ml11 e s (Nat.lt_succ_self _)) ?_
   exact ⟨(x16_l11 + 1), ([.val (.string x17.1) :: (x17.2.cs)]), Rl11, ef hs, ef hs, hO, h⟩
 ·
  clear h; rintro e st ⟨Xk8, Rk8, rfl, rfl, hO, h⟩
  rw [Zgs] at h
  refine td hN hNR hNL hcalm hO ?_
  refine rg [2] hs ?_
  exact rt h hs hcalm hO
def ZiR (a0 : Vl) : Bool :=
 (((((((((decide (a0.kind = 1)) || (decide (a0.kind = 2))) || (decide (a0.kind = 6))) || (decide (a0.kind = 7))) || (decide (a0.kind = 3))) || (decide (a0.int = 0))) && ((decide (a0.kind = 3)) || (decide (a0.scale = 0)))) && ((((decide (a0.kind = 4)) || (decide (a0.kind = 5))) || (decide (a0.kind = 10))) || (sEq a0.text ((⟨#[]⟩ : ByteArray))))) && (((decide (a0.kind = 8)) || (decide (a0.kind = 10))) || (decide (((a0.list.length : Int)) = 0)))) && ((decide (a0.kind = 9)) || (decide (((a0.fields.length : Int)) = 0)))
theorem Zot (w0 : World) (B : List (List AV)) (Rw : List RowA) (L : List LoopA) (a0 : Vl) (r : Bool) (h : ZiR a0 = r) :
  ACalls Tryz.prog w0 63 [.agg (a0.cs)] ⟨B, Rw, L⟩ fun x st => x = .val (.bool r) ∧ st = ⟨B, Rw, L⟩ := by
 rw [ZiR] at h
 refine hd [.tmp 2] Tryz.func63 Tryz.ntmps63 fun M0 W0 hN hNR hNL hcalm hu hO hs => ?_
 simp only [Zal]
 refine rg [1] hs ?_
 refine rg [1, 3] hs ?_
 refine rg [1, 3, 4] hs ?_
 refine rg [1, 3, 4, 5] hs ?_
 apply Zac; intro K5 hK5
 apply Zab 1 [2]
 rw [Zaa]; simp +decide only [go_sem, Nat.reduceAdd, List.append_eq, List.cons_append, List.nil_append]
 (repeat' apply And.intro) <;> first | refine hK5 _ _ ?_ | exact cl
 clear hK5
 apply Zaj; simp +decide only [go_sem, Nat.reduceAdd]
 subst h
 first | refine Zaz hcalm rfl hO.pre ev ⟨?_, rfl⟩ | refine Za5 hcalm rfl hO.pre ev ⟨?_, rfl⟩
 first | rfl | (simp +decide only [go_sem, Nat.reduceAdd]; done) | (simp +decide only [go_sem, Nat.reduceAdd, Vl.cs, Ty.cs]; done)
theorem Znh (w0 : World) (B : List (List AV)) (Rw : List RowA) (L : List LoopA) (a0 : Vl) :
  ACalls Tryz.prog w0 63 [.agg (a0.cs)] ⟨B, Rw, L⟩ fun x st => x = .val (.bool (ZiR a0)) ∧ st = ⟨B, Rw, L⟩ := Zot w0 B Rw L a0 _ rfl
def Zbl (n : Nat)  : List (Nat × Vl) → Int → Option Int
 | [], b3_r7 =>
  some (0)
 | p_r7 :: rest, b3_r7 =>
  if I64 (b3_r7 + 1) then
   if decide (4096 < (b3_r7 + 1)) then
    some (9)
   else
    if decide (8 < ((p_r7.1 : Int))) then
     some (23)
    else
     if ZeJ p_r7.2 then
      some (19)
     else
      if (decide (p_r7.2.kind < 1)) || (decide (10 < p_r7.2.kind)) then
       some (11)
      else
       if !(ZiR p_r7.2) then
        some (3)
       else
        if decide (p_r7.2.kind = 0) then
         none
        else
         if decide (p_r7.2.kind = 1) then
          if !(decide ((ZdK p_r7.2) = 0)) then
           some (ZdK p_r7.2)
          else
           (Zbl n rest) (b3_r7 + 1)
         else
          if decide (p_r7.2.kind = 2) then
           if !(decide ((ZdW p_r7.2) = 0)) then
            some (ZdW p_r7.2)
           else
            (Zbl n rest) (b3_r7 + 1)
          else
           if decide (p_r7.2.kind = 3) then
            (Zhg n p_r7.2).bind fun y42 =>
            if !(decide (y42 = 0)) then
             some (y42)
            else
             (Zbl n rest) (b3_r7 + 1)
           else
            if decide (p_r7.2.kind = 4) then
             (Zhl p_r7.2).bind fun y48 =>
             if !(decide (y48 = 0)) then
              some (y48)
             else
              (Zbl n rest) (b3_r7 + 1)
            else
             if decide (p_r7.2.kind = 5) then
              if !(decide ((ZdT p_r7.2) = 0)) then
               some (ZdT p_r7.2)
              else
               (Zbl n rest) (b3_r7 + 1)
             else
              if decide (p_r7.2.kind = 6) then
               if !(decide ((Zd0 p_r7.2) = 0)) then
                some (Zd0 p_r7.2)
               else
                (Zbl n rest) (b3_r7 + 1)
              else
               if decide (p_r7.2.kind = 7) then
                if !(decide ((ZdV p_r7.2) = 0)) then
                 some (ZdV p_r7.2)
                else
                 (Zbl n rest) (b3_r7 + 1)
               else
                if decide (p_r7.2.kind = 8) then
                 if !(decide ((ZdL p_r7.2) = 0)) then
                  some (ZdL p_r7.2)
                 else
                  (Zbl n rest) (b3_r7 + 1)
                else
                 if decide (p_r7.2.kind = 9) then
                  (Zhe n p_r7.2).bind fun y74 =>
                  if !(decide (y74 = 0)) then
                   some (y74)
                  else
                   (Zbl n rest) (b3_r7 + 1)
                 else
                  if decide (p_r7.2.kind = 10) then
                   (ZgF p_r7.2).bind fun y80 =>
                   if !(decide (y80 = 0)) then
                    some (y80)
                   else
                    (Zbl n rest) (b3_r7 + 1)
                  else
                   none
  else none
def ZgJ (n : Nat) (a0 : Vl) : Option Int :=
 if a0.size < 4611686018427387904 ∧ a0.wide = true then
  Zbl n (Zh5 1 a0) 0
 else none
theorem ZgU (w0 : World) (hT : Lib.Utf8Tabs 0 1 w0) (n : Nat) (B : List (List AV)) (Rw : List RowA) (L : List LoopA) (a0 : Vl) (r : Int) (h : ZgJ n a0 = some r) :
  ACalls Tryz.prog w0 22 [.agg (a0.cs)] ⟨B, Rw, L⟩ fun x st => x = .val (.int .i64 r) ∧ st = ⟨B, Rw, L⟩ := by
 rw [ZgJ] at h
 refine hd [.cell 2 32] Tryz.func22 Tryz.ntmps22 fun M0 W0 hN hNR hNL hcalm hu hO hs => ?_
 simp only [Zal]
 refine rg [1, 2] hs ?_
 apply Zac; intro K2 hK2
 apply Zab 2 [1, 2, 3]
 rw [Zaa]; simp +decide only [go_sem, Nat.reduceAdd, Zlw]
 (repeat' apply And.intro) <;> first | refine Zad _ (ZpV w0 _ _ _ ) (by first | rfl | (simp +decide only [go_sem, Nat.reduceAdd, Zlw]; done) | (simp +decide only [go_sem, Nat.reduceAdd, Vl.cs, Ty.cs, Zlw]; done)) ?_ | exact cl
 rw [Zaa]; simp +decide only [go_sem, Nat.reduceAdd, Zlw]
 (repeat' apply And.intro) <;> first | refine hK2 _ _ ?_ | exact cl
 clear hK2
 refine rg [1, 2, 3, 4] hs ?_
 apply Zac; intro K4 hK4
 refine rc 2 [2, 3, 4, 10] hs ?_; intro K5 hK5
 refine ZaR _ (ZjE w0 _ _ _ a0) (hv hs) ?_; rintro _ _ ⟨rfl, rfl⟩
 refine ne hs hK5 ?_
 clear hK5
 apply Zaf
 obtain ⟨hg6, h⟩ := Zae h
 refine ZlX (Zf8 a0) (fun st => st.boxes[(B.length + 4)]? = some a0.cs) (fun i st => ∃ (b3_r7 : Int) (Rr7 : List RowA), st = ⟨B ++ ([a0.cs, [.val (.int .i64 0)], [.val .nilFunc, .clo 108 [], .clo 110 [], .clo 111 [], .clo 113 [], .clo 116 [], .clo 117 [], .clo 118 [], .clo 119 [], .clo 120 [], .clo 121 []], [.val (.int .i64 b3_r7)], a0.cs]), Rr7, L⟩ ∧ Owns Rw Rr7 [] ∧ Zbl n ((Zh5 1 a0).drop i) b3_r7 = some r) (fun ex st => ex = .ret ∧ ∃ (z0 : List AV) (z2 : List AV) (z3 : List AV) (z4 : List AV) (rows : List RowA), st = ⟨B ++ [z0, [.val (.int .i64 r)], z2, z3, z4], rows, L⟩ ∧ Owns Rw rows []) ev ev (ZhK w0 a0 hg6 _) (fun x hx => Zko a0 x hx) (by decide) ?_ ⟨0, Rw, ef hs, hO, h⟩ (fun _ _ h => .inl h.1) ?_ ?_ ?_
 ·
  rintro i st la ⟨b3_r7, Rr7, rfl, hO, h⟩ _ _; simp +decide [St.push]
 ·
  rintro i s1 ⟨XB, XR, XL⟩ x M1 W1 l la la' hX hI hlike hloops hx hra K hK
  obtain ⟨p_r7, hpi, rfl, hi⟩ := Zj7 a0 i x hx
  (try simp only at hX)
  subst hX
  obtain ⟨b3_r7, Rr7, rfl, hO, h⟩ := hI
  rw [ZmW hpi, Zbl] at h
  have hra0_r7 := hO
  simp only [St.ext, St.push, List.append_assoc, List.append_nil]
  refine rg [2, 3, 4, 5, 12] hs ?_
  apply Zab 1 [2, 3, 4, 5, 6]
  rw [Zaa]; simp +decide only [go_sem, Nat.reduceAdd]
  (repeat' apply And.intro) <;> first | refine hK _ _ (by simp [St.ext, St.push]) (fun KQ hKQ => ?_) | exact cl
  clear hK
  dsimp only [St.ext, St.push]
  apply Zaf
  obtain ⟨hg10, h⟩ := Zae h
  refine rg [2, 3, 4, 5, 6] hs ?_
  apply Zac; intro K11 hK11
  apply Zaf
  refine rg [2, 3, 5, 6, 15] hs ?_
  refine cnd h hs (fun hs h => ?_) (fun hs h => ?_)
  ·
   have hb13 := hs.1
   refine rg [2] hs ?_
   apply Zaj; simp +decide only [go_sem, Nat.reduceAdd, hb13]
   have hgt := Option.some.inj h; subst hgt
   refine hKQ _ _ _ ⟨⟨B ++ [a0.cs, [.val (.int .i64 9)], [.val .nilFunc, .clo 108 [], .clo 110 [], .clo 111 [], .clo 113 [], .clo 116 [], .clo 117 [], .clo 118 [], .clo 119 [], .clo 120 [], .clo 121 []], [.val (.int .i64 (b3_r7 + 1))], a0.cs], Rr7, L⟩, [p_r7.2.cs], by first | rfl | (simp only [List.append_assoc, List.append_nil, List.cons_append, List.nil_append]; done), ⟨by simp, by first | exact Nat.le_refl _ | (have := hO.len; simp; omega), rfl⟩, rfl, ⟨rfl, _, _, _, _, Rr7, ef hs, hO.sub (List.nil_sublist _)⟩, ?_⟩
   exact .inr (Zay hra hra0_r7 hO rfl (by have := hO.len; have := hra0_r7.len; first | exact Nat.le_refl _ | omega) (by simp only [List.append_assoc, List.cons_append, List.nil_append]) (by (simp +decide only [go_sem, Nat.reduceAdd]) <;> (try (repeat' apply And.intro)) <;> first | omega | assumption))
  have hb13 := hs.1
  refine rg [2, 3, 6, 18] hs ?_
  refine cnd h hs (fun hs h => ?_) (fun hs h => ?_)
  ·
   have hb16 := hs.1
   refine rg [2] hs ?_
   apply Zaj; simp +decide only [go_sem, Nat.reduceAdd, hb13, hb16]
   have hgt := Option.some.inj h; subst hgt
   refine hKQ _ _ _ ⟨⟨B ++ [a0.cs, [.val (.int .i64 23)], [.val .nilFunc, .clo 108 [], .clo 110 [], .clo 111 [], .clo 113 [], .clo 116 [], .clo 117 [], .clo 118 [], .clo 119 [], .clo 120 [], .clo 121 []], [.val (.int .i64 (b3_r7 + 1))], a0.cs], Rr7, L⟩, [p_r7.2.cs], by first | rfl | (simp only [List.append_assoc, List.append_nil, List.cons_append, List.nil_append]; done), ⟨by simp, by first | exact Nat.le_refl _ | (have := hO.len; simp; omega), rfl⟩, rfl, ⟨rfl, _, _, _, _, Rr7, ef hs, hO.sub (List.nil_sublist _)⟩, ?_⟩
   exact .inr (Zay hra hra0_r7 hO rfl (by have := hO.len; have := hra0_r7.len; first | exact Nat.le_refl _ | omega) (by simp only [List.append_assoc, List.cons_append, List.nil_append]) (by (simp +decide only [go_sem, Nat.reduceAdd]) <;> (try (repeat' apply And.intro)) <;> first | omega | assumption))
  have hb16 := hs.1
  refine rc 2 [2, 3, 6, 21] hs ?_; intro K18 hK18
  refine Zad _ (ZgB w0 _ _ _ p_r7.2) (hv hs) ?_
  refine ne hs hK18 ?_
  clear hK18
  refine cnd h hs (fun hs h => ?_) (fun hs h => ?_)
  ·
   have hb19 := hs.1
   refine rg [2] hs ?_
   apply Zaj; simp +decide only [go_sem, Nat.reduceAdd, hb13, hb16, hb19]
   have hgt := Option.some.inj h; subst hgt
   refine hKQ _ _ _ ⟨⟨B ++ [a0.cs, [.val (.int .i64 19)], [.val .nilFunc, .clo 108 [], .clo 110 [], .clo 111 [], .clo 113 [], .clo 116 [], .clo 117 [], .clo 118 [], .clo 119 [], .clo 120 [], .clo 121 []], [.val (.int .i64 (b3_r7 + 1))], a0.cs], Rr7, L⟩, [p_r7.2.cs], by first | rfl | (simp only [List.append_assoc, List.append_nil, List.cons_append, List.nil_append]; done), ⟨by simp, by first | exact Nat.le_refl _ | (have := hO.len; simp; omega), rfl⟩, rfl, ⟨rfl, _, _, _, _, Rr7, ef hs, hO.sub (List.nil_sublist _)⟩, ?_⟩
   exact .inr (Zay hra hra0_r7 hO rfl (by have := hO.len; have := hra0_r7.len; first | exact Nat.le_refl _ | omega) (by simp only [List.append_assoc, List.cons_append, List.nil_append]) (by (simp +decide only [go_sem, Nat.reduceAdd]) <;> (try (repeat' apply And.intro)) <;> first | omega | assumption))
  have hb19 := hs.1
  refine rg [2, 3, 6, 24] hs ?_
  refine cnd h hs (fun hs h => ?_) (fun hs h => ?_)
  ·
   have hb22 := hs.1
   refine rg [2] hs ?_
   apply Zaj; simp +decide only [go_sem, Nat.reduceAdd, hb13, hb16, hb19, hb22]
   have hgt := Option.some.inj h; subst hgt
   refine hKQ _ _ _ ⟨⟨B ++ [a0.cs, [.val (.int .i64 11)], [.val .nilFunc, .clo 108 [], .clo 110 [], .clo 111 [], .clo 113 [], .clo 116 [], .clo 117 [], .clo 118 [], .clo 119 [], .clo 120 [], .clo 121 []], [.val (.int .i64 (b3_r7 + 1))], a0.cs], Rr7, L⟩, [p_r7.2.cs], by first | rfl | (simp only [List.append_assoc, List.append_nil, List.cons_append, List.nil_append]; done), ⟨by simp, by first | exact Nat.le_refl _ | (have := hO.len; simp; omega), rfl⟩, rfl, ⟨rfl, _, _, _, _, Rr7, ef hs, hO.sub (List.nil_sublist _)⟩, ?_⟩
   exact .inr (Zay hra hra0_r7 hO rfl (by have := hO.len; have := hra0_r7.len; first | exact Nat.le_refl _ | omega) (by simp only [List.append_assoc, List.cons_append, List.nil_append]) (by (simp +decide only [go_sem, Nat.reduceAdd]) <;> (try (repeat' apply And.intro)) <;> first | omega | assumption))
  have hb22 := hs.1
  refine rc 2 [2, 3, 6, 33] hs ?_; intro K24 hK24
  refine Zad _ (Znh w0 _ _ _ p_r7.2) (hv hs) ?_
  refine ne hs hK24 ?_
  clear hK24
  refine cnd h hs (fun hs h => ?_) (fun hs h => ?_)
  ·
   have hb25 := hs.1
   refine rg [2] hs ?_
   apply Zaj; simp +decide only [go_sem, Nat.reduceAdd, hb13, hb16, hb19, hb22, hb25]
   have hgt := Option.some.inj h; subst hgt
   refine hKQ _ _ _ ⟨⟨B ++ [a0.cs, [.val (.int .i64 3)], [.val .nilFunc, .clo 108 [], .clo 110 [], .clo 111 [], .clo 113 [], .clo 116 [], .clo 117 [], .clo 118 [], .clo 119 [], .clo 120 [], .clo 121 []], [.val (.int .i64 (b3_r7 + 1))], a0.cs], Rr7, L⟩, [p_r7.2.cs], by first | rfl | (simp only [List.append_assoc, List.append_nil, List.cons_append, List.nil_append]; done), ⟨by simp, by first | exact Nat.le_refl _ | (have := hO.len; simp; omega), rfl⟩, rfl, ⟨rfl, _, _, _, _, Rr7, ef hs, hO.sub (List.nil_sublist _)⟩, ?_⟩
   exact .inr (Zay hra hra0_r7 hO rfl (by have := hO.len; have := hra0_r7.len; first | exact Nat.le_refl _ | omega) (by simp only [List.append_assoc, List.cons_append, List.nil_append]) (by (simp +decide only [go_sem, Nat.reduceAdd]) <;> (try (repeat' apply And.intro)) <;> first | omega | assumption))
  have hb25 := hs.1
  refine sk [2, 3, 6] hs hK11 ?_
  clear hK11
  apply Zac; intro K27 hK27
  rcases Bool.eq_false_or_eq_true (decide (p_r7.2.kind = 0)) with hf28 | hf28
  ·
   replace h := ZaC h hf28
   have hk29 : p_r7.2.kind = 0 := of_decide_eq_true hf28
   cases h
  ·
   replace h := ZaD h hf28
   rcases Bool.eq_false_or_eq_true (decide (p_r7.2.kind = 1)) with hf30 | hf30
   ·
    replace h := ZaC h hf30
    have hk31 : p_r7.2.kind = 1 := of_decide_eq_true hf30
    apply Zaw mix 7 2 1 [2, 7] (by kernel_rfl)
    rw [Zaa]; simp +decide only [go_sem, Nat.reduceAdd, hb13, hb16, hb19, hb22, hb25, hf28, hf30, hk31]
    have hs := And.intro hf28 hs
    have hs := And.intro hf30 hs
    have hs := And.intro hk31 hs
    (repeat' apply And.intro) <;> first | refine Zad _ (Zkw w0 _ _ _ p_r7.2) (hv hs) ?_ | exact cl
    rw [Zaa]; simp +decide only [go_sem, Nat.reduceAdd, hb13, hb16, hb19, hb22, hb25, hf28, hf30, hk31]
    (repeat' with_reducible apply And.intro) <;> first | (rw [Zaa]; simp +decide only [go_sem, Nat.reduceAdd, hb13, hb16, hb19, hb22, hb25, hf28, hf30, hk31]) | exact cl
    (repeat' apply And.intro) <;> first | refine hK27 _ _ ?_ | exact cl
    clear hK27
    refine rg [2, 7, 44] hs ?_
    refine cnd h hs (fun hs h => ?_) (fun hs h => ?_)
    ·
     have hb33 := hs.1
     refine rg [2] hs ?_
     apply Zaj; simp +decide only [go_sem, Nat.reduceAdd, hb13, hb16, hb19, hb22, hb25, hf28, hf30, hk31, hb33]
     have hgt := Option.some.inj h; subst hgt
     refine hKQ _ _ _ ⟨⟨B ++ [a0.cs, [.val (.int .i64 (ZdK p_r7.2))], [.val .nilFunc, .clo 108 [], .clo 110 [], .clo 111 [], .clo 113 [], .clo 116 [], .clo 117 [], .clo 118 [], .clo 119 [], .clo 120 [], .clo 121 []], [.val (.int .i64 (b3_r7 + 1))], a0.cs], Rr7, L⟩, [p_r7.2.cs], by first | rfl | (simp only [List.append_assoc, List.append_nil, List.cons_append, List.nil_append]; done), ⟨by simp, by first | exact Nat.le_refl _ | (have := hO.len; simp; omega), rfl⟩, rfl, ⟨rfl, _, _, _, _, Rr7, ef hs, hO.sub (List.nil_sublist _)⟩, ?_⟩
     exact .inr (Zay hra hra0_r7 hO rfl (by have := hO.len; have := hra0_r7.len; first | exact Nat.le_refl _ | omega) (by simp only [List.append_assoc, List.cons_append, List.nil_append]) (by (simp +decide only [go_sem, Nat.reduceAdd]) <;> (try (repeat' apply And.intro)) <;> first | omega | assumption))
    have hb33 := hs.1
    refine ZbU (Zce [] _) ?_ (ZaG _ _)
    apply ZaJ; simp +decide only [go_sem, Nat.reduceAdd]
    (repeat' apply And.intro) <;> first | refine hKQ _ _ _ ⟨⟨B ++ [a0.cs, [.val (.int .i64 0)], [.val .nilFunc, .clo 108 [], .clo 110 [], .clo 111 [], .clo 113 [], .clo 116 [], .clo 117 [], .clo 118 [], .clo 119 [], .clo 120 [], .clo 121 []], [.val (.int .i64 (b3_r7 + 1))], a0.cs], Rr7, L⟩, [p_r7.2.cs], by first | rfl | (simp only [List.append_assoc, List.append_nil, List.cons_append, List.nil_append]; done), ⟨by simp, by first | exact Nat.le_refl _ | (have := hO.len; simp; omega), rfl⟩, rfl, ⟨(b3_r7 + 1), Rr7, ef hs, hO, h⟩, ?_⟩ | exact cl
    exact .inr (Zay hra hra0_r7 hO rfl (by have := hO.len; have := hra0_r7.len; first | exact Nat.le_refl _ | omega) (by simp only [List.append_assoc, List.cons_append, List.nil_append]) (by (simp +decide only [go_sem, Nat.reduceAdd]) <;> (try (repeat' apply And.intro)) <;> first | omega | assumption))
   ·
    replace h := ZaD h hf30
    rcases Bool.eq_false_or_eq_true (decide (p_r7.2.kind = 2)) with hf35 | hf35
    ·
     replace h := ZaC h hf35
     have hk36 : p_r7.2.kind = 2 := of_decide_eq_true hf35
     apply Zaw mix 7 2 1 [2, 7] (by kernel_rfl)
     rw [Zaa]; simp +decide only [go_sem, Nat.reduceAdd, hb13, hb16, hb19, hb22, hb25, hf28, hf30, hf35, hk36]
     have hs := And.intro hf28 hs
     have hs := And.intro hf30 hs
     have hs := And.intro hf35 hs
     have hs := And.intro hk36 hs
     (repeat' apply And.intro) <;> first | refine Zad _ (ZkJ w0 _ _ _ p_r7.2) (hv hs) ?_ | exact cl
     rw [Zaa]; simp +decide only [go_sem, Nat.reduceAdd, hb13, hb16, hb19, hb22, hb25, hf28, hf30, hf35, hk36]
     (repeat' with_reducible apply And.intro) <;> first | (rw [Zaa]; simp +decide only [go_sem, Nat.reduceAdd, hb13, hb16, hb19, hb22, hb25, hf28, hf30, hf35, hk36]) | exact cl
     (repeat' apply And.intro) <;> first | refine hK27 _ _ ?_ | exact cl
     clear hK27
     refine rg [2, 7, 44] hs ?_
     refine cnd h hs (fun hs h => ?_) (fun hs h => ?_)
     ·
      have hb38 := hs.1
      refine rg [2] hs ?_
      apply Zaj; simp +decide only [go_sem, Nat.reduceAdd, hb13, hb16, hb19, hb22, hb25, hf28, hf30, hf35, hk36, hb38]
      have hgt := Option.some.inj h; subst hgt
      refine hKQ _ _ _ ⟨⟨B ++ [a0.cs, [.val (.int .i64 (ZdW p_r7.2))], [.val .nilFunc, .clo 108 [], .clo 110 [], .clo 111 [], .clo 113 [], .clo 116 [], .clo 117 [], .clo 118 [], .clo 119 [], .clo 120 [], .clo 121 []], [.val (.int .i64 (b3_r7 + 1))], a0.cs], Rr7, L⟩, [p_r7.2.cs], by first | rfl | (simp only [List.append_assoc, List.append_nil, List.cons_append, List.nil_append]; done), ⟨by simp, by first | exact Nat.le_refl _ | (have := hO.len; simp; omega), rfl⟩, rfl, ⟨rfl, _, _, _, _, Rr7, ef hs, hO.sub (List.nil_sublist _)⟩, ?_⟩
      exact .inr (Zay hra hra0_r7 hO rfl (by have := hO.len; have := hra0_r7.len; first | exact Nat.le_refl _ | omega) (by simp only [List.append_assoc, List.cons_append, List.nil_append]) (by (simp +decide only [go_sem, Nat.reduceAdd]) <;> (try (repeat' apply And.intro)) <;> first | omega | assumption))
     have hb38 := hs.1
     refine ZbU (Zce [] _) ?_ (ZaG _ _)
     apply ZaJ; simp +decide only [go_sem, Nat.reduceAdd]
     (repeat' apply And.intro) <;> first | refine hKQ _ _ _ ⟨⟨B ++ [a0.cs, [.val (.int .i64 0)], [.val .nilFunc, .clo 108 [], .clo 110 [], .clo 111 [], .clo 113 [], .clo 116 [], .clo 117 [], .clo 118 [], .clo 119 [], .clo 120 [], .clo 121 []], [.val (.int .i64 (b3_r7 + 1))], a0.cs], Rr7, L⟩, [p_r7.2.cs], by first | rfl | (simp only [List.append_assoc, List.append_nil, List.cons_append, List.nil_append]; done), ⟨by simp, by first | exact Nat.le_refl _ | (have := hO.len; simp; omega), rfl⟩, rfl, ⟨(b3_r7 + 1), Rr7, ef hs, hO, h⟩, ?_⟩ | exact cl
     exact .inr (Zay hra hra0_r7 hO rfl (by have := hO.len; have := hra0_r7.len; first | exact Nat.le_refl _ | omega) (by simp only [List.append_assoc, List.cons_append, List.nil_append]) (by (simp +decide only [go_sem, Nat.reduceAdd]) <;> (try (repeat' apply And.intro)) <;> first | omega | assumption))
    ·
     replace h := ZaD h hf35
     rcases Bool.eq_false_or_eq_true (decide (p_r7.2.kind = 3)) with hf40 | hf40
     ·
      replace h := ZaC h hf40
      have hk41 : p_r7.2.kind = 3 := of_decide_eq_true hf40
      obtain ⟨y42, hy42, h⟩ := bind_some h
      apply Zaw mix 7 2 1 [2, 7] (by kernel_rfl)
      rw [Zaa]; simp +decide only [go_sem, Nat.reduceAdd, hb13, hb16, hb19, hb22, hb25, hf28, hf30, hf35, hf40, hk41]
      have hs := And.intro hf28 hs
      have hs := And.intro hf30 hs
      have hs := And.intro hf35 hs
      have hs := And.intro hf40 hs
      have hs := And.intro hk41 hs
      (repeat' apply And.intro) <;> first | refine Zad _ (Zl8 w0 n _ _ _ p_r7.2 _ hy42) (hv hs) ?_ | exact cl
      rw [Zaa]; simp +decide only [go_sem, Nat.reduceAdd, hb13, hb16, hb19, hb22, hb25, hf28, hf30, hf35, hf40, hk41]
      (repeat' with_reducible apply And.intro) <;> first | (rw [Zaa]; simp +decide only [go_sem, Nat.reduceAdd, hb13, hb16, hb19, hb22, hb25, hf28, hf30, hf35, hf40, hk41]) | exact cl
      (repeat' apply And.intro) <;> first | refine hK27 _ _ ?_ | exact cl
      clear hK27
      refine rg [2, 7, 44] hs ?_
      refine cnd h hs (fun hs h => ?_) (fun hs h => ?_)
      ·
       have hb44 := hs.1
       refine rg [2] hs ?_
       apply Zaj; simp +decide only [go_sem, Nat.reduceAdd, hb13, hb16, hb19, hb22, hb25, hf28, hf30, hf35, hf40, hk41, hb44]
       have hgt := Option.some.inj h; subst hgt
       refine hKQ _ _ _ ⟨⟨B ++ [a0.cs, [.val (.int .i64 y42)], [.val .nilFunc, .clo 108 [], .clo 110 [], .clo 111 [], .clo 113 [], .clo 116 [], .clo 117 [], .clo 118 [], .clo 119 [], .clo 120 [], .clo 121 []], [.val (.int .i64 (b3_r7 + 1))], a0.cs], Rr7, L⟩, [p_r7.2.cs], by first | rfl | (simp only [List.append_assoc, List.append_nil, List.cons_append, List.nil_append]; done), ⟨by simp, by first | exact Nat.le_refl _ | (have := hO.len; simp; omega), rfl⟩, rfl, ⟨rfl, _, _, _, _, Rr7, ef hs, hO.sub (List.nil_sublist _)⟩, ?_⟩
       exact .inr (Zay hra hra0_r7 hO rfl (by have := hO.len; have := hra0_r7.len; first | exact Nat.le_refl _ | omega) (by simp only [List.append_assoc, List.cons_append, List.nil_append]) (by (simp +decide only [go_sem, Nat.reduceAdd]) <;> (try (repeat' apply And.intro)) <;> first | omega | assumption))
      have hb44 := hs.1
      refine ZbU (Zce [] _) ?_ (ZaG _ _)
      apply ZaJ; simp +decide only [go_sem, Nat.reduceAdd]
      (repeat' apply And.intro) <;> first | refine hKQ _ _ _ ⟨⟨B ++ [a0.cs, [.val (.int .i64 0)], [.val .nilFunc, .clo 108 [], .clo 110 [], .clo 111 [], .clo 113 [], .clo 116 [], .clo 117 [], .clo 118 [], .clo 119 [], .clo 120 [], .clo 121 []], [.val (.int .i64 (b3_r7 + 1))], a0.cs], Rr7, L⟩, [p_r7.2.cs], by first | rfl | (simp only [List.append_assoc, List.append_nil, List.cons_append, List.nil_append]; done), ⟨by simp, by first | exact Nat.le_refl _ | (have := hO.len; simp; omega), rfl⟩, rfl, ⟨(b3_r7 + 1), Rr7, ef hs, hO, h⟩, ?_⟩ | exact cl
      exact .inr (Zay hra hra0_r7 hO rfl (by have := hO.len; have := hra0_r7.len; first | exact Nat.le_refl _ | omega) (by simp only [List.append_assoc, List.cons_append, List.nil_append]) (by (simp +decide only [go_sem, Nat.reduceAdd]) <;> (try (repeat' apply And.intro)) <;> first | omega | assumption))
     ·
      replace h := ZaD h hf40
      rcases Bool.eq_false_or_eq_true (decide (p_r7.2.kind = 4)) with hf46 | hf46
      ·
       replace h := ZaC h hf46
       have hk47 : p_r7.2.kind = 4 := of_decide_eq_true hf46
       obtain ⟨y48, hy48, h⟩ := bind_some h
       apply Zaw mix 7 2 1 [2, 7] (by kernel_rfl)
       rw [Zaa]; simp +decide only [go_sem, Nat.reduceAdd, hb13, hb16, hb19, hb22, hb25, hf28, hf30, hf35, hf40, hf46, hk47]
       have hs := And.intro hf28 hs
       have hs := And.intro hf30 hs
       have hs := And.intro hf35 hs
       have hs := And.intro hf40 hs
       have hs := And.intro hf46 hs
       have hs := And.intro hk47 hs
       (repeat' apply And.intro) <;> first | refine Zad _ (Zme w0 hT _ _ _ p_r7.2 _ hy48) (hv hs) ?_ | exact cl
       rw [Zaa]; simp +decide only [go_sem, Nat.reduceAdd, hb13, hb16, hb19, hb22, hb25, hf28, hf30, hf35, hf40, hf46, hk47]
       (repeat' with_reducible apply And.intro) <;> first | (rw [Zaa]; simp +decide only [go_sem, Nat.reduceAdd, hb13, hb16, hb19, hb22, hb25, hf28, hf30, hf35, hf40, hf46, hk47]) | exact cl
       (repeat' apply And.intro) <;> first | refine hK27 _ _ ?_ | exact cl
       clear hK27
       refine rg [2, 7, 44] hs ?_
       refine cnd h hs (fun hs h => ?_) (fun hs h => ?_)
       ·
        have hb50 := hs.1
        refine rg [2] hs ?_
        apply Zaj; simp +decide only [go_sem, Nat.reduceAdd, hb13, hb16, hb19, hb22, hb25, hf28, hf30, hf35, hf40, hf46, hk47, hb50]
        have hgt := Option.some.inj h; subst hgt
        refine hKQ _ _ _ ⟨⟨B ++ [a0.cs, [.val (.int .i64 y48)], [.val .nilFunc, .clo 108 [], .clo 110 [], .clo 111 [], .clo 113 [], .clo 116 [], .clo 117 [], .clo 118 [], .clo 119 [], .clo 120 [], .clo 121 []], [.val (.int .i64 (b3_r7 + 1))], a0.cs], Rr7, L⟩, [p_r7.2.cs], by first | rfl | (simp only [List.append_assoc, List.append_nil, List.cons_append, List.nil_append]; done), ⟨by simp, by first | exact Nat.le_refl _ | (have := hO.len; simp; omega), rfl⟩, rfl, ⟨rfl, _, _, _, _, Rr7, ef hs, hO.sub (List.nil_sublist _)⟩, ?_⟩
        exact .inr (Zay hra hra0_r7 hO rfl (by have := hO.len; have := hra0_r7.len; first | exact Nat.le_refl _ | omega) (by simp only [List.append_assoc, List.cons_append, List.nil_append]) (by (simp +decide only [go_sem, Nat.reduceAdd]) <;> (try (repeat' apply And.intro)) <;> first | omega | assumption))
       have hb50 := hs.1
       refine ZbU (Zce [] _) ?_ (ZaG _ _)
       apply ZaJ; simp +decide only [go_sem, Nat.reduceAdd]
       (repeat' apply And.intro) <;> first | refine hKQ _ _ _ ⟨⟨B ++ [a0.cs, [.val (.int .i64 0)], [.val .nilFunc, .clo 108 [], .clo 110 [], .clo 111 [], .clo 113 [], .clo 116 [], .clo 117 [], .clo 118 [], .clo 119 [], .clo 120 [], .clo 121 []], [.val (.int .i64 (b3_r7 + 1))], a0.cs], Rr7, L⟩, [p_r7.2.cs], by first | rfl | (simp only [List.append_assoc, List.append_nil, List.cons_append, List.nil_append]; done), ⟨by simp, by first | exact Nat.le_refl _ | (have := hO.len; simp; omega), rfl⟩, rfl, ⟨(b3_r7 + 1), Rr7, ef hs, hO, h⟩, ?_⟩ | exact cl
       exact .inr (Zay hra hra0_r7 hO rfl (by have := hO.len; have := hra0_r7.len; first | exact Nat.le_refl _ | omega) (by simp only [List.append_assoc, List.cons_append, List.nil_append]) (by (simp +decide only [go_sem, Nat.reduceAdd]) <;> (try (repeat' apply And.intro)) <;> first | omega | assumption))
      ·
       replace h := ZaD h hf46
       rcases Bool.eq_false_or_eq_true (decide (p_r7.2.kind = 5)) with hf52 | hf52
       ·
        replace h := ZaC h hf52
        have hk53 : p_r7.2.kind = 5 := of_decide_eq_true hf52
        apply Zaw mix 7 2 1 [2, 7] (by kernel_rfl)
        rw [Zaa]; simp +decide only [go_sem, Nat.reduceAdd, hb13, hb16, hb19, hb22, hb25, hf28, hf30, hf35, hf40, hf46, hf52, hk53]
        have hs := And.intro hf28 hs
        have hs := And.intro hf30 hs
        have hs := And.intro hf35 hs
        have hs := And.intro hf40 hs
        have hs := And.intro hf46 hs
        have hs := And.intro hf52 hs
        have hs := And.intro hk53 hs
        (repeat' apply And.intro) <;> first | refine Zad _ (ZkI w0 _ _ _ p_r7.2) (hv hs) ?_ | exact cl
        rw [Zaa]; simp +decide only [go_sem, Nat.reduceAdd, hb13, hb16, hb19, hb22, hb25, hf28, hf30, hf35, hf40, hf46, hf52, hk53]
        (repeat' with_reducible apply And.intro) <;> first | (rw [Zaa]; simp +decide only [go_sem, Nat.reduceAdd, hb13, hb16, hb19, hb22, hb25, hf28, hf30, hf35, hf40, hf46, hf52, hk53]) | exact cl
        (repeat' apply And.intro) <;> first | refine hK27 _ _ ?_ | exact cl
        clear hK27
        refine rg [2, 7, 44] hs ?_
        refine cnd h hs (fun hs h => ?_) (fun hs h => ?_)
        ·
         have hb55 := hs.1
         refine rg [2] hs ?_
         apply Zaj; simp +decide only [go_sem, Nat.reduceAdd, hb13, hb16, hb19, hb22, hb25, hf28, hf30, hf35, hf40, hf46, hf52, hk53, hb55]
         have hgt := Option.some.inj h; subst hgt
         refine hKQ _ _ _ ⟨⟨B ++ [a0.cs, [.val (.int .i64 (ZdT p_r7.2))], [.val .nilFunc, .clo 108 [], .clo 110 [], .clo 111 [], .clo 113 [], .clo 116 [], .clo 117 [], .clo 118 [], .clo 119 [], .clo 120 [], .clo 121 []], [.val (.int .i64 (b3_r7 + 1))], a0.cs], Rr7, L⟩, [p_r7.2.cs], by first | rfl | (simp only [List.append_assoc, List.append_nil, List.cons_append, List.nil_append]; done), ⟨by simp, by first | exact Nat.le_refl _ | (have := hO.len; simp; omega), rfl⟩, rfl, ⟨rfl, _, _, _, _, Rr7, ef hs, hO.sub (List.nil_sublist _)⟩, ?_⟩
         exact .inr (Zay hra hra0_r7 hO rfl (by have := hO.len; have := hra0_r7.len; first | exact Nat.le_refl _ | omega) (by simp only [List.append_assoc, List.cons_append, List.nil_append]) (by (simp +decide only [go_sem, Nat.reduceAdd]) <;> (try (repeat' apply And.intro)) <;> first | omega | assumption))
        have hb55 := hs.1
        refine ZbU (Zce [] _) ?_ (ZaG _ _)
        apply ZaJ; simp +decide only [go_sem, Nat.reduceAdd]
        (repeat' apply And.intro) <;> first | refine hKQ _ _ _ ⟨⟨B ++ [a0.cs, [.val (.int .i64 0)], [.val .nilFunc, .clo 108 [], .clo 110 [], .clo 111 [], .clo 113 [], .clo 116 [], .clo 117 [], .clo 118 [], .clo 119 [], .clo 120 [], .clo 121 []], [.val (.int .i64 (b3_r7 + 1))], a0.cs], Rr7, L⟩, [p_r7.2.cs], by first | rfl | (simp only [List.append_assoc, List.append_nil, List.cons_append, List.nil_append]; done), ⟨by simp, by first | exact Nat.le_refl _ | (have := hO.len; simp; omega), rfl⟩, rfl, ⟨(b3_r7 + 1), Rr7, ef hs, hO, h⟩, ?_⟩ | exact cl
        exact .inr (Zay hra hra0_r7 hO rfl (by have := hO.len; have := hra0_r7.len; first | exact Nat.le_refl _ | omega) (by simp only [List.append_assoc, List.cons_append, List.nil_append]) (by (simp +decide only [go_sem, Nat.reduceAdd]) <;> (try (repeat' apply And.intro)) <;> first | omega | assumption))
       ·
        replace h := ZaD h hf52
        rcases Bool.eq_false_or_eq_true (decide (p_r7.2.kind = 6)) with hf57 | hf57
        ·
         replace h := ZaC h hf57
         have hk58 : p_r7.2.kind = 6 := of_decide_eq_true hf57
         apply Zaw mix 7 2 1 [2, 7] (by kernel_rfl)
         rw [Zaa]; simp +decide only [go_sem, Nat.reduceAdd, hb13, hb16, hb19, hb22, hb25, hf28, hf30, hf35, hf40, hf46, hf52, hf57, hk58]
         have hs := And.intro hf28 hs
         have hs := And.intro hf30 hs
         have hs := And.intro hf35 hs
         have hs := And.intro hf40 hs
         have hs := And.intro hf46 hs
         have hs := And.intro hf52 hs
         have hs := And.intro hf57 hs
         have hs := And.intro hk58 hs
         (repeat' apply And.intro) <;> first | refine Zad _ (ZkX w0 _ _ _ p_r7.2) (hv hs) ?_ | exact cl
         rw [Zaa]; simp +decide only [go_sem, Nat.reduceAdd, hb13, hb16, hb19, hb22, hb25, hf28, hf30, hf35, hf40, hf46, hf52, hf57, hk58]
         (repeat' with_reducible apply And.intro) <;> first | (rw [Zaa]; simp +decide only [go_sem, Nat.reduceAdd, hb13, hb16, hb19, hb22, hb25, hf28, hf30, hf35, hf40, hf46, hf52, hf57, hk58]) | exact cl
         (repeat' apply And.intro) <;> first | refine hK27 _ _ ?_ | exact cl
         clear hK27
         refine rg [2, 7, 44] hs ?_
         refine cnd h hs (fun hs h => ?_) (fun hs h => ?_)
         ·
          have hb60 := hs.1
          refine rg [2] hs ?_
          apply Zaj; simp +decide only [go_sem, Nat.reduceAdd, hb13, hb16, hb19, hb22, hb25, hf28, hf30, hf35, hf40, hf46, hf52, hf57, hk58, hb60]
          have hgt := Option.some.inj h; subst hgt
          refine hKQ _ _ _ ⟨⟨B ++ [a0.cs, [.val (.int .i64 (Zd0 p_r7.2))], [.val .nilFunc, .clo 108 [], .clo 110 [], .clo 111 [], .clo 113 [], .clo 116 [], .clo 117 [], .clo 118 [], .clo 119 [], .clo 120 [], .clo 121 []], [.val (.int .i64 (b3_r7 + 1))], a0.cs], Rr7, L⟩, [p_r7.2.cs], by first | rfl | (simp only [List.append_assoc, List.append_nil, List.cons_append, List.nil_append]; done), ⟨by simp, by first | exact Nat.le_refl _ | (have := hO.len; simp; omega), rfl⟩, rfl, ⟨rfl, _, _, _, _, Rr7, ef hs, hO.sub (List.nil_sublist _)⟩, ?_⟩
          exact .inr (Zay hra hra0_r7 hO rfl (by have := hO.len; have := hra0_r7.len; first | exact Nat.le_refl _ | omega) (by simp only [List.append_assoc, List.cons_append, List.nil_append]) (by (simp +decide only [go_sem, Nat.reduceAdd]) <;> (try (repeat' apply And.intro)) <;> first | omega | assumption))
         have hb60 := hs.1
         refine ZbU (Zce [] _) ?_ (ZaG _ _)
         apply ZaJ; simp +decide only [go_sem, Nat.reduceAdd]
         (repeat' apply And.intro) <;> first | refine hKQ _ _ _ ⟨⟨B ++ [a0.cs, [.val (.int .i64 0)], [.val .nilFunc, .clo 108 [], .clo 110 [], .clo 111 [], .clo 113 [], .clo 116 [], .clo 117 [], .clo 118 [], .clo 119 [], .clo 120 [], .clo 121 []], [.val (.int .i64 (b3_r7 + 1))], a0.cs], Rr7, L⟩, [p_r7.2.cs], by first | rfl | (simp only [List.append_assoc, List.append_nil, List.cons_append, List.nil_append]; done), ⟨by simp, by first | exact Nat.le_refl _ | (have := hO.len; simp; omega), rfl⟩, rfl, ⟨(b3_r7 + 1), Rr7, ef hs, hO, h⟩, ?_⟩ | exact cl
         exact .inr (Zay hra hra0_r7 hO rfl (by have := hO.len; have := hra0_r7.len; first | exact Nat.le_refl _ | omega) (by simp only [List.append_assoc, List.cons_append, List.nil_append]) (by (simp +decide only [go_sem, Nat.reduceAdd]) <;> (try (repeat' apply And.intro)) <;> first | omega | assumption))
        ·
         replace h := ZaD h hf57
         rcases Bool.eq_false_or_eq_true (decide (p_r7.2.kind = 7)) with hf62 | hf62
         ·
          replace h := ZaC h hf62
          have hk63 : p_r7.2.kind = 7 := of_decide_eq_true hf62
          apply Zaw mix 7 2 1 [2, 7] (by kernel_rfl)
          rw [Zaa]; simp +decide only [go_sem, Nat.reduceAdd, hb13, hb16, hb19, hb22, hb25, hf28, hf30, hf35, hf40, hf46, hf52, hf57, hf62, hk63]
          have hs := And.intro hf28 hs
          have hs := And.intro hf30 hs
          have hs := And.intro hf35 hs
          have hs := And.intro hf40 hs
          have hs := And.intro hf46 hs
          have hs := And.intro hf52 hs
          have hs := And.intro hf57 hs
          have hs := And.intro hf62 hs
          have hs := And.intro hk63 hs
          (repeat' apply And.intro) <;> first | refine Zad _ (ZkF w0 _ _ _ p_r7.2) (hv hs) ?_ | exact cl
          rw [Zaa]; simp +decide only [go_sem, Nat.reduceAdd, hb13, hb16, hb19, hb22, hb25, hf28, hf30, hf35, hf40, hf46, hf52, hf57, hf62, hk63]
          (repeat' with_reducible apply And.intro) <;> first | (rw [Zaa]; simp +decide only [go_sem, Nat.reduceAdd, hb13, hb16, hb19, hb22, hb25, hf28, hf30, hf35, hf40, hf46, hf52, hf57, hf62, hk63]) | exact cl
          (repeat' apply And.intro) <;> first | refine hK27 _ _ ?_ | exact cl
          clear hK27
          refine rg [2, 7, 44] hs ?_
          refine cnd h hs (fun hs h => ?_) (fun hs h => ?_)
          ·
           have hb65 := hs.1
           refine rg [2] hs ?_
           apply Zaj; simp +decide only [go_sem, Nat.reduceAdd, hb13, hb16, hb19, hb22, hb25, hf28, hf30, hf35, hf40, hf46, hf52, hf57, hf62, hk63, hb65]
           have hgt := Option.some.inj h; subst hgt
           refine hKQ _ _ _ ⟨⟨B ++ [a0.cs, [.val (.int .i64 (ZdV p_r7.2))], [.val .nilFunc, .clo 108 [], .clo 110 [], .clo 111 [], .clo 113 [], .clo 116 [], .clo 117 [], .clo 118 [], .clo 119 [], .clo 120 [], .clo 121 []], [.val (.int .i64 (b3_r7 + 1))], a0.cs], Rr7, L⟩, [p_r7.2.cs], by first | rfl | (simp only [List.append_assoc, List.append_nil, List.cons_append, List.nil_append]; done), ⟨by simp, by first | exact Nat.le_refl _ | (have := hO.len; simp; omega), rfl⟩, rfl, ⟨rfl, _, _, _, _, Rr7, ef hs, hO.sub (List.nil_sublist _)⟩, ?_⟩
           exact .inr (Zay hra hra0_r7 hO rfl (by have := hO.len; have := hra0_r7.len; first | exact Nat.le_refl _ | omega) (by simp only [List.append_assoc, List.cons_append, List.nil_append]) (by (simp +decide only [go_sem, Nat.reduceAdd]) <;> (try (repeat' apply And.intro)) <;> first | omega | assumption))
          have hb65 := hs.1
          refine ZbU (Zce [] _) ?_ (ZaG _ _)
          apply ZaJ; simp +decide only [go_sem, Nat.reduceAdd]
          (repeat' apply And.intro) <;> first | refine hKQ _ _ _ ⟨⟨B ++ [a0.cs, [.val (.int .i64 0)], [.val .nilFunc, .clo 108 [], .clo 110 [], .clo 111 [], .clo 113 [], .clo 116 [], .clo 117 [], .clo 118 [], .clo 119 [], .clo 120 [], .clo 121 []], [.val (.int .i64 (b3_r7 + 1))], a0.cs], Rr7, L⟩, [p_r7.2.cs], by first | rfl | (simp only [List.append_assoc, List.append_nil, List.cons_append, List.nil_append]; done), ⟨by simp, by first | exact Nat.le_refl _ | (have := hO.len; simp; omega), rfl⟩, rfl, ⟨(b3_r7 + 1), Rr7, ef hs, hO, h⟩, ?_⟩ | exact cl
          exact .inr (Zay hra hra0_r7 hO rfl (by have := hO.len; have := hra0_r7.len; first | exact Nat.le_refl _ | omega) (by simp only [List.append_assoc, List.cons_append, List.nil_append]) (by (simp +decide only [go_sem, Nat.reduceAdd]) <;> (try (repeat' apply And.intro)) <;> first | omega | assumption))
         ·
          replace h := ZaD h hf62
          rcases Bool.eq_false_or_eq_true (decide (p_r7.2.kind = 8)) with hf67 | hf67
          ·
           replace h := ZaC h hf67
           have hk68 : p_r7.2.kind = 8 := of_decide_eq_true hf67
           apply Zaw mix 7 2 1 [2, 7] (by kernel_rfl)
           rw [Zaa]; simp +decide only [go_sem, Nat.reduceAdd, hb13, hb16, hb19, hb22, hb25, hf28, hf30, hf35, hf40, hf46, hf52, hf57, hf62, hf67, hk68]
           have hs := And.intro hf28 hs
           have hs := And.intro hf30 hs
           have hs := And.intro hf35 hs
           have hs := And.intro hf40 hs
           have hs := And.intro hf46 hs
           have hs := And.intro hf52 hs
           have hs := And.intro hf57 hs
           have hs := And.intro hf62 hs
           have hs := And.intro hf67 hs
           have hs := And.intro hk68 hs
           (repeat' apply And.intro) <;> first | refine Zad _ (ZkS w0 _ _ _ p_r7.2) (hv hs) ?_ | exact cl
           rw [Zaa]; simp +decide only [go_sem, Nat.reduceAdd, hb13, hb16, hb19, hb22, hb25, hf28, hf30, hf35, hf40, hf46, hf52, hf57, hf62, hf67, hk68]
           (repeat' with_reducible apply And.intro) <;> first | (rw [Zaa]; simp +decide only [go_sem, Nat.reduceAdd, hb13, hb16, hb19, hb22, hb25, hf28, hf30, hf35, hf40, hf46, hf52, hf57, hf62, hf67, hk68]) | exact cl
           (repeat' apply And.intro) <;> first | refine hK27 _ _ ?_ | exact cl
           clear hK27
           refine rg [2, 7, 44] hs ?_
           refine cnd h hs (fun hs h => ?_) (fun hs h => ?_)
           ·
            have hb70 := hs.1
            refine rg [2] hs ?_
            apply Zaj; simp +decide only [go_sem, Nat.reduceAdd, hb13, hb16, hb19, hb22, hb25, hf28, hf30, hf35, hf40, hf46, hf52, hf57, hf62, hf67, hk68, hb70]
            have hgt := Option.some.inj h; subst hgt
            refine hKQ _ _ _ ⟨⟨B ++ [a0.cs, [.val (.int .i64 (ZdL p_r7.2))], [.val .nilFunc, .clo 108 [], .clo 110 [], .clo 111 [], .clo 113 [], .clo 116 [], .clo 117 [], .clo 118 [], .clo 119 [], .clo 120 [], .clo 121 []], [.val (.int .i64 (b3_r7 + 1))], a0.cs], Rr7, L⟩, [p_r7.2.cs], by first | rfl | (simp only [List.append_assoc, List.append_nil, List.cons_append, List.nil_append]; done), ⟨by simp, by first | exact Nat.le_refl _ | (have := hO.len; simp; omega), rfl⟩, rfl, ⟨rfl, _, _, _, _, Rr7, ef hs, hO.sub (List.nil_sublist _)⟩, ?_⟩
            exact .inr (Zay hra hra0_r7 hO rfl (by have := hO.len; have := hra0_r7.len; first | exact Nat.le_refl _ | omega) (by simp only [List.append_assoc, List.cons_append, List.nil_append]) (by (simp +decide only [go_sem, Nat.reduceAdd]) <;> (try (repeat' apply And.intro)) <;> first | omega | assumption))
           have hb70 := hs.1
           refine ZbU (Zce [] _) ?_ (ZaG _ _)
           apply ZaJ; simp +decide only [go_sem, Nat.reduceAdd]
           (repeat' apply And.intro) <;> first | refine hKQ _ _ _ ⟨⟨B ++ [a0.cs, [.val (.int .i64 0)], [.val .nilFunc, .clo 108 [], .clo 110 [], .clo 111 [], .clo 113 [], .clo 116 [], .clo 117 [], .clo 118 [], .clo 119 [], .clo 120 [], .clo 121 []], [.val (.int .i64 (b3_r7 + 1))], a0.cs], Rr7, L⟩, [p_r7.2.cs], by first | rfl | (simp only [List.append_assoc, List.append_nil, List.cons_append, List.nil_append]; done), ⟨by simp, by first | exact Nat.le_refl _ | (have := hO.len; simp; omega), rfl⟩, rfl, ⟨(b3_r7 + 1), Rr7, ef hs, hO, h⟩, ?_⟩ | exact cl
           exact .inr (Zay hra hra0_r7 hO rfl (by have := hO.len; have := hra0_r7.len; first | exact Nat.le_refl _ | omega) (by simp only [List.append_assoc, List.cons_append, List.nil_append]) (by (simp +decide only [go_sem, Nat.reduceAdd]) <;> (try (repeat' apply And.intro)) <;> first | omega | assumption))
          ·
           replace h := ZaD h hf67
           rcases Bool.eq_false_or_eq_true (decide (p_r7.2.kind = 9)) with hf72 | hf72
           ·
            replace h := ZaC h hf72
            have hk73 : p_r7.2.kind = 9 := of_decide_eq_true hf72
            obtain ⟨y74, hy74, h⟩ := bind_some h
            apply Zaw mix 7 2 1 [2, 7] (by kernel_rfl)
            rw [Zaa]; simp +decide only [go_sem, Nat.reduceAdd, hb13, hb16, hb19, hb22, hb25, hf28, hf30, hf35, hf40, hf46, hf52, hf57, hf62, hf67, hf72, hk73]
            have hs := And.intro hf28 hs
            have hs := And.intro hf30 hs
            have hs := And.intro hf35 hs
            have hs := And.intro hf40 hs
            have hs := And.intro hf46 hs
            have hs := And.intro hf52 hs
            have hs := And.intro hf57 hs
            have hs := And.intro hf62 hs
            have hs := And.intro hf67 hs
            have hs := And.intro hf72 hs
            have hs := And.intro hk73 hs
            (repeat' apply And.intro) <;> first | refine Zad _ (Zlc w0 n _ _ _ p_r7.2 _ hy74) (hv hs) ?_ | exact cl
            rw [Zaa]; simp +decide only [go_sem, Nat.reduceAdd, hb13, hb16, hb19, hb22, hb25, hf28, hf30, hf35, hf40, hf46, hf52, hf57, hf62, hf67, hf72, hk73]
            (repeat' with_reducible apply And.intro) <;> first | (rw [Zaa]; simp +decide only [go_sem, Nat.reduceAdd, hb13, hb16, hb19, hb22, hb25, hf28, hf30, hf35, hf40, hf46, hf52, hf57, hf62, hf67, hf72, hk73]) | exact cl
            (repeat' apply And.intro) <;> first | refine hK27 _ _ ?_ | exact cl
            clear hK27
            refine rg [2, 7, 44] hs ?_
            refine cnd h hs (fun hs h => ?_) (fun hs h => ?_)
            ·
             have hb76 := hs.1
             refine rg [2] hs ?_
             apply Zaj; simp +decide only [go_sem, Nat.reduceAdd, hb13, hb16, hb19, hb22, hb25, hf28, hf30, hf35, hf40, hf46, hf52, hf57, hf62, hf67, hf72, hk73, hb76]
             have hgt := Option.some.inj h; subst hgt
             refine hKQ _ _ _ ⟨⟨B ++ [a0.cs, [.val (.int .i64 y74)], [.val .nilFunc, .clo 108 [], .clo 110 [], .clo 111 [], .clo 113 [], .clo 116 [], .clo 117 [], .clo 118 [], .clo 119 [], .clo 120 [], .clo 121 []], [.val (.int .i64 (b3_r7 + 1))], a0.cs], Rr7, L⟩, [p_r7.2.cs], by first | rfl | (simp only [List.append_assoc, List.append_nil, List.cons_append, List.nil_append]; done), ⟨by simp, by first | exact Nat.le_refl _ | (have := hO.len; simp; omega), rfl⟩, rfl, ⟨rfl, _, _, _, _, Rr7, ef hs, hO.sub (List.nil_sublist _)⟩, ?_⟩
             exact .inr (Zay hra hra0_r7 hO rfl (by have := hO.len; have := hra0_r7.len; first | exact Nat.le_refl _ | omega) (by simp only [List.append_assoc, List.cons_append, List.nil_append]) (by (simp +decide only [go_sem, Nat.reduceAdd]) <;> (try (repeat' apply And.intro)) <;> first | omega | assumption))
            have hb76 := hs.1
            refine ZbU (Zce [] _) ?_ (ZaG _ _)
            apply ZaJ; simp +decide only [go_sem, Nat.reduceAdd]
            (repeat' apply And.intro) <;> first | refine hKQ _ _ _ ⟨⟨B ++ [a0.cs, [.val (.int .i64 0)], [.val .nilFunc, .clo 108 [], .clo 110 [], .clo 111 [], .clo 113 [], .clo 116 [], .clo 117 [], .clo 118 [], .clo 119 [], .clo 120 [], .clo 121 []], [.val (.int .i64 (b3_r7 + 1))], a0.cs], Rr7, L⟩, [p_r7.2.cs], by first | rfl | (simp only [List.append_assoc, List.append_nil, List.cons_append, List.nil_append]; done), ⟨by simp, by first | exact Nat.le_refl _ | (have := hO.len; simp; omega), rfl⟩, rfl, ⟨(b3_r7 + 1), Rr7, ef hs, hO, h⟩, ?_⟩ | exact cl
            exact .inr (Zay hra hra0_r7 hO rfl (by have := hO.len; have := hra0_r7.len; first | exact Nat.le_refl _ | omega) (by simp only [List.append_assoc, List.cons_append, List.nil_append]) (by (simp +decide only [go_sem, Nat.reduceAdd]) <;> (try (repeat' apply And.intro)) <;> first | omega | assumption))
           ·
            replace h := ZaD h hf72
            rcases Bool.eq_false_or_eq_true (decide (p_r7.2.kind = 10)) with hf78 | hf78
            ·
             replace h := ZaC h hf78
             have hk79 : p_r7.2.kind = 10 := of_decide_eq_true hf78
             obtain ⟨y80, hy80, h⟩ := bind_some h
             apply Zaw mix 7 2 1 [2, 7] (by kernel_rfl)
             rw [Zaa]; simp +decide only [go_sem, Nat.reduceAdd, hb13, hb16, hb19, hb22, hb25, hf28, hf30, hf35, hf40, hf46, hf52, hf57, hf62, hf67, hf72, hf78, hk79]
             have hs := And.intro hf28 hs
             have hs := And.intro hf30 hs
             have hs := And.intro hf35 hs
             have hs := And.intro hf40 hs
             have hs := And.intro hf46 hs
             have hs := And.intro hf52 hs
             have hs := And.intro hf57 hs
             have hs := And.intro hf62 hs
             have hs := And.intro hf67 hs
             have hs := And.intro hf72 hs
             have hs := And.intro hf78 hs
             have hs := And.intro hk79 hs
             (repeat' apply And.intro) <;> first | refine Zad _ (ZkP w0 _ _ _ p_r7.2 _ hy80) (hv hs) ?_ | exact cl
             rw [Zaa]; simp +decide only [go_sem, Nat.reduceAdd, hb13, hb16, hb19, hb22, hb25, hf28, hf30, hf35, hf40, hf46, hf52, hf57, hf62, hf67, hf72, hf78, hk79]
             (repeat' with_reducible apply And.intro) <;> first | (rw [Zaa]; simp +decide only [go_sem, Nat.reduceAdd, hb13, hb16, hb19, hb22, hb25, hf28, hf30, hf35, hf40, hf46, hf52, hf57, hf62, hf67, hf72, hf78, hk79]) | exact cl
             (repeat' apply And.intro) <;> first | refine hK27 _ _ ?_ | exact cl
             clear hK27
             refine rg [2, 7, 44] hs ?_
             refine cnd h hs (fun hs h => ?_) (fun hs h => ?_)
             ·
              have hb82 := hs.1
              refine rg [2] hs ?_
              apply Zaj; simp +decide only [go_sem, Nat.reduceAdd, hb13, hb16, hb19, hb22, hb25, hf28, hf30, hf35, hf40, hf46, hf52, hf57, hf62, hf67, hf72, hf78, hk79, hb82]
              have hgt := Option.some.inj h; subst hgt
              refine hKQ _ _ _ ⟨⟨B ++ [a0.cs, [.val (.int .i64 y80)], [.val .nilFunc, .clo 108 [], .clo 110 [], .clo 111 [], .clo 113 [], .clo 116 [], .clo 117 [], .clo 118 [], .clo 119 [], .clo 120 [], .clo 121 []], [.val (.int .i64 (b3_r7 + 1))], a0.cs], Rr7, L⟩, [p_r7.2.cs], by first | rfl | (simp only [List.append_assoc, List.append_nil, List.cons_append, List.nil_append]; done), ⟨by simp, by first | exact Nat.le_refl _ | (have := hO.len; simp; omega), rfl⟩, rfl, ⟨rfl, _, _, _, _, Rr7, ef hs, hO.sub (List.nil_sublist _)⟩, ?_⟩
              exact .inr (Zay hra hra0_r7 hO rfl (by have := hO.len; have := hra0_r7.len; first | exact Nat.le_refl _ | omega) (by simp only [List.append_assoc, List.cons_append, List.nil_append]) (by (simp +decide only [go_sem, Nat.reduceAdd]) <;> (try (repeat' apply And.intro)) <;> first | omega | assumption))
             have hb82 := hs.1
             refine ZbU (Zce [] _) ?_ (ZaG _ _)
             apply ZaJ; simp +decide only [go_sem, Nat.reduceAdd]
             (repeat' apply And.intro) <;> first | refine hKQ _ _ _ ⟨⟨B ++ [a0.cs, [.val (.int .i64 0)], [.val .nilFunc, .clo 108 [], .clo 110 [], .clo 111 [], .clo 113 [], .clo 116 [], .clo 117 [], .clo 118 [], .clo 119 [], .clo 120 [], .clo 121 []], [.val (.int .i64 (b3_r7 + 1))], a0.cs], Rr7, L⟩, [p_r7.2.cs], by first | rfl | (simp only [List.append_assoc, List.append_nil, List.cons_append, List.nil_append]; done), ⟨by simp, by first | exact Nat.le_refl _ | (have := hO.len; simp; omega), rfl⟩, rfl, ⟨(b3_r7 + 1), Rr7, ef hs, hO, h⟩, ?_⟩ | exact cl
             exact .inr (Zay hra hra0_r7 hO rfl (by have := hO.len; have := hra0_r7.len; first | exact Nat.le_refl _ | omega) (by simp only [List.append_assoc, List.cons_append, List.nil_append]) (by (simp +decide only [go_sem, Nat.reduceAdd]) <;> (try (repeat' apply And.intro)) <;> first | omega | assumption))
            ·
             replace h := ZaD h hf78
             cases h
 ·
  rintro s la ⟨XB, XR, XL⟩ hXR ⟨b3_r7, Rr7, rfl, hO, h⟩ _ _
  simp only at hXR
  subst hXR
  rw [List.drop_eq_nil_of_le (by rw [ZhG]; exact Nat.le_refl _), Zbl] at h
  simp only [St.ext, St.push, List.append_assoc, List.append_nil]
  (repeat' apply And.intro) <;> first | refine hK4 _ _ ?_ | exact cl
  clear hK4
  refine ZlM (bs := [a0.cs, [.val (.int .i64 0)], [.val .nilFunc, .clo 108 [], .clo 110 [], .clo 111 [], .clo 113 [], .clo 116 [], .clo 117 [], .clo 118 [], .clo 119 [], .clo 120 [], .clo 121 []], [.val (.int .i64 b3_r7)], a0.cs]) hN hNR hNL rfl hcalm hO (by (simp +decide only [go_sem, Nat.reduceAdd]) <;> (try (repeat' apply And.intro)) <;> first | omega | assumption) (by (simp +decide only [go_sem, Nat.reduceAdd, Za2]) <;> (try (repeat' apply And.intro)) <;> first | omega | assumption) ?_
  refine rg [2] hs ?_
  exact rt h hs hcalm hO
 ·
  rintro ex s la ⟨XB, XR, XL⟩ hXR ⟨rfl, z0, z2, z3, z4, rows, rfl, hO⟩ _ _
  simp only at hXR
  subst hXR
  simp only [St.ext, St.push, List.append_assoc, List.append_nil]
  simp +decide only [go_sem, Nat.reduceAdd]
  (repeat' with_reducible apply And.intro) <;> first | refine ZwL hcalm rfl hO.pre ev ⟨?_, rfl⟩ | (intros; omega) | (intros; simp_all; done)
  first | rfl | (simp +decide only [go_sem, Nat.reduceAdd]; done)
def Zhm (n : Nat) (a0 : Ty) (a1 : Vl) : Option Bool :=
 (ZgJ n a1).bind fun y3 =>
 if decide (y3 = 0) then
  (Zk4 n a0 a1).bind fun y5 =>
  some (y5)
 else
  some (false)
theorem Zmf (w0 : World) (hT : Lib.Utf8Tabs 0 1 w0) (n : Nat) (B : List (List AV)) (Rw : List RowA) (L : List LoopA) (a0 : Ty) (a1 : Vl) (r : Bool) (h : Zhm n a0 a1 = some r) :
  ACalls Tryz.prog w0 59 [.agg (a0.cs), .agg (a1.cs)] ⟨B, Rw, L⟩ fun x st => x = .val (.bool r) ∧ st = ⟨B, Rw, L⟩ := by
 rw [Zhm] at h
 refine hd [.tmp 4] Tryz.func59 Tryz.ntmps59 fun M0 W0 hN hNR hNL hcalm hu hO hs => ?_
 simp only [Zal]
 refine rg [2, 3] hs ?_
 apply Zac; intro K2 hK2
 obtain ⟨y3, hy3, h⟩ := bind_some h
 rcases Bool.eq_false_or_eq_true (decide (y3 = 0)) with hf4 | hf4
 ·
  replace h := ZaC h hf4
  obtain ⟨y5, hy5, h⟩ := bind_some h
  have hs := And.intro hf4 hs
  refine rk 3 [4] hs ?_
  refine Zad _ (ZgU w0 hT n _ _ _ a1 _ hy3) (hv hs) ?_
  refine nc hs ?_
  refine Zad _ (ZmQ w0 n _ _ _ a0 a1 _ hy5) (hv hs) ?_
  refine ne hs hK2 ?_
  clear hK2
  exact rt h hs hcalm hO
 ·
  replace h := ZaD h hf4
  apply Zab 3 [4]
  rw [Zaa]; simp +decide only [go_sem, Nat.reduceAdd, hf4]
  have hs := And.intro hf4 hs
  (repeat' apply And.intro) <;> first | refine Zad _ (ZgU w0 hT n _ _ _ a1 _ hy3) (hv hs) ?_ | exact cl
  rw [Zaa]; simp +decide only [go_sem, Nat.reduceAdd, hf4]
  (repeat' apply And.intro) <;> first | refine ZaB ?_ | exact cl
  rw [Zaa]; simp +decide only [go_sem, Nat.reduceAdd, hf4]
  (repeat' apply And.intro) <;> first | refine hK2 _ _ ?_ | exact cl
  clear hK2
  exact rt h hs hcalm hO
def ZeV (a0 : Int × ByteArray × Int × Ty × List Vl) (a1 : Int × ByteArray × Int × Ty × List Vl) : Bool :=
 (sEq a0.2.1 a1.2.1) || (decide (a0.1 = a1.1))
theorem ZlN (w0 : World) (B : List (List AV)) (Rw : List RowA) (L : List LoopA) (a0 : Int × ByteArray × Int × Ty × List Vl) (la1 : Nat) (a1 : Int × ByteArray × Int × Ty × List Vl) (hla1 : B[la1]? = some (.val (.int .i64 a1.1) :: (.val (.string a1.2.1) :: (.val (.int .i64 a1.2.2.1) :: ((a1.2.2.2.1.cs) ++ ([.list (a1.2.2.2.2.map avV) .none])))))) (r : Bool) (h : ZeV a0 a1 = r) :
  ACalls Tryz.prog w0 227 [.agg (.val (.int .i64 a0.1) :: (.val (.string a0.2.1) :: (.val (.int .i64 a0.2.2.1) :: ((a0.2.2.2.1.cs) ++ ([.list (a0.2.2.2.2.map avV) .none]))))), .box la1 0] ⟨B, Rw, L⟩ fun x st => x = .val (.bool r) ∧ st = ⟨B, Rw, L⟩ := by
 rw [ZeV] at h
 refine hd [.tmp 3] Tryz.func227 Tryz.ntmps227 fun M0 W0 hN hNR hNL hcalm hu hO hs => ?_
 simp only [Zal]
 have hltla1 := (List.getElem?_eq_some_iff.1 hla1).1
 have hs := And.intro (Zag hla1) hs
 refine rg [1, 2] hs ?_
 refine rg [3] hs ?_
 apply Zaj; simp +decide only [go_sem, Nat.reduceAdd, Zag hla1]
 subst h
 first | refine Zaz hcalm rfl hO.pre ev ⟨?_, rfl⟩ | refine Za5 hcalm rfl hO.pre ev ⟨?_, rfl⟩
 first | rfl | (simp +decide only [go_sem, Nat.reduceAdd, Zag hla1]; done) | (simp +decide only [go_sem, Nat.reduceAdd, Vl.cs, Ty.cs, Zag hla1]; done)
theorem Zk1 (w0 : World) (B : List (List AV)) (Rw : List RowA) (L : List LoopA) (a0 : Int × ByteArray × Int × Ty × List Vl) (la1 : Nat) (a1 : Int × ByteArray × Int × Ty × List Vl) (hla1 : B[la1]? = some (.val (.int .i64 a1.1) :: (.val (.string a1.2.1) :: (.val (.int .i64 a1.2.2.1) :: ((a1.2.2.2.1.cs) ++ ([.list (a1.2.2.2.2.map avV) .none])))))) :
  ACalls Tryz.prog w0 227 [.agg (.val (.int .i64 a0.1) :: (.val (.string a0.2.1) :: (.val (.int .i64 a0.2.2.1) :: ((a0.2.2.2.1.cs) ++ ([.list (a0.2.2.2.2.map avV) .none]))))), .box la1 0] ⟨B, Rw, L⟩ fun x st => x = .val (.bool (ZeV a0 a1)) ∧ st = ⟨B, Rw, L⟩ := ZlN w0 B Rw L a0 la1 a1 hla1 _ rfl
def Zi6 (n : Nat) (a0 : Ty) (a1 : Int) : Option Int :=
 (idx a0.fields a1).bind fun x3 =>
 if x3.2.1.size ≤ maxLen then
  if !(Zln x3.2.1) then
   some (12)
  else
   if !(decide (1 ≤ x3.1) && decide (x3.1 ≤ 9999)) then
    some (2)
   else
    if 0 ≤ 0 ∧ 0 ≤ a1 ∧ a1 ≤ (a0.fields.length : Int) then
     (ZaF n (a0.fields.take a1.toNat) (fun (x0 : Int × ByteArray × Int × Ty × List Vl) => some (ZeV x0 x3))).bind fun y14 =>
     if y14 then
      some (7)
     else
      if (!(decide (1 ≤ x3.2.2.1) && decide (x3.2.2.1 ≤ 3))) || ((decide (a0.kind = 10)) && (!(decide (x3.2.2.1 = 1)))) then
       some (11)
      else
       if (decide (x3.2.2.1 = 3)) && (decide (((x3.2.2.2.2.length : Int)) = 0)) then
        some (4)
       else
        if (decide (1 < ((x3.2.2.2.2.length : Int)))) || ((!(decide (x3.2.2.1 = 3))) && (decide (0 < ((x3.2.2.2.2.length : Int))))) then
         some (3)
        else
         some (0)
    else none
 else none
theorem Znu (w0 : World) (n : Nat) (B : List (List AV)) (Rw : List RowA) (L : List LoopA) (a0 : Ty) (a1 : Int) (r : Int) (h : Zi6 n a0 a1 = some r) :
  ACalls Tryz.prog w0 195 [.agg (a0.cs), .val (.int .i64 a1)] ⟨B, Rw, L⟩ fun x st => x = .val (.int .i64 r) ∧ st = ⟨B, Rw, L⟩ := by
 rw [Zi6] at h
 refine hd [.tmp 4] Tryz.func195 Tryz.ntmps195 fun M0 W0 hN hNR hNL hcalm hu hO hs => ?_
 simp only [Zal]
 refine rg [1, 2] hs ?_
 obtain ⟨x3, hx3, h⟩ := bind_some h
 obtain ⟨hx3a, hx3b, hx3c⟩ := Zam hx3
 have hx3d := Zao (f := Zdz) hx3c
 have hs := And.intro hx3d hs
 refine rg [1, 2, 5] hs ?_
 apply Zac; intro K4 hK4
 apply Zaf
 obtain ⟨hg6, h⟩ := Zae h
 refine rc 2 [1, 2, 5, 11] hs ?_; intro K5 hK5
 refine Zad _ (Zi4 w0 _ _ _ x3.2.1 hg6) (hv hs) ?_
 refine ne hs hK5 ?_
 clear hK5
 refine cnd h hs (fun hs h => ?_) (fun hs h => ?_)
 ·
  refine rg [4] hs ?_
  exact rt h hs hcalm hO
 refine rc 2 [1, 2, 5, 16] hs ?_; intro K9 hK9
 refine Zad _ (ZkC w0 _ _ _ x3.1 1 9999) (hv hs) ?_
 refine ne hs hK9 ?_
 clear hK9
 refine cnd h hs (fun hs h => ?_) (fun hs h => ?_)
 ·
  refine rg [4] hs ?_
  exact rt h hs hcalm hO
 obtain ⟨hg13, h⟩ := Zae h
 obtain ⟨y14, hy14, h⟩ := bind_some h
 refine rc 2 [2, 5, 21] hs ?_; intro K12 hK12
 refine Zad _ (Za4 w0 n _ _ _ (a0.fields.take a1.toNat) 227 [.box (B.length + 1) 0] (fun (x0 : Int × ByteArray × Int × Ty × List Vl) => some (ZeV x0 x3)) (fun x0 r hx B' rows' hB' hR' => by cases hx; exact Zk1 w0 _ _ _ x0 _ x3 (ZbC hB' (ef hs))) _ hy14) (hv hs) ?_
 refine ne hs hK12 ?_
 clear hK12
 refine cnd h hs (fun hs h => ?_) (fun hs h => ?_)
 ·
  refine rg [4] hs ?_
  exact rt h hs hcalm hO
 refine rc 2 [5, 28] hs ?_; intro K17 hK17
 refine Zad _ (ZkC w0 _ _ _ x3.2.2.1 1 3) (hv hs) ?_
 refine ne hs hK17 ?_
 clear hK17
 refine cnd h hs (fun hs h => ?_) (fun hs h => ?_)
 ·
  refine rg [4] hs ?_
  exact rt h hs hcalm hO
 refine rg [5, 43] hs ?_
 refine cnd h hs (fun hs h => ?_) (fun hs h => ?_)
 ·
  refine rg [4] hs ?_
  exact rt h hs hcalm hO
 refine rg [53] hs ?_
 refine cnd h hs (fun hs h => ?_) (fun hs h => ?_)
 ·
  refine rg [4] hs ?_
  exact rt h hs hcalm hO
 refine sk [] hs hK4 ?_
 clear hK4
 refine rg [4] hs ?_
 exact rt h hs hcalm hO
def ZeN  (x5_k4 : Bool) : Int :=
 if x5_k4 then
  3
 else
  0
def ZhH (a0 : Ty) (a1 : Lim) : Int :=
 if (!a1.bounds) && ((!(decide (a0.min = 0))) || (!(decide (a0.max = 0)))) then
  ZeN  true
 else
  if (!a1.scale) && (!(decide (a0.scale = 0))) then
   ZeN  true
  else
   if (!a1.text) && (decide (0 < ((a0.words.length : Int)))) then
    ZeN  true
   else
    if (!a1.list) && (decide (0 < ((a0.elem.length : Int)))) then
     ZeN  true
    else
     ZeN  ((!a1.fields) && (decide (0 < ((a0.fields.length : Int)))))
theorem Zn3 (w0 : World) (B : List (List AV)) (Rw : List RowA) (L : List LoopA) (a0 : Ty) (a1 : Lim) (r : Int) (h : ZhH a0 a1 = r) :
  ACalls Tryz.prog w0 193 [.agg (a0.cs), .agg (.val (.string a1.name) :: (.val (.int .i64 a1.low) :: (.val (.int .i64 a1.high) :: (.val (.bool a1.bounds) :: (.val (.bool a1.scale) :: (.val (.bool a1.text) :: (.val (.bool a1.list) :: ([.val (.bool a1.fields)]))))))))] ⟨B, Rw, L⟩ fun x st => x = .val (.int .i64 r) ∧ st = ⟨B, Rw, L⟩ := by
 rw [ZhH] at h
 refine hd [.tmp 4] Tryz.func193 Tryz.ntmps193 fun M0 W0 hN hNR hNL hcalm hu hO hs => ?_
 simp only [Zal]
 refine rg [2, 3] hs ?_
 apply Zac; intro K2 hK2
 apply Zaf
 refine Zak (fun e st => ∃ (x5_k4 : Bool), Ck e st B Rw L [(5, true, .val (.bool x5_k4))] [a0.cs, .val (.string a1.name) :: (.val (.int .i64 a1.low) :: (.val (.int .i64 a1.high) :: (.val (.bool a1.bounds) :: (.val (.bool a1.scale) :: (.val (.bool a1.text) :: (.val (.bool a1.list) :: ([.val (.bool a1.fields)])))))))] [] (ZeN  x5_k4 = r)) ?_ ?_
 ·
  intro K5 hK5
  refine rg [2, 3, 5] hs ?_
  refine cnd h hs (fun hs h => ?_) (fun hs h => ?_)
  ·
   refine sk [5] hs hK5 ?_
   exact ⟨true, ([]), Rw, ef hs, ef hs, hO, h⟩
  refine rg [2, 3, 5] hs ?_
  refine cnd h hs (fun hs h => ?_) (fun hs h => ?_)
  ·
   refine sk [5] hs hK5 ?_
   exact ⟨true, ([]), Rw, ef hs, ef hs, hO, h⟩
  refine rg [2, 3, 5] hs ?_
  refine cnd h hs (fun hs h => ?_) (fun hs h => ?_)
  ·
   refine sk [5] hs hK5 ?_
   exact ⟨true, ([]), Rw, ef hs, ef hs, hO, h⟩
  refine rg [2, 3, 5] hs ?_
  refine cnd h hs (fun hs h => ?_) (fun hs h => ?_)
  ·
   refine sk [5] hs hK5 ?_
   exact ⟨true, ([]), Rw, ef hs, ef hs, hO, h⟩
  refine rl [5] hs hK5 ?_
  exact ⟨((!a1.fields) && (decide (0 < ((a0.fields.length : Int))))), ([]), Rw, ef hs, ef hs, hO, h⟩
 ·
  clear h; rintro e st ⟨x5_k4, Xk4, Rk4, rfl, rfl, hO, h⟩
  rw [ZeN] at h
  refine td hN hNR hNL hcalm hO ?_
  refine cnd h hs (fun hs h => ?_) (fun hs h => ?_)
  ·
   have hb14 := hs.1
   refine rg [4] hs ?_
   apply Zaj; simp +decide only [go_sem, Nat.reduceAdd, hb14]
   subst h
   first | refine Zaz hcalm rfl hO.pre ev ⟨?_, rfl⟩ | refine Za5 hcalm rfl hO.pre ev ⟨?_, rfl⟩
   first | rfl | (simp +decide only [go_sem, Nat.reduceAdd, hb14]; done) | (simp +decide only [go_sem, Nat.reduceAdd, Vl.cs, Ty.cs, hb14]; done)
  have hb14 := hs.1
  refine sk [] hs hK2 ?_
  clear hK2
  refine rg [4] hs ?_
  apply Zaj; simp +decide only [go_sem, Nat.reduceAdd, hb14]
  subst h
  first | refine Zaz hcalm rfl hO.pre ev ⟨?_, rfl⟩ | refine Za5 hcalm rfl hO.pre ev ⟨?_, rfl⟩
  first | rfl | (simp +decide only [go_sem, Nat.reduceAdd, hb14]; done) | (simp +decide only [go_sem, Nat.reduceAdd, Vl.cs, Ty.cs, hb14]; done)
theorem ZnP (w0 : World) (B : List (List AV)) (Rw : List RowA) (L : List LoopA) (a0 : Ty) (a1 : Lim) :
  ACalls Tryz.prog w0 193 [.agg (a0.cs), .agg (.val (.string a1.name) :: (.val (.int .i64 a1.low) :: (.val (.int .i64 a1.high) :: (.val (.bool a1.bounds) :: (.val (.bool a1.scale) :: (.val (.bool a1.text) :: (.val (.bool a1.list) :: ([.val (.bool a1.fields)]))))))))] ⟨B, Rw, L⟩ fun x st => x = .val (.int .i64 (ZhH a0 a1)) ∧ st = ⟨B, Rw, L⟩ := Zn3 w0 B Rw L a0 a1 _ rfl
def Zgy  : ((List Lim)) :=
 [Lim.mk ((⟨#[]⟩ : ByteArray)) 0 0 false false false false false, Lim.mk ((⟨#[98, 111, 111, 108]⟩ : ByteArray)) 0 0 false false false false false, Lim.mk ((⟨#[105, 110, 116]⟩ : ByteArray)) ((-999999999999999)) 999999999999999 true false false false false, Lim.mk ((⟨#[100, 101, 99, 105, 109, 97, 108]⟩ : ByteArray)) ((-999999999999999)) 999999999999999 true true false false false, Lim.mk ((⟨#[116, 101, 120, 116]⟩ : ByteArray)) 0 1024 true false true false false, Lim.mk ((⟨#[98, 121, 116, 101, 115]⟩ : ByteArray)) 0 1024 true false false false false, Lim.mk ((⟨#[100, 97, 116, 101]⟩ : ByteArray)) ((-719162)) 2932896 true false false false false, Lim.mk ((⟨#[116, 105, 109, 101]⟩ : ByteArray)) ((-62135596800000)) 253402300799999 true false false false false, Lim.mk ((⟨#[108, 105, 115, 116]⟩ : ByteArray)) 0 256 true false false true false, Lim.mk ((⟨#[114, 101, 99, 111, 114, 100]⟩ : ByteArray)) 0 0 false false false false true, Lim.mk ((⟨#[118, 97, 114, 105, 97, 110, 116]⟩ : ByteArray)) 0 0 false false false false true]
theorem ZnW (w0 : World) (B : List (List AV)) (Rw : List RowA) (L : List LoopA)  (r : (List Lim)) (h : Zgy  = r) :
  ACalls Tryz.prog w0 192 [] ⟨B, Rw, L⟩ fun x st => x = .agg (r.flatMap fun x => (ZpM x).cells) ∧ st = ⟨B, Rw, L⟩ := by
 rw [Zgy] at h
 refine hd [.cell 0 185] Tryz.func192 Tryz.ntmps192 fun M0 W0 hN hNR hNL hcalm hu hO hs => ?_
 simp only [Zal]
 refine rg [0] hs ?_
 apply Zac; intro K2 hK2
 apply Zab 1 [0]
 rw [Zaa]; simp +decide only [go_sem, Nat.reduceAdd, ZaW, Zat, Zar, List.getElem?_cons_zero, List.getElem?_cons_succ, List.nil_append, List.cons_append]
 (repeat' apply And.intro) <;> first | refine hK2 _ _ ?_ | exact cl
 clear hK2
 apply Zaj; simp +decide only [go_sem, Nat.reduceAdd]
 subst h
 first | refine Zaz hcalm rfl hO.pre ev ⟨?_, rfl⟩ | refine Za5 hcalm rfl hO.pre ev ⟨?_, rfl⟩
 first | rfl | (simp +decide only [go_sem, Nat.reduceAdd]; done) | (simp +decide only [go_sem, Nat.reduceAdd, Vl.cs, Ty.cs]; done)
theorem ZmI (w0 : World) (B : List (List AV)) (Rw : List RowA) (L : List LoopA)  :
  ACalls Tryz.prog w0 192 [] ⟨B, Rw, L⟩ fun x st => x = .agg ((Zgy ).flatMap fun x => (ZpM x).cells) ∧ st = ⟨B, Rw, L⟩ := ZnW w0 B Rw L  _ rfl
def ZfS (a0 : ByteArray) : Vl :=
 Vl.mk 4 0 0 a0 ([]) ([])
theorem Zoi (w0 : World) (B : List (List AV)) (Rw : List RowA) (L : List LoopA) (a0 : ByteArray) (r : Vl) (h : ZfS a0 = r) :
  ACalls Tryz.prog w0 168 [.val (.string a0)] ⟨B, Rw, L⟩ fun x st => x = .agg (r.cs) ∧ st = ⟨B, Rw, L⟩ := by
 rw [ZfS] at h
 refine hd [.cell 2 46] Tryz.func168 Tryz.ntmps168 fun M0 W0 hN hNR hNL hcalm hu hO hs => ?_
 simp only [Zal]
 refine rg [0, 2] hs ?_
 apply Zac; intro K2 hK2
 apply Zab 1 [2]
 rw [Zaa]; simp +decide only [go_sem, Nat.reduceAdd, ZaW, Zat, Zar]
 (repeat' apply And.intro) <;> first | refine hK2 _ _ ?_ | exact cl
 clear hK2
 apply Zaj; simp +decide only [go_sem, Nat.reduceAdd]
 subst h
 first | refine Zaz hcalm rfl hO.pre ev ⟨?_, rfl⟩ | refine Za5 hcalm rfl hO.pre ev ⟨?_, rfl⟩
 first | rfl | (simp +decide only [go_sem, Nat.reduceAdd]; done) | (simp +decide only [go_sem, Nat.reduceAdd, Vl.cs, Ty.cs]; done)
theorem Zkj (w0 : World) (B : List (List AV)) (Rw : List RowA) (L : List LoopA) (a0 : ByteArray) :
  ACalls Tryz.prog w0 168 [.val (.string a0)] ⟨B, Rw, L⟩ fun x st => x = .agg ((ZfS a0).cs) ∧ st = ⟨B, Rw, L⟩ := Zoi w0 B Rw L a0 _ rfl
def Zht (n : Nat)  : Option Int :=
 some (0)
def ZeT (n : Nat) (a0 : Ty) : Nat → Int → Option Int
 | 0, _ => none
 | m + 1, x23_l13 =>
  if decide (x23_l13 < ((a0.words.length : Int))) then
   (idx a0.words x23_l13).bind fun x19 =>
   (ZgJ n (ZfS x19)).bind fun y22 =>
   if !(decide (y22 = 0)) then
    some (y22)
   else
    if decide (0 < x23_l13) then
     if I64 (x23_l13 - 1) then
      (idx a0.words (x23_l13 - 1)).bind fun x30 =>
      if sEq x19 x30 then
       some (7)
      else
       if I64 (x23_l13 - 1) then
        if sLt x19 x30 then
         some (24)
        else
         if I64 (x23_l13 + 1) then
          (ZeT n a0 m) (x23_l13 + 1)
         else none
       else none
     else none
    else
     if I64 (x23_l13 + 1) then
      (ZeT n a0 m) (x23_l13 + 1)
     else none
  else
   Zht n 
def ZjK (n : Nat) (a0 : Ty) : Option Int :=
 if (!(decide (a0.min = 0))) || (!(decide (a0.max = 0))) then
  some (3)
 else
  if decide (64 < ((a0.words.length : Int))) then
   some (9)
  else
   ZeT n a0 n 0
theorem ZnC (w0 : World) (hT : Lib.Utf8Tabs 0 1 w0) (n : Nat) (B : List (List AV)) (Rw : List RowA) (L : List LoopA) (a0 : Ty) (r : Int) (h : ZjK n a0 = some r) :
  ACalls Tryz.prog w0 194 [.agg (a0.cs)] ⟨B, Rw, L⟩ fun x st => x = .val (.int .i64 r) ∧ st = ⟨B, Rw, L⟩ := by
 rw [ZjK] at h
 refine hd [.tmp 2] Tryz.func194 Tryz.ntmps194 fun M0 W0 hN hNR hNL hcalm hu hO hs => ?_
 simp only [Zal]
 refine rg [1] hs ?_
 apply Zac; intro K2 hK2
 apply Zaf
 refine rg [1, 6] hs ?_
 refine cnd h hs (fun hs h => ?_) (fun hs h => ?_)
 ·
  refine rg [2] hs ?_
  exact rt h hs hcalm hO
 refine rg [1, 15] hs ?_
 refine cnd h hs (fun hs h => ?_) (fun hs h => ?_)
 ·
  refine rg [2] hs ?_
  exact rt h hs hcalm hO
 refine sk [1] hs hK2 ?_
 clear hK2
 refine Zak (fun e st => Ck e st B Rw L [] [a0.cs] [] (Zht n  = some r)) ?_ ?_
 ·
  intro K11 hK11
  refine rg [1, 21, 22, 23] hs ?_
  apply Zaf
  refine Zap (fun m e st => ∃ (x23_l13 : Int), Ck e st B Rw L [(1, true, .box B.length 0), (21, true, .list (a0.words.map avS) .none), (22, true, .val (.int .i64 ((a0.words.length : Int)))), (23, true, .val (.int .i64 x23_l13))] [a0.cs] [] (ZeT n a0 m x23_l13 = some r)) n ⟨0, ([]), Rw, ef hs, ef hs, hO, h⟩ ?_
  rintro ml13 e st ⟨x23_l13, Xl13, Rl13, rfl, rfl, hO, h⟩ Ul13 Vl13
  cases ml13 with
  | zero => cases h
  | succ ml13 =>
  rw [ZeT] at h
  refine td hN hNR hNL hcalm hO ?_
  refine rg [1, 21, 22, 23, 24] hs ?_
  apply Zac; intro K15 hK15
  refine cnd h hs (fun hs h => ?_) (fun hs h => ?_)
  rotate_left
  ·
   refine sx [] hs hK11 ?_
   exact ⟨([]), Rl13, ef hs, ef hs, hO, h⟩
  refine sk [1, 21, 22, 23] hs hK15 ?_
  clear hK15
  apply Zac; intro K17 hK17
  apply Zaf
  obtain ⟨x19, hx19, h⟩ := bind_some h
  obtain ⟨hx19a, hx19b, hx19c⟩ := Zam hx19
  have hx19d := Zao (f := avS) hx19c
  have hs := And.intro hx19d hs
  refine rg [1, 3, 4, 21, 22, 23] hs ?_
  apply Zac; intro K20 hK20
  obtain ⟨y22, hy22, h⟩ := bind_some h
  refine rc 3 [1, 3, 4, 5, 21, 22, 23] hs ?_; intro K21 hK21
  refine Zad _ (Zkj w0 _ _ _ x19) (hv hs) ?_
  refine nc hs ?_
  refine Zad _ (ZgU w0 hT n _ _ _ (ZfS x19) _ hy22) (hv hs) ?_
  refine ne hs hK21 ?_
  clear hK21
  refine rg [1, 3, 4, 5, 21, 22, 23, 32] hs ?_
  refine cnd h hs (fun hs h => ?_) (fun hs h => ?_)
  ·
   refine rg [2] hs ?_
   exact rt h hs hcalm hO
  refine sk [1, 3, 4, 21, 22, 23] hs hK20 ?_
  clear hK20
  apply Zac; intro K26 hK26
  apply Zac; intro K27 hK27
  rcases Bool.eq_false_or_eq_true (decide (0 < x23_l13)) with hf28 | hf28
  ·
   replace h := ZaC h hf28
   obtain ⟨hg29, h⟩ := Zae h
   obtain ⟨x30, hx30a, hx30b, hx30d, h⟩ := ix avS h
   have hs := And.intro hf28 hs
   have hs := And.intro hx30d hs
   refine rl [1, 3, 4, 21, 22, 23, 45] hs hK27 ?_
   clear hK27
   refine cnd h hs (fun hs h => ?_) (fun hs h => ?_)
   ·
    refine rg [2] hs ?_
    exact rt h hs hcalm hO
   refine sk [1, 3, 4, 21, 22, 23] hs hK26 ?_
   clear hK26
   obtain ⟨hg34, h⟩ := Zae h
   refine rg [1, 21, 22, 23, 57] hs ?_
   refine cnd h hs (fun hs h => ?_) (fun hs h => ?_)
   ·
    refine rg [2] hs ?_
    exact rt h hs hcalm hO
   refine sk [1, 21, 22, 23] hs hK17 ?_
   clear hK17
   obtain ⟨hg37, h⟩ := Zae h
   refine rl [1, 21, 22, 23] hs (fun e s => Vl13 ml13 e s (Nat.lt_succ_self _)) ?_
   exact ⟨(x23_l13 + 1), ([]), Rl13, ef hs, ef hs, hO, h⟩
  ·
   replace h := ZaD h hf28
   have hs := And.intro hf28 hs
   refine rl [1, 3, 4, 21, 22, 23, 45] hs hK27 ?_
   clear hK27
   refine Zav false ev (ef hs) (fun hb38 => by cases hb38) (fun hb38 => ?_)
   refine sk [1, 3, 4, 21, 22, 23] hs hK26 ?_
   clear hK26
   refine rg [1, 21, 22, 23, 57] hs ?_
   refine Zav false ev (ef hs) (fun hb40 => by cases hb40) (fun hb40 => ?_)
   refine sk [1, 21, 22, 23] hs hK17 ?_
   clear hK17
   obtain ⟨hg41, h⟩ := Zae h
   refine rl [1, 21, 22, 23] hs (fun e s => Vl13 ml13 e s (Nat.lt_succ_self _)) ?_
   exact ⟨(x23_l13 + 1), ([]), Rl13, ef hs, ef hs, hO, h⟩
 ·
  clear h; rintro e st ⟨Xk10, Rk10, rfl, rfl, hO, h⟩
  rw [Zht] at h
  refine td hN hNR hNL hcalm hO ?_
  refine rg [2] hs ?_
  exact rt h hs hcalm hO
def Zi3 (n : Nat)  : Option Int :=
 some (0)
def ZhV (n : Nat) (a0 : Ty) : Nat → Int → Option Int
 | 0, _ => none
 | m + 1, x106_l48 =>
  if decide (x106_l48 < ((a0.fields.length : Int))) then
   (Zi6 n a0 x106_l48).bind fun y55 =>
   if !(decide (y55 = 0)) then
    some (y55)
   else
    if I64 (x106_l48 + 1) then
     (ZhV n a0 m) (x106_l48 + 1)
    else none
  else
   Zi3 n 
def Zhz (n : Nat) (a0 : Ty) (x69_k32 : Bool) : Option Int :=
 if x69_k32 then
  some (4)
 else
  if (decide (a0.kind = 8)) && (decide (1 < ((a0.elem.length : Int)))) then
   some (3)
  else
   if decide (64 < ((a0.fields.length : Int))) then
    some (9)
   else
    ZhV n a0 n 0
def ZhA (n : Nat) (a0 : Ty) : Option Int :=
 if (decide (a0.kind = 8)) && (decide (((a0.elem.length : Int)) = 0)) then
  Zhz n a0 true
 else
  Zhz n a0 ((decide (a0.kind = 10)) && (decide (((a0.fields.length : Int)) = 0)))
def ZhB (n : Nat) (a0 : Ty) (x37_k24 : Bool) : Option Int :=
 if x37_k24 then
  some (2)
 else
  ZhA n a0 
def ZmF (n : Nat) (a0 : Ty) : Option Int :=
 if !(decide (1 ≤ a0.kind) && decide (a0.kind ≤ 10)) then
  some (11)
 else
  (idx (Zgy ) a0.kind).bind fun x7 =>
  if !(decide ((ZhH a0 x7) = 0)) then
   some (ZhH a0 x7)
  else
   if (decide (a0.kind = 4)) && (decide (0 < ((a0.words.length : Int)))) then
    (ZjK n a0).bind fun y19 =>
    if !(decide (y19 = 0)) then
     some (y19)
    else
     ZhA n a0 
   else
    if x7.bounds && (((decide (a0.max < a0.min)) || (decide (a0.min < x7.low))) || (decide (x7.high < a0.max))) then
     ZhB n a0 true
    else
     ZhB n a0 (x7.scale && (!(decide (0 ≤ a0.scale) && decide (a0.scale ≤ 12))))
theorem Zqy (w0 : World) (hT : Lib.Utf8Tabs 0 1 w0) (n : Nat) (B : List (List AV)) (Rw : List RowA) (L : List LoopA) (a0 : Ty) (r : Int) (h : ZmF n a0 = some r) :
  ACalls Tryz.prog w0 135 [.agg (a0.cs)] ⟨B, Rw, L⟩ fun x st => x = .val (.int .i64 r) ∧ st = ⟨B, Rw, L⟩ := by
 rw [ZmF] at h
 refine hd [.tmp 2] Tryz.func135 Tryz.ntmps135 fun M0 W0 hN hNR hNL hcalm hu hO hs => ?_
 simp only [Zal]
 refine rg [1] hs ?_
 apply Zac; intro K2 hK2
 refine rc 2 [1, 11] hs ?_; intro K3 hK3
 refine Zad _ (ZkC w0 _ _ _ a0.kind 1 10) (hv hs) ?_
 refine ne hs hK3 ?_
 clear hK3
 refine cnd h hs (fun hs h => ?_) (fun hs h => ?_)
 ·
  have hb4 := hs.1
  refine rg [2] hs ?_
  exact rt h hs hcalm hO
 have hb4 := hs.1
 refine sk [1] hs hK2 ?_
 clear hK2
 apply Zac; intro K6 hK6
 obtain ⟨x7, hx7, h⟩ := bind_some h
 obtain ⟨hx7a, hx7b, hx7c⟩ := Zam hx7
 have hx7d := Zdo (f := fun x => (ZpM x).cells) 8 (fun _ => rfl) hx7c
 have hx7n : (Zgy ).length = 11 := rfl
 first | rw [hx7n] at hx7b | simp only [List.length_cons, List.length_nil, Nat.reduceAdd, Nat.zero_add] at hx7b
 simp only [Zeu, Zez, Zey, Zex, Zev, Zed, Zc4, Zc8, Zew, ZbJ, ZbM, Zc7, Zc3, Zc2, ZeQ] at hx7d
 apply ZfH mix [4, 5] [1, 3] (by kernel_rfl) (fun s => ∃ (X : List (List AV)) (rows : List RowA), s = ⟨B ++ ([a0.cs] ++ X), rows, L⟩) 3 (B.length + 1)
 ·
  simp +decide only [go_sem, Nat.reduceAdd]
 ·
  rintro s ⟨X, rows, rfl⟩
  refine ⟨2, ?_⟩
  rw [Zaa]; simp +decide only [go_sem, Nat.reduceAdd, Zdr, hb4, hx7d, Nat.mul_one]
  (repeat' apply And.intro) <;> first | refine Zad _ (ZmI w0 _ _ _ ) (by first | rfl | (simp +decide only [go_sem, Nat.reduceAdd, hb4, hx7d, Nat.mul_one]; done) | (simp +decide only [go_sem, Nat.reduceAdd, Vl.cs, Ty.cs, hb4, hx7d, Nat.mul_one]; done)) ?_ | exact cl
  rw [Zaa]; simp +decide only [go_sem, Nat.reduceAdd, hb4, hx7d, Nat.mul_one]
  (repeat' apply And.intro) <;> first | rfl | exact cl
 ·
  refine Good.mk [4] (by kernel_rfl) ⟨[], _, by first | rfl | simp only [List.append_nil, List.nil_append]⟩ ?_ ?_
  ·
   intro h; exact absurd h (by decide)
  ·
   intro i hi; simp only [List.mem_cons, List.not_mem_nil, or_false] at hi
   subst hi
   ·
    apply ZbL rfl rfl ev
    ·
     simp +decide only [go_sem, Nat.reduceAdd, ZdI, hb4, hx7d, Nat.mul_one]
     (repeat' apply And.intro) <;> first | rfl | exact cl
    ·
     simp +decide only [go_sem, Nat.reduceAdd, hb4, hx7d, Nat.mul_one]
     refine Good.mk [5] (by kernel_rfl) ⟨_, _, by first | rfl | simp only [List.append_nil, List.nil_append]⟩ ?_ ?_
     ·
      intro h; exact absurd h (by decide)
     ·
      intro i hi; simp only [List.mem_cons, List.not_mem_nil, or_false] at hi
      subst hi
      ·
       apply ZbL rfl rfl ev
       ·
        simp +decide only [go_sem, Nat.reduceAdd, ZdI, hb4, hx7d, Nat.mul_one]
        (repeat' apply And.intro) <;> first | rfl | exact cl
       ·
        simp +decide only [go_sem, Nat.reduceAdd, hb4, hx7d, Nat.mul_one]
        refine Good.mk [] (by kernel_rfl) ⟨_, _, by first | rfl | simp only [List.append_nil, List.nil_append]⟩ ?_ ?_
        ·
         intro _; apply Zbw [1, 3]; first | (simp +decide only [go_sem, Nat.reduceAdd, hb4, hx7d, Nat.mul_one]; done) | (simp +decide only [go_sem, Nat.reduceAdd, hb4, hx7d, Nat.mul_one]; rfl)
        ·
         intro i hi; cases hi
 simp +decide only [go_sem, Nat.reduceAdd, hb4, hx7d, Nat.mul_one]
 (repeat' apply And.intro) <;> first | refine hK6 _ _ ?_ | exact cl
 clear hK6
 apply Zac; intro K8 hK8
 have hs := And.intro hx7d hs
 refine rc 2 [1, 3, 4] hs ?_; intro K9 hK9
 refine Zad _ (ZnP w0 _ _ _ a0 x7) (hv hs) ?_
 refine ne hs hK9 ?_
 clear hK9
 refine rg [1, 3, 4, 20] hs ?_
 refine cnd h hs (fun hs h => ?_) (fun hs h => ?_)
 ·
  refine rg [2] hs ?_
  exact rt h hs hcalm hO
 refine sk [1, 3] hs hK8 ?_
 clear hK8
 refine Zak (fun e st => Ck e st B Rw L [(1, true, .box B.length 0)] [a0.cs, .val (.string x7.name) :: (.val (.int .i64 x7.low) :: (.val (.int .i64 x7.high) :: (.val (.bool x7.bounds) :: (.val (.bool x7.scale) :: (.val (.bool x7.text) :: (.val (.bool x7.list) :: ([.val (.bool x7.fields)])))))))] [] (ZhA n a0  = some r)) ?_ ?_
 ·
  intro K15 hK15
  apply Zaf
  refine rg [1, 3, 22] hs ?_
  refine cnd h hs (fun hs h => ?_) (fun hs h => ?_)
  ·
   obtain ⟨y19, hy19, h⟩ := bind_some h
   refine rc 2 [1, 5] hs ?_; intro K18 hK18
   refine Zad _ (ZnC w0 hT n _ _ _ a0 _ hy19) (hv hs) ?_
   refine ne hs hK18 ?_
   clear hK18
   refine rg [1, 5, 35] hs ?_
   refine cnd h hs (fun hs h => ?_) (fun hs h => ?_)
   ·
    refine rg [2] hs ?_
    exact rt h hs hcalm hO
   refine sk [1] hs hK15 ?_
   exact ⟨([]), Rw, ef hs, ef hs, hO, h⟩
  refine Zak (fun e st => ∃ (x37_k24 : Bool), Ck e st B Rw L [(1, true, .box B.length 0), (37, true, .val (.bool x37_k24))] [a0.cs, .val (.string x7.name) :: (.val (.int .i64 x7.low) :: (.val (.int .i64 x7.high) :: (.val (.bool x7.bounds) :: (.val (.bool x7.scale) :: (.val (.bool x7.text) :: (.val (.bool x7.list) :: ([.val (.bool x7.fields)])))))))] [] (ZhB n a0 x37_k24 = some r)) ?_ ?_
  ·
   intro K25 hK25
   refine rg [1, 3, 37] hs ?_
   refine cnd h hs (fun hs h => ?_) (fun hs h => ?_)
   ·
    refine sk [1, 37] hs hK25 ?_
    exact ⟨true, ([]), Rw, ef hs, ef hs, hO, h⟩
   refine rk 2 [1, 37] hs ?_
   refine ZdZ _ (fun _ => ZkC w0 _ _ _ a0.scale 0 12) (hv hs) ?_
   refine ne hs hK25 ?_
   exact ⟨(x7.scale && (!(decide (0 ≤ a0.scale) && decide (a0.scale ≤ 12)))), ([]), Rw, ef hs, ef hs, hO, h⟩
  ·
   clear h; rintro e st ⟨x37_k24, Xk24, Rk24, rfl, rfl, hO, h⟩
   rw [ZhB] at h
   refine td hN hNR hNL hcalm hO ?_
   refine cnd h hs (fun hs h => ?_) (fun hs h => ?_)
   ·
    refine rg [2] hs ?_
    exact rt h hs hcalm hO
   refine sk [1] hs hK15 ?_
   exact ⟨([]), Rk24, ef hs, ef hs, hO, h⟩
 ·
  clear h; rintro e st ⟨Xk14, Rk14, rfl, rfl, hO, h⟩
  rw [ZhA] at h
  refine td hN hNR hNL hcalm hO ?_
  apply Zac; intro K30 hK30
  apply Zaf
  refine Zak (fun e st => ∃ (x69_k32 : Bool), Ck e st B Rw L [(1, true, .box B.length 0), (69, true, .val (.bool x69_k32))] [a0.cs, .val (.string x7.name) :: (.val (.int .i64 x7.low) :: (.val (.int .i64 x7.high) :: (.val (.bool x7.bounds) :: (.val (.bool x7.scale) :: (.val (.bool x7.text) :: (.val (.bool x7.list) :: ([.val (.bool x7.fields)])))))))] [] (Zhz n a0 x69_k32 = some r)) ?_ ?_
  ·
   intro K33 hK33
   refine rg [1, 69] hs ?_
   refine cnd h hs (fun hs h => ?_) (fun hs h => ?_)
   ·
    refine sk [1, 69] hs hK33 ?_
    exact ⟨true, ([]), Rk14, ef hs, ef hs, hO, h⟩
   refine rl [1, 69] hs hK33 ?_
   exact ⟨((decide (a0.kind = 10)) && (decide (((a0.fields.length : Int)) = 0))), ([]), Rk14, ef hs, ef hs, hO, h⟩
  ·
   clear h; rintro e st ⟨x69_k32, Xk32, Rk32, rfl, rfl, hO, h⟩
   rw [Zhz] at h
   refine td hN hNR hNL hcalm hO ?_
   refine cnd h hs (fun hs h => ?_) (fun hs h => ?_)
   ·
    refine rg [2] hs ?_
    exact rt h hs hcalm hO
   refine rg [1, 88] hs ?_
   refine cnd h hs (fun hs h => ?_) (fun hs h => ?_)
   ·
    refine rg [2] hs ?_
    exact rt h hs hcalm hO
   refine rg [1, 98] hs ?_
   refine cnd h hs (fun hs h => ?_) (fun hs h => ?_)
   ·
    refine rg [2] hs ?_
    exact rt h hs hcalm hO
   refine sk [1] hs hK30 ?_
   clear hK30
   refine Zak (fun e st => Ck e st B Rw L [] [a0.cs, .val (.string x7.name) :: (.val (.int .i64 x7.low) :: (.val (.int .i64 x7.high) :: (.val (.bool x7.bounds) :: (.val (.bool x7.scale) :: (.val (.bool x7.text) :: (.val (.bool x7.list) :: ([.val (.bool x7.fields)])))))))] [] (Zi3 n  = some r)) ?_ ?_
   ·
    intro K46 hK46
    refine rg [1, 105, 106] hs ?_
    apply Zaf
    refine Zap (fun m e st => ∃ (x106_l48 : Int), Ck e st B Rw L [(1, true, .box B.length 0), (105, true, .val (.int .i64 ((a0.fields.length : Int)))), (106, true, .val (.int .i64 x106_l48))] [a0.cs, .val (.string x7.name) :: (.val (.int .i64 x7.low) :: (.val (.int .i64 x7.high) :: (.val (.bool x7.bounds) :: (.val (.bool x7.scale) :: (.val (.bool x7.text) :: (.val (.bool x7.list) :: ([.val (.bool x7.fields)])))))))] [] (ZhV n a0 m x106_l48 = some r)) n ⟨0, ([]), Rk32, ef hs, ef hs, hO, h⟩ ?_
    rintro ml48 e st ⟨x106_l48, Xl48, Rl48, rfl, rfl, hO, h⟩ Ul48 Vl48
    cases ml48 with
    | zero => cases h
    | succ ml48 =>
    rw [ZhV] at h
    refine td hN hNR hNL hcalm hO ?_
    refine rg [1, 105, 106, 107] hs ?_
    apply Zac; intro K50 hK50
    refine cnd h hs (fun hs h => ?_) (fun hs h => ?_)
    rotate_left
    ·
     refine sx [] hs hK46 ?_
     exact ⟨([]), Rl48, ef hs, ef hs, hO, h⟩
    refine sk [1, 105, 106] hs hK50 ?_
    clear hK50
    apply Zac; intro K52 hK52
    apply Zaf
    refine rg [1, 6, 105, 106] hs ?_
    obtain ⟨y55, hy55, h⟩ := bind_some h
    refine rc 2 [1, 7, 105, 106] hs ?_; intro K54 hK54
    refine Zad _ (Znu w0 n _ _ _ a0 x106_l48 _ hy55) (hv hs) ?_
    refine ne hs hK54 ?_
    clear hK54
    refine rg [1, 7, 105, 106, 113] hs ?_
    refine cnd h hs (fun hs h => ?_) (fun hs h => ?_)
    ·
     refine rg [2] hs ?_
     exact rt h hs hcalm hO
    refine sk [1, 105, 106] hs hK52 ?_
    clear hK52
    obtain ⟨hg59, h⟩ := Zae h
    refine rl [1, 105, 106] hs (fun e s => Vl48 ml48 e s (Nat.lt_succ_self _)) ?_
    exact ⟨(x106_l48 + 1), ([]), Rl48, ef hs, ef hs, hO, h⟩
   ·
    clear h; rintro e st ⟨Xk45, Rk45, rfl, rfl, hO, h⟩
    rw [Zi3] at h
    refine td hN hNR hNL hcalm hO ?_
    refine rg [2] hs ?_
    exact rt h hs hcalm hO
def Zhn (n : Nat)  (x3_k19 : List Ty) : Option ((List Ty)) :=
 some (x3_k19)
def Zit (n : Nat)  : Option ((List Ty)) :=
 some ([])
def Zf1 (n : Nat) (a0 : Ty) : Nat → (List Ty) → Int → Option ((List Ty))
 | 0, _, _ => none
 | m + 1, x3_l22, x22_l22 =>
  if decide (x22_l22 < ((a0.fields.length : Int))) then
   (idx a0.fields x22_l22).bind fun x28 =>
   if (x3_l22.length + 1) * 104 ≤ 140737488355328 ∧ x3_l22.length + 1 ≤ 4611686018427387904 then
    if I64 (x22_l22 + 1) then
     (Zf1 n a0 m) (x3_l22 ++ ([x28.2.2.2.1])) (x22_l22 + 1)
    else none
   else none
  else
   Zhn n x3_l22
def ZfI (n : Nat) (a0 : Ty) (x12_k10 : Bool) : Option ((List Ty)) :=
 if x12_k10 then
  if 0 ≤ (a0.fields.length : Int) ∧ ((a0.fields.length : Int)) * 104 ≤ 140737488355328 ∧ (a0.fields.length : Int) ≤ 4611686018427387904 then
   Zf1 n a0 n ([]) 0
  else none
 else
  Zit n 
def Zjp (n : Nat) (a0 : Ty) : Option ((List Ty)) :=
 if decide (a0.kind = 8) then
  some (a0.elem)
 else
  if decide (a0.kind = 9) then
   ZfI n a0 true
  else
   ZfI n a0 (decide (a0.kind = 10))
theorem Zno (w0 : World) (n : Nat) (B : List (List AV)) (Rw : List RowA) (L : List LoopA) (a0 : Ty) (r : (List Ty)) (h : Zjp n a0 = some r) :
  ACalls Tryz.prog w0 51 [.agg (a0.cs)] ⟨B, Rw, L⟩ fun x st => x = .list (r.map avT) .none ∧ st = ⟨B, Rw, L⟩ := by
 rw [Zjp] at h
 refine hd [.tmp 2] Tryz.func51 Tryz.ntmps51 fun M0 W0 hN hNR hNL hcalm hu hO hs => ?_
 simp only [Zal]
 refine rg [1] hs ?_
 refine Zak (fun e st => Ck e st B Rw L [] [a0.cs] [] (Zit n  = some r)) ?_ ?_
 ·
  intro K4 hK4
  refine rg [1, 7] hs ?_
  apply Zaf
  refine rg [1, 7, 8] hs ?_
  refine cnd h hs (fun hs h => ?_) (fun hs h => ?_)
  ·
   refine rg [2] hs ?_
   exact rt h hs hcalm hO
  refine Zak (fun e st => ∃ (x12_k10 : Bool), Ck e st B Rw L [(1, true, .box B.length 0), (12, true, .val (.bool x12_k10))] [a0.cs] [] (ZfI n a0 x12_k10 = some r)) ?_ ?_
  ·
   intro K11 hK11
   refine rg [1, 7, 12] hs ?_
   refine cnd h hs (fun hs h => ?_) (fun hs h => ?_)
   ·
    refine sk [1, 12] hs hK11 ?_
    exact ⟨true, ([]), Rw, ef hs, ef hs, hO, h⟩
   refine rl [1, 12] hs hK11 ?_
   exact ⟨(decide (a0.kind = 10)), ([]), Rw, ef hs, ef hs, hO, h⟩
  ·
   clear h; rintro e st ⟨x12_k10, Xk10, Rk10, rfl, rfl, hO, h⟩
   rw [ZfI] at h
   refine td hN hNR hNL hcalm hO ?_
   refine cnd h hs (fun hs h => ?_) (fun hs h => ?_)
   ·
    obtain ⟨hg16, h⟩ := Zae h
    have hO := hO.make 7 0
    refine rg [1, 3] hs ?_
    refine Zak (fun e st => ∃ (x3_k19 : List Ty) (ox3_k19 : Ev.Own), Ck e st B Rw L [(3, true, .list (x3_k19.map avT) ox3_k19)] [a0.cs] [(7, x3_k19.length, ox3_k19)] (Zhn n x3_k19 = some r)) ?_ ?_
    ·
     intro K20 hK20
     refine rg [3, 20, 21, 22] hs ?_
     apply Zaf
     refine Zap (fun m e st => ∃ (x3_l22 : List Ty) (x22_l22 : Int) (ox3_l22 : Ev.Own), Ck e st B Rw L [(3, true, .list (x3_l22.map avT) ox3_l22), (20, true, .list (a0.fields.map Zdz) .none), (21, true, .val (.int .i64 ((a0.fields.length : Int)))), (22, true, .val (.int .i64 x22_l22))] [a0.cs] [(7, x3_l22.length, ox3_l22)] (Zf1 n a0 m x3_l22 x22_l22 = some r)) n ⟨([]), 0, ((.row Rk10.length)), ([]), ((Rk10 ++ [.grow 0 7])), ef hs, ef hs, Owns.of_eq (hO) (by first | rfl | simp only [List.length_append, List.length_cons, List.length_nil, List.length_map, Nat.zero_add, Nat.add_zero]), h⟩ ?_
     rintro ml22 e st ⟨x3_l22, x22_l22, ox3_l22, Xl22, Rl22, rfl, rfl, hO, h⟩ Ul22 Vl22
     cases ml22 with
     | zero => cases h
     | succ ml22 =>
     rw [Zf1] at h
     have hU := hO.unders
     simp only [List.mem_cons, List.not_mem_nil, or_false, forall_eq_or_imp, forall_eq] at hU
     refine td hN hNR hNL hcalm hO ?_
     refine rg [3, 20, 21, 22, 23] hs ?_
     apply Zac; intro K24 hK24
     refine cnd h hs (fun hs h => ?_) (fun hs h => ?_)
     rotate_left
     ·
      refine sx [3] hs hK20 ?_
      exact ⟨x3_l22, ox3_l22, ([]), Rl22, ef hs, ef hs, Owns.of_eq (hO) (by first | rfl | simp only [List.length_append, List.length_cons, List.length_nil, List.length_map, Nat.zero_add, Nat.add_zero]), h⟩
     refine sk [3, 20, 21, 22] hs hK24 ?_
     clear hK24
     apply Zac; intro K26 hK26
     apply Zaf
     obtain ⟨x28, hx28, h⟩ := bind_some h
     obtain ⟨hx28a, hx28b, hx28c⟩ := Zam hx28
     have hx28d := Zao (f := Zdz) hx28c
     have hs := And.intro hx28d hs
     refine rg [3, 5, 20, 21, 22] hs ?_
     obtain ⟨hg29, h⟩ := Zae h
     obtain ⟨o30, rows31, hO, hap32⟩ := hO.append (P := Tryz.prog) ZrD (by rw [ZmN]; rfl) (by decide) 1 hg29.1 hg29.2
     replace hap32 := fun (ys : List AV) B L o2 => hap32 (x3_l22.map avT) ys B L o2 (by first | rfl | simp only [List.length_map, List.length_nil, List.length_append, List.length_cons, Nat.zero_add])
     replace hap32 := fun (y : AV) B L o2 => hap32 [y] B L o2 (by first | rfl | simp only [List.length_map, List.length_nil, List.length_cons]) ev
     try simp only [List.mem_singleton, List.mem_cons, List.not_mem_nil, or_false, forall_eq_or_imp, forall_eq, List.map_append, List.map_cons, List.map_nil, Zeu, Zez, Zey, Zex, Zev, Zed, Zc4, Zc8, Zew, ZbJ, ZbM, Zc7, Zc3, Zc2] at hap32
     have hs := And.intro hap32 hs
     refine rl [3, 20, 21, 22] hs hK26 ?_
     clear hK26
     obtain ⟨hg33, h⟩ := Zae h
     refine rl [3, 20, 21, 22] hs (fun e s => Vl22 ml22 e s (Nat.lt_succ_self _)) ?_
     exact ⟨(x3_l22 ++ ([x28.2.2.2.1])), (x22_l22 + 1), o30, ([.val (.int .i64 x28.1) :: (.val (.string x28.2.1) :: (.val (.int .i64 x28.2.2.1) :: ((x28.2.2.2.1.cs) ++ ([.list (x28.2.2.2.2.map avV) .none]))))]), rows31, ef hs, ef hs, Owns.of_eq (hO) (by first | rfl | simp only [List.length_append, List.length_cons, List.length_nil, List.length_map, Nat.zero_add, Nat.add_zero]), h⟩
    ·
     clear h; rintro e st ⟨x3_k19, ox3_k19, Xk19, Rk19, rfl, rfl, hO, h⟩
     rw [Zhn] at h
     have hU := hO.unders
     simp only [List.mem_cons, List.not_mem_nil, or_false, forall_eq_or_imp, forall_eq] at hU
     refine td hN hNR hNL hcalm hO ?_
     refine rg [2] hs ?_
     exact rt h hs hcalm hO
   refine sk [] hs hK4 ?_
   exact ⟨([]), Rk10, ef hs, ef hs, hO, h⟩
 ·
  clear h; rintro e st ⟨Xk3, Rk3, rfl, rfl, hO, h⟩
  rw [Zit] at h
  refine td hN hNR hNL hcalm hO ?_
  refine rg [2] hs ?_
  exact rt h hs hcalm hO
def Zhc (rec : Ty → Int → Int → Option (Int × Int)) (n : Nat)  (pla2_k18 : Int) : Option (Int × Int) :=
 some ((0, pla2_k18))
def ZdP (rec : Ty → Int → Int → Option (Int × Int)) (n : Nat) (a0 : Ty) (a1 : Int) (y21 : (List Ty)) : Nat → Int → Int → Option (Int × Int)
 | 0, _, _ => none
 | m + 1, x32_l22, pla2_l22 =>
  if decide (x32_l22 < ((y21.length : Int))) then
   (idx y21 x32_l22).bind fun x28 =>
   if I64 (a1 + 1) then
    (rec x28 (a1 + 1) pla2_l22).bind fun y32 =>
    if !(decide (y32.1 = 0)) then
     some ((y32.1, y32.2))
    else
     if decide (a0.kind = 9) then
      (idx a0.fields x32_l22).bind fun x38 =>
      if decide (x38.2.2.1 = 3) then
       (idx x38.2.2.2.2 0).bind fun x40 =>
       (Zhm n x28 x40).bind fun y41 =>
       if !y41 then
        some ((18, y32.2))
       else
        if I64 (x32_l22 + 1) then
         (ZdP rec n a0 a1 y21 m) (x32_l22 + 1) y32.2
        else none
      else
       if I64 (x32_l22 + 1) then
        (ZdP rec n a0 a1 y21 m) (x32_l22 + 1) y32.2
       else none
     else
      if I64 (x32_l22 + 1) then
       (ZdP rec n a0 a1 y21 m) (x32_l22 + 1) y32.2
      else none
   else none
  else
   Zhc rec n pla2_l22
def Zjn (rec : Ty → Int → Int → Option (Int × Int)) (n : Nat) (a0 : Ty) (a1 : Int) (a2 : Int) : Option (Int × Int) :=
 if decide (a2 = 0) then
  some ((9, a2))
 else
  if decide (8 < a1) then
   some ((23, a2))
  else
   if I64 (a2 - 1) then
    (ZmF n a0).bind fun y13 =>
    if !(decide (y13 = 0)) then
     some ((y13, a2 - 1))
    else
     (Zjp n a0).bind fun y21 =>
     ZdP rec n a0 a1 y21 n 0 (a2 - 1)
   else none
def ZhF : Nat → Ty → Int → Int → Option (Int × Int)
 | 0, _, _, _ => none
 | n + 1, a0, a1, a2 => Zjn (ZhF n) n a0 a1 a2
def Zjs (w0 : World) (F : Ty → Int → Int → Option (Int × Int)) : Prop := ∀ (B : List (List AV)) (Rw : List RowA) (L : List LoopA) (a0 : Ty) (a1 : Int) (la2 : Nat) (a2 : Int) (hla2 : B[la2]? = some ([.val (.int .i64 a2)])) (r : Int × Int), F a0 a1 a2 = some r → ACalls Tryz.prog w0 80 [.agg (a0.cs), .val (.int .i64 a1), .box la2 0] ⟨B, Rw, L⟩ fun x st => x = .val (.int .i64 r.1) ∧ st = ⟨(B.set la2 [.val (.int .i64 r.2)]), Rw, L⟩
theorem ZlR (w0 : World) (hT : Lib.Utf8Tabs 0 1 w0) (rec : Ty → Int → Int → Option (Int × Int)) (ih : Zjs w0 rec) (n : Nat) : Zjs w0 (Zjn rec n) := by
 intro B Rw L a0 a1 la2 a2 hla2 r h
 rw [Zjn] at h
 refine hd [.tmp 6] Tryz.func80 Tryz.ntmps80 fun M0 W0 hN hNR hNL hcalm hu hO hs => ?_
 simp only [Zal]
 have hltla2 := (List.getElem?_eq_some_iff.1 hla2).1
 have hs := And.intro (Zag hla2) hs
 refine rg [1, 2, 3] hs ?_
 apply Zac; intro K2 hK2
 apply Zaf
 refine rg [1, 2, 3, 11] hs ?_
 refine cnd h hs (fun hs h => ?_) (fun hs h => ?_)
 ·
  have hb4 := hs.1
  refine rg [6] hs ?_
  exact rt h hs hcalm hO
 have hb4 := hs.1
 refine rg [1, 2, 3, 16] hs ?_
 refine cnd h hs (fun hs h => ?_) (fun hs h => ?_)
 ·
  have hb7 := hs.1
  refine rg [6] hs ?_
  exact rt h hs hcalm hO
 have hb7 := hs.1
 refine sk [1, 2, 3] hs hK2 ?_
 clear hK2
 obtain ⟨hg10, h⟩ := Zae h
 refine rg [1, 2, 3] hs ?_
 apply Zac; intro K11 hK11
 obtain ⟨y13, hy13, h⟩ := bind_some h
 refine rc 2 [1, 2, 3, 7] hs ?_; intro K12 hK12
 refine Zad _ (Zqy w0 hT n _ _ _ a0 _ hy13) (hv hs) ?_
 refine ne hs hK12 ?_
 clear hK12
 refine rg [1, 2, 3, 7, 27] hs ?_
 refine cnd h hs (fun hs h => ?_) (fun hs h => ?_)
 ·
  have hb15 := hs.1
  refine rg [6] hs ?_
  apply Zaj; simp +decide only [go_sem, Nat.reduceAdd, Zag hla2, hb4, hb7, hb15]
  have hgt := Option.some.inj h; subst hgt
  first | refine Zaz (Zah hcalm ev) (by simp only [List.length_set]) hO.pre ev ⟨?_, rfl⟩ | refine Za5 (Zah hcalm ev) (by simp only [List.length_set]) hO.pre ev ⟨?_, rfl⟩
  first | rfl | (simp +decide only [go_sem, Nat.reduceAdd, Zag hla2, hb4, hb7, hb15]; done) | (simp +decide only [go_sem, Nat.reduceAdd, Vl.cs, Ty.cs, Zag hla2, hb4, hb7, hb15]; done)
 have hb15 := hs.1
 refine sk [1, 2, 3] hs hK11 ?_
 clear hK11
 refine Zak (fun e st => ∃ (pla2_k18 : Int) (Xk18 : List (List AV)) (Rk18 : List RowA), e = [] ∧ st = ⟨(B.set la2 ([.val (.int .i64 pla2_k18)])) ++ ([a0.cs] ++ Xk18), Rk18, L⟩ ∧ Owns Rw Rk18 [] ∧ Zhc rec n pla2_k18 = some r) ?_ ?_
 ·
  intro K19 hK19
  obtain ⟨y21, hy21, h⟩ := bind_some h
  refine rc 2 [1, 2, 3, 30, 31, 32] hs ?_; intro K20 hK20
  refine Zad _ (Zno w0 n _ _ _ a0 _ hy21) (hv hs) ?_
  refine ne hs hK20 ?_
  clear hK20
  apply Zaf
  refine Zap (fun m e st => ∃ (x32_l22 : Int) (pla2_l22 : Int) (Xl22 : List (List AV)) (Rl22 : List RowA), e = [(1, true, .val (.int .i64 a1)), (2, true, .box la2 0), (3, true, .box B.length 0), (30, true, .list (y21.map avT) .none), (31, true, .val (.int .i64 ((y21.length : Int)))), (32, true, .val (.int .i64 x32_l22))] ∧ st = ⟨(B.set la2 ([.val (.int .i64 pla2_l22)])) ++ ([a0.cs] ++ Xl22), Rl22, L⟩ ∧ Owns Rw Rl22 [] ∧ ZdP rec n a0 a1 y21 m x32_l22 pla2_l22 = some r) n ⟨0, (a2 - 1), ([]), Rw, ef hs, ef hs, hO, h⟩ ?_
  rintro ml22 e st ⟨x32_l22, pla2_l22, Xl22, Rl22, rfl, rfl, hO, h⟩ Ul22 Vl22
  cases ml22 with
  | zero => cases h
  | succ ml22 =>
  rw [ZdP] at h
  refine Zas hN hNR hNL (by simp only [List.length_set]) (Zah hcalm ev) hO (by (simp +decide only [go_sem, Nat.reduceAdd]) <;> (try (repeat' apply And.intro)) <;> first | omega | assumption) (by (simp +decide only [go_sem, Nat.reduceAdd, Za2]) <;> (try (repeat' apply And.intro)) <;> first | omega | assumption) ?_
  refine rg [1, 2, 3, 30, 31, 32, 33] hs ?_
  apply Zac; intro K24 hK24
  refine cnd h hs (fun hs h => ?_) (fun hs h => ?_)
  rotate_left
  ·
   have hb25 := hs.1
   refine sx [] hs hK19 ?_
   exact ⟨pla2_l22, ([]), Rl22, ef hs, ef hs, hO, h⟩
  have hb25 := hs.1
  refine sk [1, 2, 3, 30, 31, 32] hs hK24 ?_
  clear hK24
  apply Zac; intro K26 hK26
  apply Zaf
  obtain ⟨x28, hx28, h⟩ := bind_some h
  obtain ⟨hx28a, hx28b, hx28c⟩ := Zam hx28
  have hx28d := Zao (f := avT) hx28c
  have hs := And.intro hx28d hs
  refine rg [1, 2, 3, 8, 9, 30, 31, 32] hs ?_
  apply Zac; intro K29 hK29
  obtain ⟨hg31, h⟩ := Zae h
  obtain ⟨y32, hy32, h⟩ := bind_some h
  refine rc 2 [1, 2, 3, 8, 9, 10, 30, 31, 32] hs ?_; intro K30 hK30
  refine ZaR _ (ih _ _ _ x28 (a1 + 1) la2 pla2_l22 (ef hs) _ hy32) (hv hs) ?_; rintro _ _ ⟨rfl, rfl⟩
  refine ne hs hK30 ?_
  clear hK30
  refine rg [1, 2, 3, 8, 9, 10, 30, 31, 32, 43] hs ?_
  refine cnd h hs (fun hs h => ?_) (fun hs h => ?_)
  ·
   have hb34 := hs.1
   refine rg [6] hs ?_
   apply Zaj; simp +decide only [go_sem, Nat.reduceAdd, Zag hla2, hb4, hb7, hb15, hb25, hx28d, hb34]
   have hgt := Option.some.inj h; subst hgt
   first | refine Zaz (Zah hcalm ev) (by simp only [List.length_set]) hO.pre ev ⟨?_, rfl⟩ | refine Za5 (Zah hcalm ev) (by simp only [List.length_set]) hO.pre ev ⟨?_, rfl⟩
   first | rfl | (simp +decide only [go_sem, Nat.reduceAdd, Zag hla2, hb4, hb7, hb15, hb25, hx28d, hb34]; done) | (simp +decide only [go_sem, Nat.reduceAdd, Vl.cs, Ty.cs, Zag hla2, hb4, hb7, hb15, hb25, hx28d, hb34]; done)
  have hb34 := hs.1
  refine sk [1, 2, 3, 8, 9, 30, 31, 32] hs hK29 ?_
  clear hK29
  apply Zac; intro K36 hK36
  rcases Bool.eq_false_or_eq_true (decide (a0.kind = 9)) with hf37 | hf37
  ·
   replace h := ZaC h hf37
   obtain ⟨x38, hx38a, hx38b, hx38d, h⟩ := ix Zdz h
   rcases Bool.eq_false_or_eq_true (decide (x38.2.2.1 = 3)) with hf39 | hf39
   ·
    replace h := ZaC h hf39
    obtain ⟨x40, hx40a, hx40b, hx40d, h⟩ := ix avV h
    have hx40e : (x38.2.2.2.2.map avV).getD 0 .junk = _ := hx40d
    obtain ⟨y41, hy41, h⟩ := bind_some h
    apply Zaw mix 25 2 1 [1, 2, 3, 30, 31, 32, 69] (by kernel_rfl)
    rw [Zaa]; simp +decide only [go_sem, Nat.reduceAdd, Zag hla2, hb4, hb7, hb15, hb25, hx28d, hb34, hf37, hx38d, hf39, hx40d, hx40e]
    have hs := And.intro hf37 hs
    have hs := And.intro hx38d hs
    have hs := And.intro hf39 hs
    have hs := And.intro hx40d hs
    have hs := And.intro hx40e hs
    (repeat' apply And.intro) <;> first | refine Zad _ (Zmf w0 hT n _ _ _ x28 x40 _ hy41) (hv hs) ?_ | exact cl
    rw [Zaa]; simp +decide only [go_sem, Nat.reduceAdd, Zag hla2, hb4, hb7, hb15, hb25, hx28d, hb34, hf37, hx38d, hf39, hx40d, hx40e]
    (repeat' with_reducible apply And.intro) <;> first | (rw [Zaa]; simp +decide only [go_sem, Nat.reduceAdd, Zag hla2, hb4, hb7, hb15, hb25, hx28d, hb34, hf37, hx38d, hf39, hx40d, hx40e]) | exact cl
    (repeat' apply And.intro) <;> first | refine hK36 _ _ ?_ | exact cl
    clear hK36
    refine cnd h hs (fun hs h => ?_) (fun hs h => ?_)
    ·
     have hb42 := hs.1
     refine rg [6] hs ?_
     apply Zaj; simp +decide only [go_sem, Nat.reduceAdd, Zag hla2, hb4, hb7, hb15, hb25, hx28d, hb34, hf37, hx38d, hf39, hx40d, hx40e, hb42]
     have hgt := Option.some.inj h; subst hgt
     first | refine Zaz (Zah hcalm ev) (by simp only [List.length_set]) hO.pre ev ⟨?_, rfl⟩ | refine Za5 (Zah hcalm ev) (by simp only [List.length_set]) hO.pre ev ⟨?_, rfl⟩
     first | rfl | (simp +decide only [go_sem, Nat.reduceAdd, Zag hla2, hb4, hb7, hb15, hb25, hx28d, hb34, hf37, hx38d, hf39, hx40d, hx40e, hb42]; done) | (simp +decide only [go_sem, Nat.reduceAdd, Vl.cs, Ty.cs, Zag hla2, hb4, hb7, hb15, hb25, hx28d, hb34, hf37, hx38d, hf39, hx40d, hx40e, hb42]; done)
    have hb42 := hs.1
    refine sk [1, 2, 3, 30, 31, 32] hs hK26 ?_
    clear hK26
    obtain ⟨hg44, h⟩ := Zae h
    refine rl [1, 2, 3, 30, 31, 32] hs (fun e s => Vl22 ml22 e s (Nat.lt_succ_self _)) ?_
    exact ⟨(x32_l22 + 1), y32.2, ([x28.cs]), Rl22, ef hs, ef hs, hO, h⟩
   ·
    replace h := ZaD h hf39
    apply Zaw mix 25 2 1 [1, 2, 3, 30, 31, 32, 69] (by kernel_rfl)
    rw [Zaa]; simp +decide only [go_sem, Nat.reduceAdd, Zag hla2, hb4, hb7, hb15, hb25, hx28d, hb34, hf37, hx38d, hf39]
    (repeat' apply And.intro) <;> first | refine ZaB ?_ | exact cl
    rw [Zaa]; simp +decide only [go_sem, Nat.reduceAdd, Zag hla2, hb4, hb7, hb15, hb25, hx28d, hb34, hf37, hx38d, hf39]
    (repeat' with_reducible apply And.intro) <;> first | (rw [Zaa]; simp +decide only [go_sem, Nat.reduceAdd, Zag hla2, hb4, hb7, hb15, hb25, hx28d, hb34, hf37, hx38d, hf39]) | exact cl
    (repeat' apply And.intro) <;> first | refine hK36 _ _ ?_ | exact cl
    clear hK36
    have hs := And.intro hf37 hs
    have hs := And.intro hx38d hs
    have hs := And.intro hf39 hs
    refine Zav false ev (ef hs) (fun hb45 => by cases hb45) (fun hb45 => ?_)
    refine sk [1, 2, 3, 30, 31, 32] hs hK26 ?_
    clear hK26
    obtain ⟨hg46, h⟩ := Zae h
    refine rl [1, 2, 3, 30, 31, 32] hs (fun e s => Vl22 ml22 e s (Nat.lt_succ_self _)) ?_
    exact ⟨(x32_l22 + 1), y32.2, ([x28.cs]), Rl22, ef hs, ef hs, hO, h⟩
  ·
   replace h := ZaD h hf37
   apply Zaw mix 25 2 1 [1, 2, 3, 30, 31, 32, 69] (by kernel_rfl)
   rw [Zaa]; simp +decide only [go_sem, Nat.reduceAdd, Zag hla2, hb4, hb7, hb15, hb25, hx28d, hb34, hf37]
   (repeat' apply And.intro) <;> first | refine ZaB ?_ | exact cl
   rw [Zaa]; simp +decide only [go_sem, Nat.reduceAdd, Zag hla2, hb4, hb7, hb15, hb25, hx28d, hb34, hf37]
   (repeat' with_reducible apply And.intro) <;> first | (rw [Zaa]; simp +decide only [go_sem, Nat.reduceAdd, Zag hla2, hb4, hb7, hb15, hb25, hx28d, hb34, hf37]) | exact cl
   (repeat' apply And.intro) <;> first | refine hK36 _ _ ?_ | exact cl
   clear hK36
   have hs := And.intro hf37 hs
   refine Zav false ev (ef hs) (fun hb47 => by cases hb47) (fun hb47 => ?_)
   refine sk [1, 2, 3, 30, 31, 32] hs hK26 ?_
   clear hK26
   obtain ⟨hg48, h⟩ := Zae h
   refine rl [1, 2, 3, 30, 31, 32] hs (fun e s => Vl22 ml22 e s (Nat.lt_succ_self _)) ?_
   exact ⟨(x32_l22 + 1), y32.2, ([x28.cs]), Rl22, ef hs, ef hs, hO, h⟩
 ·
  clear h; rintro e st ⟨pla2_k18, Xk18, Rk18, rfl, rfl, hO, h⟩
  rw [Zhc] at h
  refine Zas hN hNR hNL (by simp only [List.length_set]) (Zah hcalm ev) hO (by (simp +decide only [go_sem, Nat.reduceAdd]) <;> (try (repeat' apply And.intro)) <;> first | omega | assumption) (by (simp +decide only [go_sem, Nat.reduceAdd, Za2]) <;> (try (repeat' apply And.intro)) <;> first | omega | assumption) ?_
  refine rg [6] hs ?_
  apply Zaj; simp +decide only [go_sem, Nat.reduceAdd, Zag hla2, hb4, hb7, hb15]
  have hgt := Option.some.inj h; subst hgt
  first | refine Zaz (Zah hcalm ev) (by simp only [List.length_set]) hO.pre ev ⟨?_, rfl⟩ | refine Za5 (Zah hcalm ev) (by simp only [List.length_set]) hO.pre ev ⟨?_, rfl⟩
  first | rfl | (simp +decide only [go_sem, Nat.reduceAdd, Zag hla2, hb4, hb7, hb15]; done) | (simp +decide only [go_sem, Nat.reduceAdd, Vl.cs, Ty.cs, Zag hla2, hb4, hb7, hb15]; done)
theorem Zj6 (w0 : World) (hT : Lib.Utf8Tabs 0 1 w0) : ∀ n : Nat, Zjs w0 (ZhF n)
 | 0 => fun _ _ _ _ _ _ _ _ _ h => (nomatch h)
 | n + 1 => ZlR w0 hT (ZhF n) (Zj6 w0 hT n) n
def ZgM  : List (Nat × Vl) → Int → Option Int
 | [], b1_r6 =>
  some (b1_r6)
 | p_r6 :: rest, b1_r6 =>
  if I64 (b1_r6 + 1) then
   (ZgM  rest) (b1_r6 + 1)
  else none
def ZkL (a0 : Vl) : Option Int :=
 if a0.size < 4611686018427387904 ∧ a0.wide = true then
  ZgM  (Zh5 1 a0) 0
 else none
theorem ZoV (w0 : World) (B : List (List AV)) (Rw : List RowA) (L : List LoopA) (a0 : Vl) (r : Int) (h : ZkL a0 = some r) :
  ACalls Tryz.prog w0 77 [.agg (a0.cs)] ⟨B, Rw, L⟩ fun x st => x = .val (.int .i64 r) ∧ st = ⟨B, Rw, L⟩ := by
 rw [ZkL] at h
 refine hd [.tmp 2] Tryz.func77 Tryz.ntmps77 fun M0 W0 hN hNR hNL hcalm hu hO hs => ?_
 simp only [Zal]
 refine rg [1] hs ?_
 refine rg [1, 3] hs ?_
 apply Zac; intro K3 hK3
 refine rc 2 [3, 5] hs ?_; intro K4 hK4
 refine ZaR _ (ZjE w0 _ _ _ a0) (hv hs) ?_; rintro _ _ ⟨rfl, rfl⟩
 refine ne hs hK4 ?_
 clear hK4
 apply Zaf
 obtain ⟨hg5, h⟩ := Zae h
 refine ZlX (Zf8 a0) (fun st => st.boxes[(B.length + 2)]? = some a0.cs) (fun i st => ∃ (b1_r6 : Int) (Rr6 : List RowA), st = ⟨B ++ ([a0.cs, [.val (.int .i64 b1_r6)], a0.cs]), Rr6, L⟩ ∧ Owns Rw Rr6 [] ∧ ZgM  ((Zh5 1 a0).drop i) b1_r6 = some r) (fun _ _ => False) ev ev (ZhK w0 a0 hg5 _) (fun x hx => Zko a0 x hx) (by decide) ?_ ⟨0, Rw, ef hs, hO, h⟩ (fun _ _ h => h.elim) ?_ ?_ ?_
 ·
  rintro i st la ⟨b1_r6, Rr6, rfl, hO, h⟩ _ _; simp +decide [St.push]
 ·
  rintro i s1 ⟨XB, XR, XL⟩ x M1 W1 l la la' hX hI hlike hloops hx hra K hK
  obtain ⟨p_r6, hpi, rfl, hi⟩ := Zj7 a0 i x hx
  (try simp only at hX)
  subst hX
  obtain ⟨b1_r6, Rr6, rfl, hO, h⟩ := hI
  rw [ZmW hpi, ZgM] at h
  have hra0_r6 := hO
  simp only [St.ext, St.push, List.append_assoc, List.append_nil]
  refine ZbU (Zce [3] _) ?_ (ZaG _ _)
  apply ZaJ; simp +decide only [go_sem, Nat.reduceAdd]
  (repeat' apply And.intro) <;> first | refine hK _ _ (by simp [St.ext, St.push]) (fun KQ hKQ => ?_) | exact cl
  clear hK
  dsimp only [St.ext, St.push]
  apply Zaf
  obtain ⟨hg7, h⟩ := Zae h
  apply Zab 1 [3]
  rw [Zaa]; simp +decide only [go_sem, Nat.reduceAdd]
  (repeat' apply And.intro) <;> first | refine hKQ _ _ _ ⟨⟨B ++ [a0.cs, [.val (.int .i64 (b1_r6 + 1))], a0.cs], Rr6, L⟩, [], by first | rfl | (simp only [List.append_assoc, List.append_nil, List.cons_append, List.nil_append]; done), ⟨by simp, by first | exact Nat.le_refl _ | (have := hO.len; simp; omega), rfl⟩, rfl, ⟨(b1_r6 + 1), Rr6, ef hs, hO, h⟩, ?_⟩ | exact cl
  exact .inl rfl
 ·
  rintro s la ⟨XB, XR, XL⟩ hXR ⟨b1_r6, Rr6, rfl, hO, h⟩ _ _
  simp only at hXR
  subst hXR
  rw [List.drop_eq_nil_of_le (by rw [ZhG]; exact Nat.le_refl _), ZgM] at h
  simp only [St.ext, St.push, List.append_assoc, List.append_nil]
  (repeat' apply And.intro) <;> first | refine hK3 _ _ ?_ | exact cl
  clear hK3
  refine ZlM (bs := [a0.cs, [.val (.int .i64 b1_r6)], a0.cs]) hN hNR hNL rfl hcalm hO (by (simp +decide only [go_sem, Nat.reduceAdd]) <;> (try (repeat' apply And.intro)) <;> first | omega | assumption) (by (simp +decide only [go_sem, Nat.reduceAdd, Za2]) <;> (try (repeat' apply And.intro)) <;> first | omega | assumption) ?_
  refine rg [2] hs ?_
  exact rt h hs hcalm hO
 ·
  rintro ex s la X hX h; exact h.elim
def ZcP (rec : Ty → Option Int) (n : Nat) (again_l23 : Int → Int → Option Int) (x38_l23 : Int) (x3_k28 : Int) : Option Int :=
 if I64 (x38_l23 + 1) then
  again_l23 x3_k28 (x38_l23 + 1)
 else none
def ZbS (rec : Ty → Option Int) (n : Nat)  (x3_k4 : Int) : Option Int :=
 some ((if 4097 < x3_k4 then 4097 else x3_k4))
def Zbv (rec : Ty → Option Int) (n : Nat) (a0 : Ty) : Nat → Int → Int → Option Int
 | 0, _, _ => none
 | m + 1, x3_l23, x38_l23 =>
  if decide (x38_l23 < ((a0.fields.length : Int))) then
   (idx a0.fields x38_l23).bind fun x31 =>
   if decide (x31.2.2.1 = 1) then
    (rec x31.2.2.2.1).bind fun y35 =>
    if I64 (x3_l23 + y35) then
     ZcP rec n (Zbv rec n a0 m) x38_l23 (x3_l23 + y35)
    else none
   else
    if decide (x31.2.2.1 = 3) then
     (idx x31.2.2.2.2 0).bind fun x39 =>
     (ZkL x39).bind fun y40 =>
     if I64 (x3_l23 + y40) then
      ZcP rec n (Zbv rec n a0 m) x38_l23 (x3_l23 + y40)
     else none
    else
     ZcP rec n (Zbv rec n a0 m) x38_l23 x3_l23
  else
   ZbS rec n x3_l23
def ZfM (rec : Ty → Option Int) (n : Nat) (a0 : Ty) : Option Int :=
 if decide (a0.kind = 8) then
  if decide (0 < a0.min) then
   (idx a0.elem 0).bind fun x11 =>
   (rec x11).bind fun y12 =>
   if I64 (a0.min * y12) then
    if I64 (1 + (a0.min * y12)) then
     ZbS rec n (1 + (a0.min * y12))
    else none
   else none
  else
   ZbS rec n 1
 else
  if decide (a0.kind = 10) then
   (idx a0.fields 0).bind fun x17 =>
   (rec x17.2.2.2.1).bind fun y18 =>
   if I64 (1 + y18) then
    ZbS rec n (1 + y18)
   else none
  else
   if decide (a0.kind = 9) then
    Zbv rec n a0 n 1 0
   else
    ZbS rec n 1
def ZeC : Nat → Ty → Option Int
 | 0, _ => none
 | n + 1, a0 => ZfM (ZeC n) n a0
def ZfK (w0 : World) (F : Ty → Option Int) : Prop := ∀ (B : List (List AV)) (Rw : List RowA) (L : List LoopA) (a0 : Ty) (r : Int), F a0 = some r → ACalls Tryz.prog w0 136 [.agg (a0.cs)] ⟨B, Rw, L⟩ fun x st => x = .val (.int .i64 r) ∧ st = ⟨B, Rw, L⟩
theorem ZiM (w0 : World) (rec : Ty → Option Int) (ih : ZfK w0 rec) (n : Nat) : ZfK w0 (ZfM rec n) := by
 intro B Rw L a0 r h
 rw [ZfM] at h
 refine hd [.tmp 2] Tryz.func136 Tryz.ntmps136 fun M0 W0 hN hNR hNL hcalm hu hO hs => ?_
 simp only [Zal]
 refine rg [1] hs ?_
 refine rg [1, 3] hs ?_
 refine Zak (fun e st => ∃ (x3_k4 : Int), Ck e st B Rw L [(3, true, .val (.int .i64 x3_k4))] [a0.cs] [] (ZbS rec n x3_k4 = some r)) ?_ ?_
 ·
  intro K5 hK5
  refine rg [1, 3, 7] hs ?_
  apply Zaf
  refine rg [1, 3, 7, 8] hs ?_
  refine cnd h hs (fun hs h => ?_) (fun hs h => ?_)
  ·
   have hb8 := hs.1
   refine rg [1, 3, 12] hs ?_
   refine cnd h hs (fun hs h => ?_) (fun hs h => ?_)
   ·
    have hb10 := hs.1
    obtain ⟨x11, hx11a, hx11b, hx11d, h⟩ := ix avT h
    have hx11e : (a0.elem.map avT).getD 0 .junk = _ := hx11d
    obtain ⟨y12, hy12, h⟩ := bind_some h
    obtain ⟨hg13, h⟩ := Zae h
    obtain ⟨hg14, h⟩ := Zae h
    apply Zaw mix 10 2 1 [3] (by kernel_rfl)
    rw [Zaa]; simp +decide only [go_sem, Nat.reduceAdd, hb8, hb10, hx11d, hx11e]
    have hs := And.intro hx11d hs
    have hs := And.intro hx11e hs
    (repeat' apply And.intro) <;> first | refine Zad _ (ih _ _ _ x11 _ hy12) (hv hs) ?_ | exact cl
    rw [Zaa]; simp +decide only [go_sem, Nat.reduceAdd, hb8, hb10, hx11d, hx11e]
    (repeat' with_reducible apply And.intro) <;> first | (rw [Zaa]; simp +decide only [go_sem, Nat.reduceAdd, hb8, hb10, hx11d, hx11e]) | exact cl
    (repeat' apply And.intro) <;> first | refine hK5 _ _ ⟨(1 + (a0.min * y12)), ([]), Rw, ef hs, ef hs, hO, h⟩ | exact cl
   have hb10 := hs.1
   refine sk [3] hs hK5 ?_
   exact ⟨1, ([]), Rw, ef hs, ef hs, hO, h⟩
  have hb8 := hs.1
  refine rg [1, 3, 7, 23] hs ?_
  refine cnd h hs (fun hs h => ?_) (fun hs h => ?_)
  ·
   obtain ⟨x17, hx17a, hx17b, hx17d, h⟩ := ix Zdz h
   have hx17e : (a0.fields.map Zdz).getD 0 .junk = _ := hx17d
   obtain ⟨y18, hy18, h⟩ := bind_some h
   obtain ⟨hg19, h⟩ := Zae h
   have hs := And.intro hx17d hs
   have hs := And.intro hx17e hs
   refine rk 2 [3] hs ?_
   refine Zad _ (ih _ _ _ x17.2.2.2.1 _ hy18) (hv hs) ?_
   refine ne hs hK5 ?_
   exact ⟨(1 + y18), ([]), Rw, ef hs, ef hs, hO, h⟩
  refine rg [1, 3, 33] hs ?_
  refine cnd h hs (fun hs h => ?_) (fun hs h => ?_)
  ·
   refine rg [3, 36, 37, 38] hs ?_
   apply Zaf
   refine Zap (fun m e st => ∃ (x3_l23 : Int) (x38_l23 : Int), Ck e st B Rw L [(3, true, .val (.int .i64 x3_l23)), (36, true, .list (a0.fields.map Zdz) .none), (37, true, .val (.int .i64 ((a0.fields.length : Int)))), (38, true, .val (.int .i64 x38_l23))] [a0.cs] [] (Zbv rec n a0 m x3_l23 x38_l23 = some r)) n ⟨1, 0, ([]), Rw, ef hs, ef hs, hO, h⟩ ?_
   rintro ml23 e st ⟨x3_l23, x38_l23, Xl23, Rl23, rfl, rfl, hO, h⟩ Ul23 Vl23
   cases ml23 with
   | zero => cases h
   | succ ml23 =>
   rw [Zbv] at h
   refine td hN hNR hNL hcalm hO ?_
   refine rg [3, 36, 37, 38, 39] hs ?_
   apply Zac; intro K25 hK25
   refine cnd h hs (fun hs h => ?_) (fun hs h => ?_)
   rotate_left
   ·
    refine sx [3] hs hK5 ?_
    exact ⟨x3_l23, ([]), Rl23, ef hs, ef hs, hO, h⟩
   refine sk [3, 36, 37, 38] hs hK25 ?_
   clear hK25
   refine Zak (fun e st => ∃ (x3_k28 : Int), Ck e st B Rw L [(3, true, .val (.int .i64 x3_k28)), (36, true, .list (a0.fields.map Zdz) .none), (37, true, .val (.int .i64 ((a0.fields.length : Int)))), (38, true, .val (.int .i64 x38_l23))] [a0.cs] [] (ZcP rec n (Zbv rec n a0 ml23) x38_l23 x3_k28 = some r)) ?_ ?_
   ·
    intro K29 hK29
    apply Zaf
    obtain ⟨x31, hx31, h⟩ := bind_some h
    obtain ⟨hx31a, hx31b, hx31c⟩ := Zam hx31
    have hx31d := Zao (f := Zdz) hx31c
    have hs := And.intro hx31d hs
    refine rg [3, 5, 36, 37, 38] hs ?_
    refine rg [3, 5, 36, 37, 38, 43] hs ?_
    apply Zaf
    refine rg [3, 5, 36, 37, 38, 43, 44] hs ?_
    refine cnd h hs (fun hs h => ?_) (fun hs h => ?_)
    ·
     obtain ⟨y35, hy35, h⟩ := bind_some h
     obtain ⟨hg36, h⟩ := Zae h
     refine rk 2 [3, 36, 37, 38] hs ?_
     refine Zad _ (ih _ _ _ x31.2.2.2.1 _ hy35) (hv hs) ?_
     refine ne hs hK29 ?_
     exact ⟨(x3_l23 + y35), ([.val (.int .i64 x31.1) :: (.val (.string x31.2.1) :: (.val (.int .i64 x31.2.2.1) :: ((x31.2.2.2.1.cs) ++ ([.list (x31.2.2.2.2.map avV) .none]))))]), Rl23, ef hs, ef hs, hO, h⟩
    refine rg [3, 5, 36, 37, 38, 51] hs ?_
    refine cnd h hs (fun hs h => ?_) (fun hs h => ?_)
    ·
     obtain ⟨x39, hx39a, hx39b, hx39d, h⟩ := ix avV h
     have hx39e : (x31.2.2.2.2.map avV).getD 0 .junk = _ := hx39d
     obtain ⟨y40, hy40, h⟩ := bind_some h
     obtain ⟨hg41, h⟩ := Zae h
     have hs := And.intro hx39d hs
     have hs := And.intro hx39e hs
     refine rk 2 [3, 36, 37, 38] hs ?_
     refine Zad _ (ZoV w0 _ _ _ x39 _ hy40) (hv hs) ?_
     refine ne hs hK29 ?_
     exact ⟨(x3_l23 + y40), ([.val (.int .i64 x31.1) :: (.val (.string x31.2.1) :: (.val (.int .i64 x31.2.2.1) :: ((x31.2.2.2.1.cs) ++ ([.list (x31.2.2.2.2.map avV) .none]))))]), Rl23, ef hs, ef hs, hO, h⟩
    refine sk [3, 36, 37, 38] hs hK29 ?_
    exact ⟨x3_l23, ([.val (.int .i64 x31.1) :: (.val (.string x31.2.1) :: (.val (.int .i64 x31.2.2.1) :: ((x31.2.2.2.1.cs) ++ ([.list (x31.2.2.2.2.map avV) .none]))))]), Rl23, ef hs, ef hs, hO, h⟩
   ·
    clear h; rintro e st ⟨x3_k28, Xk28, Rk28, rfl, rfl, hO, h⟩
    rw [ZcP] at h
    refine td hN hNR hNL hcalm hO ?_
    obtain ⟨hg42, h⟩ := Zae h
    refine rl [3, 36, 37, 38] hs (fun e s => Vl23 ml23 e s (Nat.lt_succ_self _)) ?_
    exact ⟨x3_k28, (x38_l23 + 1), ([]), Rk28, ef hs, ef hs, hO, h⟩
  refine sk [3] hs hK5 ?_
  exact ⟨1, ([]), Rw, ef hs, ef hs, hO, h⟩
 ·
  clear h; rintro e st ⟨x3_k4, Xk4, Rk4, rfl, rfl, hO, h⟩
  rw [ZbS] at h
  refine td hN hNR hNL hcalm hO ?_
  refine rg [2] hs ?_
  exact rt h hs hcalm hO
theorem Zg5 (w0 : World) : ∀ n : Nat, ZfK w0 (ZeC n)
 | 0 => fun _ _ _ _ _ h => (nomatch h)
 | n + 1 => ZiM w0 (ZeC n) (Zg5 w0 n) n
def ZdB (rec : Ty → Option Int) (n : Nat)  (x3_k18 : Int) : Option Int :=
 some (x3_k18)
def ZcG (rec : Ty → Option Int) (n : Nat) (a0 : Ty) : Nat → Int → Int → Option Int
 | 0, _, _ => none
 | m + 1, x3_l21, x25_l21 =>
  if decide (x25_l21 < ((a0.fields.length : Int))) then
   (idx a0.fields x25_l21).bind fun x27 =>
   (rec x27.2.2.2.1).bind fun y28 =>
   if I64 (x25_l21 + 1) then
    (ZcG rec n a0 m) ((if x3_l21 < y28 then y28 else x3_l21)) (x25_l21 + 1)
   else none
  else
   ZdB rec n x3_l21
def ZdN (rec : Ty → Option Int) (n : Nat) (a0 : Ty) (x3_k5 : Int) : Option Int :=
 ZcG rec n a0 n x3_k5 0
def ZcU (rec : Ty → Option Int) (n : Nat) (a0 : Ty) : Nat → Int → Int → Option Int
 | 0, _, _ => none
 | m + 1, x3_l8, x13_l8 =>
  if decide (x13_l8 < ((a0.elem.length : Int))) then
   (idx a0.elem x13_l8).bind fun x14 =>
   (rec x14).bind fun y15 =>
   if I64 (x13_l8 + 1) then
    (ZcU rec n a0 m) ((if x3_l8 < y15 then y15 else x3_l8)) (x13_l8 + 1)
   else none
  else
   ZdN rec n a0 x3_l8
def Zen (rec : Ty → Option Int) (n : Nat) (a0 : Ty) : Option Int :=
 (ZeC n a0).bind fun y3 =>
 ZcU rec n a0 n y3 0
def Zdh : Nat → Ty → Option Int
 | 0, _ => none
 | n + 1, a0 => Zen (Zdh n) n a0
def Zem (w0 : World) (F : Ty → Option Int) : Prop := ∀ (B : List (List AV)) (Rw : List RowA) (L : List LoopA) (a0 : Ty) (r : Int), F a0 = some r → ACalls Tryz.prog w0 81 [.agg (a0.cs)] ⟨B, Rw, L⟩ fun x st => x = .val (.int .i64 r) ∧ st = ⟨B, Rw, L⟩
theorem Zhk (w0 : World) (rec : Ty → Option Int) (ih : Zem w0 rec) (n : Nat) : Zem w0 (Zen rec n) := by
 intro B Rw L a0 r h
 rw [Zen] at h
 refine hd [.tmp 2] Tryz.func81 Tryz.ntmps81 fun M0 W0 hN hNR hNL hcalm hu hO hs => ?_
 simp only [Zal]
 refine rg [1] hs ?_
 obtain ⟨y3, hy3, h⟩ := bind_some h
 refine rc 2 [1, 3] hs ?_; intro K2 hK2
 refine Zad _ (Zg5 w0 n _ _ _ a0 _ hy3) (hv hs) ?_
 refine ne hs hK2 ?_
 clear hK2
 refine Zak (fun e st => ∃ (x3_k5 : Int), Ck e st B Rw L [(1, true, .box B.length 0), (3, true, .val (.int .i64 x3_k5))] [a0.cs] [] (ZdN rec n a0 x3_k5 = some r)) ?_ ?_
 ·
  intro K6 hK6
  refine rg [1, 3, 11, 12, 13] hs ?_
  apply Zaf
  refine Zap (fun m e st => ∃ (x3_l8 : Int) (x13_l8 : Int), Ck e st B Rw L [(1, true, .box B.length 0), (3, true, .val (.int .i64 x3_l8)), (11, true, .list (a0.elem.map avT) .none), (12, true, .val (.int .i64 ((a0.elem.length : Int)))), (13, true, .val (.int .i64 x13_l8))] [a0.cs] [] (ZcU rec n a0 m x3_l8 x13_l8 = some r)) n ⟨y3, 0, ([]), Rw, ef hs, ef hs, hO, h⟩ ?_
  rintro ml8 e st ⟨x3_l8, x13_l8, Xl8, Rl8, rfl, rfl, hO, h⟩ Ul8 Vl8
  cases ml8 with
  | zero => cases h
  | succ ml8 =>
  rw [ZcU] at h
  refine td hN hNR hNL hcalm hO ?_
  refine rg [1, 3, 11, 12, 13, 14] hs ?_
  apply Zac; intro K10 hK10
  refine cnd h hs (fun hs h => ?_) (fun hs h => ?_)
  rotate_left
  ·
   refine sx [1, 3] hs hK6 ?_
   exact ⟨x3_l8, ([]), Rl8, ef hs, ef hs, hO, h⟩
  refine sk [1, 3, 11, 12, 13] hs hK10 ?_
  clear hK10
  apply Zac; intro K12 hK12
  apply Zaf
  obtain ⟨x14, hx14, h⟩ := bind_some h
  obtain ⟨hx14a, hx14b, hx14c⟩ := Zam hx14
  have hx14d := Zao (f := avT) hx14c
  have hs := And.intro hx14d hs
  refine rg [1, 3, 5, 11, 12, 13] hs ?_
  obtain ⟨y15, hy15, h⟩ := bind_some h
  refine rk 2 [1, 3, 11, 12, 13] hs ?_
  refine Zad _ (ih _ _ _ x14 _ hy15) (hv hs) ?_
  refine ne hs hK12 ?_
  clear hK12
  obtain ⟨hg16, h⟩ := Zae h
  refine rl [1, 3, 11, 12, 13] hs (fun e s => Vl8 ml8 e s (Nat.lt_succ_self _)) ?_
  exact ⟨((if x3_l8 < y15 then y15 else x3_l8)), (x13_l8 + 1), ([x14.cs]), Rl8, ef hs, ef hs, hO, h⟩
 ·
  clear h; rintro e st ⟨x3_k5, Xk5, Rk5, rfl, rfl, hO, h⟩
  rw [ZdN] at h
  refine td hN hNR hNL hcalm hO ?_
  refine Zak (fun e st => ∃ (x3_k18 : Int), Ck e st B Rw L [(3, true, .val (.int .i64 x3_k18))] [a0.cs] [] (ZdB rec n x3_k18 = some r)) ?_ ?_
  ·
   intro K19 hK19
   refine rg [3, 23, 24, 25] hs ?_
   apply Zaf
   refine Zap (fun m e st => ∃ (x3_l21 : Int) (x25_l21 : Int), Ck e st B Rw L [(3, true, .val (.int .i64 x3_l21)), (23, true, .list (a0.fields.map Zdz) .none), (24, true, .val (.int .i64 ((a0.fields.length : Int)))), (25, true, .val (.int .i64 x25_l21))] [a0.cs] [] (ZcG rec n a0 m x3_l21 x25_l21 = some r)) n ⟨x3_k5, 0, ([]), Rk5, ef hs, ef hs, hO, h⟩ ?_
   rintro ml21 e st ⟨x3_l21, x25_l21, Xl21, Rl21, rfl, rfl, hO, h⟩ Ul21 Vl21
   cases ml21 with
   | zero => cases h
   | succ ml21 =>
   rw [ZcG] at h
   refine td hN hNR hNL hcalm hO ?_
   refine rg [3, 23, 24, 25, 26] hs ?_
   apply Zac; intro K23 hK23
   refine cnd h hs (fun hs h => ?_) (fun hs h => ?_)
   rotate_left
   ·
    refine sx [3] hs hK19 ?_
    exact ⟨x3_l21, ([]), Rl21, ef hs, ef hs, hO, h⟩
   refine sk [3, 23, 24, 25] hs hK23 ?_
   clear hK23
   apply Zac; intro K25 hK25
   apply Zaf
   obtain ⟨x27, hx27, h⟩ := bind_some h
   obtain ⟨hx27a, hx27b, hx27c⟩ := Zam hx27
   have hx27d := Zao (f := Zdz) hx27c
   have hs := And.intro hx27d hs
   refine rg [3, 7, 23, 24, 25] hs ?_
   obtain ⟨y28, hy28, h⟩ := bind_some h
   refine rk 2 [3, 23, 24, 25] hs ?_
   refine Zad _ (ih _ _ _ x27.2.2.2.1 _ hy28) (hv hs) ?_
   refine ne hs hK25 ?_
   clear hK25
   obtain ⟨hg29, h⟩ := Zae h
   refine rl [3, 23, 24, 25] hs (fun e s => Vl21 ml21 e s (Nat.lt_succ_self _)) ?_
   exact ⟨((if x3_l21 < y28 then y28 else x3_l21)), (x25_l21 + 1), ([.val (.int .i64 x27.1) :: (.val (.string x27.2.1) :: (.val (.int .i64 x27.2.2.1) :: ((x27.2.2.2.1.cs) ++ ([.list (x27.2.2.2.2.map avV) .none]))))]), Rl21, ef hs, ef hs, hO, h⟩
  ·
   clear h; rintro e st ⟨x3_k18, Xk18, Rk18, rfl, rfl, hO, h⟩
   rw [ZdB] at h
   refine td hN hNR hNL hcalm hO ?_
   refine rg [2] hs ?_
   exact rt h hs hcalm hO
theorem Zfo (w0 : World) : ∀ n : Nat, Zem w0 (Zdh n)
 | 0 => fun _ _ _ _ _ h => (nomatch h)
 | n + 1 => Zhk w0 (Zdh n) (Zfo w0 n) n
def ZhD (n : Nat) (a0 : Ty) : Option Int :=
 (ZhF n a0 1 4096).bind fun y5 =>
 if !(decide (y5.1 = 0)) then
  some (y5.1)
 else
  (Zdh n a0).bind fun y11 =>
  if decide (4096 < y11) then
   some (9)
  else
   some (0)
theorem Zke (w0 : World) (hT : Lib.Utf8Tabs 0 1 w0) (n : Nat) (B : List (List AV)) (Rw : List RowA) (L : List LoopA) (a0 : Ty) (r : Int) (h : ZhD n a0 = some r) :
  ACalls Tryz.prog w0 30 [.agg (a0.cs)] ⟨B, Rw, L⟩ fun x st => x = .val (.int .i64 r) ∧ st = ⟨B, Rw, L⟩ := by
 rw [ZhD] at h
 refine hd [.tmp 2] Tryz.func30 Tryz.ntmps30 fun M0 W0 hN hNR hNL hcalm hu hO hs => ?_
 simp only [Zal]
 refine rg [1] hs ?_
 refine rg [1, 3] hs ?_
 apply Zac; intro K3 hK3
 obtain ⟨y5, hy5, h⟩ := bind_some h
 refine rc 2 [1, 4] hs ?_; intro K4 hK4
 refine ZaR _ (Zj6 w0 hT n _ _ _ a0 1 (B.length + 1) 4096 ev _ hy5) (hv hs) ?_; rintro _ _ ⟨rfl, rfl⟩
 refine ne hs hK4 ?_
 clear hK4
 refine rg [1, 4, 8] hs ?_
 refine cnd h hs (fun hs h => ?_) (fun hs h => ?_)
 ·
  refine rg [2] hs ?_
  exact rt h hs hcalm hO
 refine sk [1] hs hK3 ?_
 clear hK3
 apply Zac; intro K9 hK9
 obtain ⟨y11, hy11, h⟩ := bind_some h
 refine rc 2 [12] hs ?_; intro K10 hK10
 refine Zad _ (Zfo w0 n _ _ _ a0 _ hy11) (hv hs) ?_
 refine ne hs hK10 ?_
 clear hK10
 refine cnd h hs (fun hs h => ?_) (fun hs h => ?_)
 ·
  refine rg [2] hs ?_
  exact rt h hs hcalm hO
 refine sk [] hs hK9 ?_
 clear hK9
 refine rg [2] hs ?_
 exact rt h hs hcalm hO
def Zd8 (n : Nat) (a0 : Ty) (a1 : Ty) : Option Int :=
 (ZhD n a0).bind fun y4 =>
 if !(decide (y4 = 0)) then
  some (y4)
 else
  (ZhD n a1).bind fun y9 =>
  some (y9)
theorem Zgo (w0 : World) (hT : Lib.Utf8Tabs 0 1 w0) (n : Nat) (B : List (List AV)) (Rw : List RowA) (L : List LoopA) (a0 : Ty) (a1 : Ty) (r : Int) (h : Zd8 n a0 a1 = some r) :
  ACalls Tryz.prog w0 78 [.agg (a0.cs), .agg (a1.cs)] ⟨B, Rw, L⟩ fun x st => x = .val (.int .i64 r) ∧ st = ⟨B, Rw, L⟩ := by
 rw [Zd8] at h
 refine hd [.tmp 4] Tryz.func78 Tryz.ntmps78 fun M0 W0 hN hNR hNL hcalm hu hO hs => ?_
 simp only [Zal]
 refine rg [2, 3] hs ?_
 apply Zac; intro K2 hK2
 obtain ⟨y4, hy4, h⟩ := bind_some h
 refine rc 2 [3, 5] hs ?_; intro K3 hK3
 refine Zad _ (Zke w0 hT n _ _ _ a0 _ hy4) (hv hs) ?_
 refine ne hs hK3 ?_
 clear hK3
 refine rg [3, 5, 9] hs ?_
 refine cnd h hs (fun hs h => ?_) (fun hs h => ?_)
 ·
  refine rg [4] hs ?_
  exact rt h hs hcalm hO
 refine sk [3] hs hK2 ?_
 clear hK2
 obtain ⟨y9, hy9, h⟩ := bind_some h
 refine rc 2 [4] hs ?_; intro K8 hK8
 refine Zad _ (Zke w0 hT n _ _ _ a1 _ hy9) (hv hs) ?_
 refine ne hs hK8 ?_
 clear hK8
 exact rt h hs hcalm hO
def Zcm (a0 : Int) : Bool :=
 (decide (a0 = 2)) || (decide (a0 = 3))
theorem Zh1 (w0 : World) (B : List (List AV)) (Rw : List RowA) (L : List LoopA) (a0 : Int) (r : Bool) (h : Zcm a0 = r) :
  ACalls Tryz.prog w0 189 [.val (.int .i64 a0)] ⟨B, Rw, L⟩ fun x st => x = .val (.bool r) ∧ st = ⟨B, Rw, L⟩ := by
 rw [Zcm] at h
 refine hd [.tmp 2] Tryz.func189 Tryz.ntmps189 fun M0 W0 hN hNR hNL hcalm hu hO hs => ?_
 simp only [Zal]
 refine rg [0] hs ?_
 refine rg [2] hs ?_
 apply Zaj; simp +decide only [go_sem, Nat.reduceAdd]
 subst h
 first | refine Zaz hcalm rfl hO.pre ev ⟨?_, rfl⟩ | refine Za5 hcalm rfl hO.pre ev ⟨?_, rfl⟩
 first | rfl | (simp +decide only [go_sem, Nat.reduceAdd]; done) | (simp +decide only [go_sem, Nat.reduceAdd, Vl.cs, Ty.cs]; done)
theorem ZeZ (w0 : World) (B : List (List AV)) (Rw : List RowA) (L : List LoopA) (a0 : Int) :
  ACalls Tryz.prog w0 189 [.val (.int .i64 a0)] ⟨B, Rw, L⟩ fun x st => x = .val (.bool (Zcm a0)) ∧ st = ⟨B, Rw, L⟩ := Zh1 w0 B Rw L a0 _ rfl
def ZcV (a0 : Int) (a1 : Int) : Bool :=
 (decide (a0 = a1)) || ((Zcm a0) && (Zcm a1))
theorem ZjP (w0 : World) (B : List (List AV)) (Rw : List RowA) (L : List LoopA) (a0 : Int) (a1 : Int) (r : Bool) (h : ZcV a0 a1 = r) :
  ACalls Tryz.prog w0 128 [.val (.int .i64 a0), .val (.int .i64 a1)] ⟨B, Rw, L⟩ fun x st => x = .val (.bool r) ∧ st = ⟨B, Rw, L⟩ := by
 rw [ZcV] at h
 refine hd [.tmp 4] Tryz.func128 Tryz.ntmps128 fun M0 W0 hN hNR hNL hcalm hu hO hs => ?_
 simp only [Zal]
 refine rg [0, 1] hs ?_
 refine rc 3 [4] hs ?_; intro K2 hK2
 refine ZdZ _ (fun _ => ZeZ w0 _ _ _ a0) (hv hs) ?_
 refine nc hs ?_
 refine ZdZ _ (fun _ => ZeZ w0 _ _ _ a1) (hv hs) ?_
 refine ne hs hK2 ?_
 clear hK2
 apply Zaj; simp +decide only [go_sem, Nat.reduceAdd]
 subst h
 first | refine Zaz hcalm rfl hO.pre ev ⟨?_, rfl⟩ | refine Za5 hcalm rfl hO.pre ev ⟨?_, rfl⟩
 first | rfl | (simp +decide only [go_sem, Nat.reduceAdd]; done) | (simp +decide only [go_sem, Nat.reduceAdd, Vl.cs, Ty.cs]; done)
theorem ZeP (w0 : World) (B : List (List AV)) (Rw : List RowA) (L : List LoopA) (a0 : Int) (a1 : Int) :
  ACalls Tryz.prog w0 128 [.val (.int .i64 a0), .val (.int .i64 a1)] ⟨B, Rw, L⟩ fun x st => x = .val (.bool (ZcV a0 a1)) ∧ st = ⟨B, Rw, L⟩ := ZjP w0 B Rw L a0 a1 _ rfl
end Go.Proofs.YtgpmlelfkjfbiaaGreatDoor
namespace Go.Ev
open Go Go.RowKit
section
variable {o : VO} {n : Nat}
@[go_sem] theorem Zuj : (hdr o n).cells = [hdr o n] := by cases o <;> rfl
@[go_sem] theorem ZxE : (hdr o n).one = true := by cases o <;> rfl
@[go_sem] theorem Zth : ZaH (hdr o n) = true := by cases o <;> rfl
@[go_sem] theorem ZuJ : ZdH (hdr o n) = false := by cases o <;> rfl
@[go_sem] theorem Zxr : isB (hdr o n) = false := by cases o <;> rfl
@[go_sem] theorem Zsb (id ver : Nat) : hdr (.row id ver) n = .vec id ver 0 n := rfl
def VO.under : VO → Nat → Prop
 | .nil, _ => True
 | .row id _, k => id < k
@[go_sem] theorem ZtK {nb nr nl : Nat} : Under nb nr nl (hdr o n) ↔ o.under nr := by
 cases o with
 | nil => exact ⟨fun _ => trivial, fun _ => .list (by simp) trivial⟩
 | row id ver => exact ⟨fun h => by cases h; assumption, fun h => .vec h⟩
@[go_sem] theorem ZrF (k : Nat) : VO.nil.under k = True := rfl
@[go_sem] theorem Ziw (id ver k : Nat) : (VO.row id ver).under k = (id < k) := rfl
end
def ZjS : VO → List RowA → VO
 | .nil, rows => .row rows.length 0
 | .row id ver, _ => .row id (ver + 1)
def ZkV : VO → List RowA → Nat → List AV → List RowA
 | .nil, rows, sz, cs => rows ++ [.vec 0 sz cs]
 | .row id ver, rows, sz, cs => rows.set id (.vec (ver + 1) sz cs)
section
variable {Rw rows : List RowA} {l : List (Nat × Nat × Own)} {ho : Own} {v : List VE} {o : VO} {sz : Nat} {cs : List AV}
theorem OwnsAt.up {lo : Nat} {x : Nat × Nat × Own} (h : OwnsAt lo ho rows x) (r : List RowA) : OwnsAt lo ho (rows ++ r) x := by
 rcases h with h | ⟨id, h1, h2, h3⟩
 ·
  exact .inl h
 ·
  exact .inr ⟨id, h1, h2, by rw [List.getElem?_append_left (List.getElem?_eq_some_iff.1 h3).1]; exact h3⟩
theorem OwnsAt.set {lo : Nat} {x : Nat × Nat × Own} (h : OwnsAt lo ho rows x) {i : Nat} {a s : Nat} {c : List AV} (hi : rows[i]? = some (.vec a s c)) (r : RowA) : OwnsAt lo ho (rows.set i r) x := by
 rcases h with h | ⟨id, h1, h2, h3⟩
 ·
  exact .inl h
 ·
  refine .inr ⟨id, h1, h2, ?_⟩
  rw [List.getElem?_set_ne (fun e => by rw [e, h3] at hi; cases hi)]
  exact h3
theorem VAt.lt {lo : Nat} {x : VE} (h : VAt lo rows x) : x.1.under rows.length := by
 rcases h with h | ⟨id, ver, h1, h2, h3⟩
 ·
  rw [h.1]; trivial
 ·
  rw [h1]; exact (List.getElem?_eq_some_iff.1 h3).1
theorem Owns.nilV (h : Owns Rw rows l ho v) (sz : Nat) : Owns Rw rows l ho ((.nil, sz, []) :: v) :=
 ⟨h.len, h.keep, fun i r hr q qv => h.calm i r hr q fun x hx => qv x (List.mem_cons_of_mem _ hx), h.each, h.apart, fun x hx => by
  rcases List.mem_cons.1 hx with rfl | hx
  ·
   exact .inl ⟨rfl, rfl⟩
  ·
   exact h.veach x hx, List.pairwise_cons.2 ⟨fun _ _ _ _ _ q => (nomatch q), h.vapart⟩⟩
theorem Owns.newV (h : Owns Rw rows l ho v) (sz : Nat) (cs : List AV) : Owns Rw (rows ++ [.vec 0 sz cs]) l ho ((.row rows.length 0, sz, cs) :: v) := by
 have hl := h.len
 refine ⟨by simp; omega, fun i hi hn => ?_, fun i r hr q qv => ?_, fun x hx => (h.each x hx).up _, h.apart, fun x hx => ?_, List.pairwise_cons.2 ⟨fun y hy id a b q k => ?_, h.vapart⟩⟩
 ·
  rw [List.getElem?_append_left (by omega)]; exact h.keep i hi hn
 ·
  by_cases hi : i < rows.length
  ·
   rw [List.getElem?_append_left hi] at hr
   exact h.calm i r hr q fun x hx => qv x (List.mem_cons_of_mem _ hx)
  ·
   have e : i = rows.length := by
    have := (List.getElem?_eq_some_iff.1 hr).1
    simp at this; omega
   exact absurd (by rw [e]) (qv _ (List.mem_cons_self ..) 0)
 ·
  rcases List.mem_cons.1 hx with rfl | hx
  ·
   exact .inr ⟨_, _, rfl, hl, by simp⟩
  ·
   exact (h.veach x hx).up _
 ·
  cases q
  have := (h.veach y hy).lt
  rw [k] at this
  exact Nat.lt_irrefl _ this
theorem Owns.setV {id ver : Nat} (h : Owns Rw rows l ho ((.row id ver, sz, cs) :: v)) (ver' : Nat) (cs' : List AV) : Owns Rw (rows.set id (.vec ver' sz cs')) l ho ((.row id ver', sz, cs') :: v) := by
 obtain ⟨h0, h1, h2, h3, h4, h5, h6⟩ := h
 obtain ⟨hid, hrow⟩ : Rw.length ≤ id ∧ rows[id]? = some (.vec ver sz cs) := by
  rcases h5 _ (List.mem_cons_self ..) with q | ⟨id', ver', q1, q2, q3⟩
  ·
   cases q.1
  ·
   cases q1; exact ⟨q2, q3⟩
 have hlt := (List.getElem?_eq_some_iff.1 hrow).1
 obtain ⟨p1, p2⟩ := List.pairwise_cons.1 h6
 refine ⟨by simpa using h0, fun i hi hn => ?_, fun i r hr q qv => ?_, fun x hx => (h3 x hx).set hrow _, h4, fun x hx => ?_, List.pairwise_cons.2 ⟨fun y hy id' a b q => by cases q; exact p1 y hy id ver b rfl, p2⟩⟩
 ·
  rw [List.getElem?_set_ne (by omega)]; exact h1 i hi hn
 ·
  by_cases e : id = i
  ·
   exact absurd (by rw [e]) (qv _ (List.mem_cons_self ..) ver')
  ·
   rw [List.getElem?_set_ne e] at hr
   refine h2 i r hr q fun x hx => ?_
   rcases List.mem_cons.1 hx with rfl | hx
   ·
    intro a k; cases k; exact e rfl
   ·
    exact qv x (List.mem_cons_of_mem _ hx)
 ·
  rcases List.mem_cons.1 hx with rfl | hx
  ·
   exact .inr ⟨id, ver', rfl, hid, by simp [hlt]⟩
  ·
   exact (h5 x (List.mem_cons_of_mem _ hx)).set (fun a k => p1 x hx id ver a rfl k) _
theorem Owns.bump (h : Owns Rw rows l ho ((o, sz, cs) :: v)) (cs' : List AV) : Owns Rw (ZkV o rows sz cs') l ho ((ZjS o rows, sz, cs') :: v) := by
 cases o with
 | nil =>
  have h' : Owns Rw rows l ho v := ⟨h.len, h.keep, fun i r hr q qv => h.calm i r hr q fun x hx => by
   rcases List.mem_cons.1 hx with rfl | hx
   ·
    intro a k; cases k
   ·
    exact qv x hx, h.each, h.apart, fun x hx => h.veach x (List.mem_cons_of_mem _ hx), (List.pairwise_cons.1 h.vapart).2⟩
  exact h'.newV sz cs'
 | row id ver => exact h.setV (ver + 1) cs'
theorem Owns.eqV {v' : List VE} (h : Owns Rw rows l ho v) (he : v = v') : Owns Rw rows l ho v' := he ▸ h
theorem Owns.nilZ (h : Owns Rw rows l ho ((o, sz, cs) :: v)) (hs : 0 < sz) {n : Nat} (hn : cs.length = n * sz) : o = .nil → n = 0 := fun e => by
 rcases h.veach _ (List.mem_cons_self ..) with q | ⟨id, ver, q1, q2, q3⟩
 ·
  have q2 : cs = [] := q.2
  rw [q2] at hn
  rcases Nat.eq_zero_or_pos n with w | w
  ·
   exact w
  ·
   have := Nat.mul_pos w hs
   simp at hn; omega
 ·
  rw [e] at q1; cases q1
theorem Owns.lenV (h : Owns Rw rows l ho ((o, sz, cs) :: v)) (hs : 0 < sz) {n : Nat} (hn : cs.length = n * sz) (P : Program) (t : TypeId) : Zl6 P t (hdr o n) = ((elT P t).isSome = true, .val (.int .i64 n)) := by
 cases o with
 | nil => rw [h.nilZ hs hn rfl]; rfl
 | row id ver => rfl
theorem Owns.underV (h : Owns Rw rows l ho v) : ∀ x ∈ v, x.1.under rows.length := fun x hx => (h.veach x hx).lt
theorem Owns.appendV {P : Program} {t el : TypeId} {by8 n m : Nat} {ag : Bool} (h : Owns Rw rows l ho ((o, sz, cs) :: v)) (he : elT P t = some (el, sz, ag, by8)) (hz : (ZbW P el).isSome = true) (hs : 0 < sz) (hn : cs.length = n * sz) (hm : 0 < m)
  (hb : (n + m) * by8 ≤ 140737488355328) (hb2 : n + m ≤ 4611686018427387904) (ys : List AV) (hy : ys.length = m) (cs' : List AV) (hc : cs ++ ys.flatMap (fun y => y.pub.cells) = cs') :
  ∃ o' rows', Owns Rw rows' l ho ((o', sz, cs') :: v) ∧ ∀ (B : List (List AV)) (L : List LoopA) (o2 : Own), ZaS P ⟨B, rows, L⟩ t (hdr o n) (.list ys o2) = ((∀ y ∈ ys, y.cells.length = sz ∧ ZaH y = true), hdr o' (n + m), ⟨B, rows', L⟩) := by
 subst hc
 refine ⟨_, _, h.bump _, fun B L o2 => ?_⟩
 cases o with
 | nil =>
  have e0 := h.nilZ hs hn rfl
  subst e0
  have ec : cs = [] := List.length_eq_zero_iff.1 (by simpa using hn)
  subst ec
  simp only [hdr, ZaS, he, ZaA, Zbi, Zbk, hs, hz, hy, hm, ZjS, ZkV, List.length_nil, List.nil_append, Nat.zero_add, true_and, and_true, Prod.mk.injEq, eq_iff_iff, and_self]
  rw [Nat.zero_add] at hb hb2
  exact ⟨fun q => q.2.2, fun q => ⟨hb, hb2, q⟩⟩
 | row id ver =>
  obtain ⟨id', ver', e, hlt, hv⟩ : ∃ id' ver', VO.row id ver = .row id' ver' ∧ id' < rows.length ∧ Ze4 rows id' ver' = some (sz, cs) := by
   rcases h.veach _ (List.mem_cons_self ..) with q | ⟨id, ver, q1, q2, q3⟩
   ·
    cases q.1
   ·
    refine ⟨id, ver, q1, (List.getElem?_eq_some_iff.1 q3).1, ?_⟩
    simp only [Ze4, q3, if_true]
  cases e
  have et : cs.take (n * sz) = cs := List.take_of_length_le (by omega)
  have eb := hb
  simp only [hdr, ZaS, he, hv, ZaA, Zbi, Zbk, hs, hz, hy, ZjS, ZkV, et, Nat.le_of_eq hn.symm, true_and, and_true, Prod.mk.injEq, eq_iff_iff]
  exact ⟨fun q => q.2.2, fun q => ⟨hb, hb2, q⟩⟩
theorem Owns.callV {rows' : List RowA} {v' : List VE} (h : Owns Rw rows l ho v) (hc : Owns rows rows' [] .none v') : Owns Rw rows' l ho (v' ++ v) := by
 have l1 := h.len
 have l2 := hc.len
 have keep : ∀ i, i < rows.length → rows'[i]? = rows[i]? := fun i hi => hc.keep i hi (fun q => by cases q)
 have old : ∀ x ∈ v, x.1.under rows.length := h.underV
 have new : ∀ x ∈ v', ∀ id ver, x.1 = .row id ver → rows.length ≤ id := fun x hx id ver e => by
  rcases hc.veach x hx with q | ⟨id', ver', q1, q2, q3⟩
  ·
   rw [q.1] at e; cases e
  ·
   rw [q1] at e; cases e; exact q2
 refine ⟨by omega, fun i hi hn => ?_, fun i r hr q qv => ?_, fun x hx => ?_, h.apart, fun x hx => ?_, List.pairwise_append.2 ⟨hc.vapart, h.vapart, fun x hx y hy id a b e k => ?_⟩⟩
 ·
  rw [keep i (by omega)]; exact h.keep i hi hn
 ·
  by_cases e : rows.length ≤ i
  ·
   exact hc.calm i r hr (.inl e) fun x hx => qv x (List.mem_append_left _ hx)
  ·
   rw [keep i (by omega)] at hr
   exact h.calm i r hr q fun x hx => qv x (List.mem_append_right _ hx)
 ·
  rcases h.each x hx with q | ⟨id, q1, q2, q3⟩
  ·
   exact .inl q
  ·
   exact .inr ⟨id, q1, q2, by rw [keep id (List.getElem?_eq_some_iff.1 q3).1]; exact q3⟩
 ·
  rcases List.mem_append.1 hx with hx | hx
  ·
   rcases hc.veach x hx with q | ⟨id, ver, q1, q2, q3⟩
   ·
    exact .inl q
   ·
    exact .inr ⟨id, ver, q1, by omega, q3⟩
  ·
   rcases h.veach x hx with q | ⟨id, ver, q1, q2, q3⟩
   ·
    exact .inl q
   ·
    exact .inr ⟨id, ver, q1, q2, by rw [keep id (List.getElem?_eq_some_iff.1 q3).1]; exact q3⟩
 ·
  have h1 := new x hx id a e
  have h2 := old y hy
  rw [k] at h2
  exact absurd h2 (by simp only [VO.under]; omega)
theorem Owns.dropV {x : VE} (h : Owns Rw rows l ho ((.nil, sz, cs) :: v)) : Owns Rw rows l ho v :=
 ⟨h.len, h.keep, fun i r hr q qv => h.calm i r hr q fun x hx => by
  rcases List.mem_cons.1 hx with rfl | hx
  ·
   intro a k; cases k
  ·
   exact qv x hx, h.each, h.apart, fun x hx => h.veach x (List.mem_cons_of_mem _ hx), (List.pairwise_cons.1 h.vapart).2⟩
theorem Owns.deadV {id ver : Nat} (h : Owns Rw rows l ho ((.row id ver, sz, cs) :: v)) : Owns Rw (rows.set id (.dead (ver + 1))) l ho v := by
 obtain ⟨h0, h1, h2, h3, h4, h5, h6⟩ := h
 obtain ⟨hid, hrow⟩ : Rw.length ≤ id ∧ rows[id]? = some (.vec ver sz cs) := by
  rcases h5 _ (List.mem_cons_self ..) with q | ⟨id', ver', q1, q2, q3⟩
  ·
   cases q.1
  ·
   cases q1; exact ⟨q2, q3⟩
 have hlt := (List.getElem?_eq_some_iff.1 hrow).1
 obtain ⟨p1, p2⟩ := List.pairwise_cons.1 h6
 refine ⟨by simpa using h0, fun i hi hn => ?_, fun i r hr q qv => ?_, fun x hx => (h3 x hx).set hrow _, h4, fun x hx => ?_, p2⟩
 ·
  rw [List.getElem?_set_ne (by omega)]; exact h1 i hi hn
 ·
  by_cases e : id = i
  ·
   subst e
   rw [List.getElem?_set_self hlt] at hr
   cases hr; rfl
  ·
   rw [List.getElem?_set_ne e] at hr
   refine h2 i r hr q fun x hx => ?_
   rcases List.mem_cons.1 hx with rfl | hx
   ·
    intro a k; cases k; exact e rfl
   ·
    exact qv x hx
 ·
  exact (h5 x (List.mem_cons_of_mem _ hx)).set (fun a k => p1 x hx id ver a rfl k) _
end
section
variable {P : Program} {w0 : World} {n : Nat} {e : Env} {st : St} {M0 : Mem} {W0 : World} {ro : Option Nat} {Q : AQ} {c : Code}
variable {Rw : List RowA} {lw : List (Nat × Nat × Own)} {oh : Own} {v : List VE} {o : VO} {sz m : Nat} {cs xs : List AV}
theorem Zml (l i : Nat) {bs : List AV} (hl : st.boxes[l]? = some bs) (hi : bs[i]? = some (hdr o m)) (ho : Owns Rw st.rows lw oh ((o, sz, cs) :: v)) (ag : Bool) (hag : ag = true ∨ sz = 1) (hs : 0 < sz) (hn : cs.length = m * sz) (hx : Zmh sz ag cs 0 m = xs)
  (h : ∀ rows', Owns Rw rows' lw oh v → awp P w0 n M0 W0 ro c Q e { st with boxes := st.boxes.set l (bs.set i (.list xs .none)), rows := rows' }) : awp P w0 n M0 W0 ro c Q e st := by
 cases o with
 | nil =>
  have e0 := ho.nilZ hs hn rfl
  subst e0
  have ex : xs = [] := by rw [← hx]; rfl
  subst ex
  exact Zju l i hl hi rfl (h _ (ho.dropV (x := (.nil, 0, []))))
 | row id ver =>
  rcases ho.veach _ (List.mem_cons_self ..) with q | ⟨id', ver', q1, q2, q3⟩
  ·
   cases q.1
  ·
   cases q1
   subst hx
   exact Zg6 l i ag hl hi (by simp only [Ze4, q3, if_true]) hag (by rw [Nat.zero_add]; omega) (h _ ho.deadV)
end
theorem Zr4 {α : Type} {f : α → AV} {g : α → List AV} (sz : Nat) (hf : ∀ x, f x = .agg (g x)) (hg : ∀ x, (g x).length = sz) (xs : List α) : Zmh sz true (xs.flatMap fun x => (f x).cells) 0 xs.length = xs.map f := by
 have hc : (xs.flatMap fun x => (f x).cells) = xs.flatMap g := by
  congr 1; funext x; rw [hf]; rfl
 rw [hc]
 refine List.ext_getElem (by simp [Zmh]) fun i h1 h2 => ?_
 simp only [List.length_map] at h2
 simp only [Zmh, List.getElem_map, List.getElem_range, Nat.zero_add, ZjR, if_true]
 rw [Zdo sz hg (List.getElem?_eq_getElem h2), hf]
theorem Ze5 {α : Type} {f : α → AV} {sz : Nat} (hf : ∀ x, (f x).cells.length = sz) (xs : List α) : (xs.flatMap fun x => (f x).cells).length = xs.length * sz := by
 induction xs with
 | nil => simp
 | cons x xs ih => rw [List.flatMap_cons, List.length_append, ih, hf, List.length_cons, Nat.succ_mul, Nat.add_comm]
theorem Zna {α : Type} {f : α → AV} {sz : Nat} (hf : ∀ x, (f x).cells.length = sz) {xs : List α} {i : Nat} {x : α} (h : xs[i]? = some x) :
  (∀ j, j < sz → nth (xs.flatMap fun x => (f x).cells) (i * sz + j) = nth (f x).cells j) ∧ (∀ j k, j + k ≤ sz → ((xs.flatMap fun x => (f x).cells).drop (i * sz + j)).take k = ((f x).cells.drop j).take k) := by
 have key := Zdo (f := fun x => (f x).cells) sz hf h
 have kd : ∀ j k, j + k ≤ sz → ((xs.flatMap fun x => (f x).cells).drop (i * sz + j)).take k = ((f x).cells.drop j).take k := fun j k hjk => by
  rw [← key, List.drop_take, List.take_take, List.drop_drop, Nat.min_eq_left (by omega)]
 refine ⟨fun j hj => ?_, kd⟩
 have := kd j 1 (by omega)
 simp only [nth, List.getD_eq_getElem?_getD]
 have e1 : ∀ (l : List AV) (q : Nat), l[q]? = ((l.drop q).take 1)[0]? := fun l q => by simp [List.getElem?_take_of_lt, List.getElem?_drop]
 rw [e1, e1 (f x).cells, this]
section
variable {P : Program} {w0 : World} {f : FuncId} {st : St}
def finV (st : St) (Post : AV → St → Prop) (r : AV) (s : St) : Prop :=
 st.boxes.length ≤ s.boxes.length ∧ st.rows.length ≤ s.rows.length ∧ st.loops.length ≤ s.loops.length ∧ Calm st.boxes.length s.rows.length st.loops.length (s.cut st.boxes.length s.rows.length st.loops.length) ∧
  Under st.boxes.length s.rows.length st.loops.length r ∧ Post r (s.cut st.boxes.length s.rows.length st.loops.length)
theorem ACalls.finV {args : List AV} {Post : AV → St → Prop} (h : ACalls P w0 f args st (finV st Post)) : ACalls P w0 f args st Post := by
 refine ⟨h.1, fun M w vals hst hrow => (h.2 M w vals hst hrow).mono ?_⟩
 rintro en w' ⟨v, M', r, st', h1, ⟨b1, b2, b3, b4, b5, b6⟩, h3, h4, h5⟩
 exact ⟨v, M'.cut st.boxes.length st'.rows.length st.loops.length, r, _, h1, b6, h3.cut (by have := hst.N; omega) (by have := hst.NR; omega) (by have := hst.loop.NL; omega) (by rw [h4.loop.NL]; exact b3), h4.cut b1 (Nat.le_refl _) b3 b4, h5.cut b5⟩
theorem ZwI {B B' X : List (List AV)} {R0 rows : List RowA} {L l : List LoopA} {Post : AV → St → Prop} {r : AV} {ow : List (Nat × Nat × Own)} {v : List VE} (ho : Owns R0 rows ow .none v) (hc : Calm B.length R0.length L.length ⟨B', R0, L⟩) (hB : B'.length = B.length) (hu : Under B.length rows.length L.length r)
  (hv : ∀ x ∈ v, ∀ y ∈ x.2.2, Under B.length rows.length L.length y) (hp : Post r ⟨B', rows, L⟩) : Go.Ev.finV ⟨B, R0, L⟩ Post r ⟨B' ++ X, rows, L ++ l⟩ := by
 have e : St.cut ⟨B' ++ X, rows, L ++ l⟩ B.length rows.length L.length = ⟨B', rows, L⟩ := by simp [St.cut, ← hB]
 have hl := ho.len
 refine ⟨by simp [hB], hl, by simp, ?_, hu, by simp only [e]; exact hp⟩
 simp only [e]
 exact ⟨ho.rowsCalm (Nat.le_refl _) hc.rows hv, fun cs a x b => Zbf (Nat.le_refl _) hl (Nat.le_refl _) (hc.boxes cs a x b), fun la a k x b c => Zbf (Nat.le_refl _) hl (Nat.le_refl _) (hc.loops la a k x b c)⟩
theorem Zt0 {B B' X : List (List AV)} {R0 rows : List RowA} {L : List LoopA} {Post : AV → St → Prop} {r : AV} {ow : List (Nat × Nat × Own)} {v : List VE} (ho : Owns R0 rows ow .none v) (hc : Calm B.length R0.length L.length ⟨B', R0, L⟩) (hB : B'.length = B.length) (hu : Under B.length rows.length L.length r)
  (hv : ∀ x ∈ v, ∀ y ∈ x.2.2, Under B.length rows.length L.length y) (hp : Post r ⟨B', rows, L⟩) : Go.Ev.finV ⟨B, R0, L⟩ Post r ⟨B' ++ X, rows, L⟩ := by
 have := ZwI (X := X) (l := []) ho hc hB hu hv hp
 rwa [List.append_nil] at this
end
abbrev VP (Rw : List RowA) (o : VO) (sz : Nat) (cs : List AV) : Prop := VAt 0 Rw (o, sz, cs)
theorem Owns.vp {Rw rows : List RowA} {l : List (Nat × Nat × Own)} {ho : Own} {v : List VE} {o : VO} {sz : Nat} {cs : List AV} (h : Owns Rw rows l ho ((o, sz, cs) :: v)) : VP rows o sz cs := by
 rcases h.veach _ (List.mem_cons_self ..) with q | ⟨id, ver, q1, q2, q3⟩
 ·
  exact .inl q
 ·
  exact .inr ⟨id, ver, q1, Nat.zero_le _, q3⟩
theorem VP.up {Rw rows : List RowA} {o : VO} {sz : Nat} {cs : List AV} {l : List (Nat × Nat × Own)} {v : List VE} (h : VP Rw o sz cs) (ho : Owns Rw rows l .none v) : VP rows o sz cs := by
 rcases h with q | ⟨id, ver, q1, q2, q3⟩
 ·
  exact .inl q
 ·
  refine .inr ⟨id, ver, q1, q2, ?_⟩
  rw [ho.keep id (List.getElem?_eq_some_iff.1 q3).1 (fun e => by cases e)]
  exact q3
theorem VP.row {rows : List RowA} {o : VO} {sz : Nat} {cs : List AV} (h : VP rows o sz cs) (hne : 0 < cs.length) : ∃ id ver, o = .row id ver ∧ id < rows.length ∧ Ze4 rows id ver = some (sz, cs) := by
 rcases h with q | ⟨id, ver, q1, q2, q3⟩
 ·
  have q2 : cs = [] := q.2
  rw [q2] at hne; simp at hne
 ·
  refine ⟨id, ver, q1, (List.getElem?_eq_some_iff.1 q3).1, ?_⟩
  simp only [Ze4, q3, if_true]
theorem VP.lenV {rows : List RowA} {o : VO} {sz : Nat} {cs : List AV} (h : VP rows o sz cs) (hs : 0 < sz) {n : Nat} (hn : cs.length = n * sz) (P : Program) (t : TypeId) : Zl6 P t (hdr o n) = ((elT P t).isSome = true, .val (.int .i64 n)) := by
 cases o with
 | nil =>
  rcases h with q | ⟨id, ver, q1, q2, q3⟩
  ·
   have q2 : cs = [] := q.2
   rw [q2] at hn
   rcases Nat.eq_zero_or_pos n with w | w
   ·
    rw [w]; rfl
   ·
    have := Nat.mul_pos w hs
    simp at hn; omega
  ·
   cases q1
 | row id ver => rfl
theorem VP.under {rows : List RowA} {o : VO} {sz : Nat} {cs : List AV} (h : VP rows o sz cs) : o.under rows.length := VAt.lt h
end Go.Ev
namespace Go.Ev
open Go Go.RowKit Go.Shelf Go.Lib Go.Proofs
structure InsLay (P : Program) (ρ : Ren) (nm : String) (sz bytes : Nat) (z : Value) : Prop where
 mixed : P.follows .mixedOrders = true
 nmo : nm ≠ "runtime.NumGoroutine"
 f22 : P.funcs[ρ.f 22]? = some { Body2.n22 ρ with name := nm }
 ov : ∀ (w : World) (x y : Value), (Extern.SlicesOverlaps.overlaps #[ρ.t 24, ρ.t 24] #[ρ.t 4] #[x, y]).run P w = .ok (.bool false) w → (callFunc (ρ.f 29) #[x, y]).run P w = .ok (.value (.bool false)) w
 t0 : P.underlying (ρ.t 0) = some (TypeDesc.tuple #[])
 a0 : ∀ w, (isAgg (ρ.t 0)).run P w = .ok false w
 z0 : ∀ w, (Go.sizeOf (ρ.t 0)).run P w = .ok 1 w
 v0 : ∀ w, (zeroValue (ρ.t 0)).run P w = .ok (Value.tuple #[]) w
 t3 : P.underlying (ρ.t 3) = some (TypeDesc.int IntKind.i64)
 a3 : ∀ w, (isAgg (ρ.t 3)).run P w = .ok false w
 z3 : ∀ w, (Go.sizeOf (ρ.t 3)).run P w = .ok 1 w
 v3 : ∀ w, (zeroValue (ρ.t 3)).run P w = .ok (Value.int IntKind.i64 0) w
 t4 : P.underlying (ρ.t 4) = some (TypeDesc.bool)
 a4 : ∀ w, (isAgg (ρ.t 4)).run P w = .ok false w
 z4 : ∀ w, (Go.sizeOf (ρ.t 4)).run P w = .ok 1 w
 v4 : ∀ w, (zeroValue (ρ.t 4)).run P w = .ok (Value.bool false) w
 z9 : ∀ w, (Go.sizeOf (ρ.t 9)).run P w = .ok sz w
 t24 : P.underlying (ρ.t 24) = some (TypeDesc.slice (ρ.t 9))
 a24 : ∀ w, (isAgg (ρ.t 24)).run P w = .ok false w
 z24 : ∀ w, (Go.sizeOf (ρ.t 24)).run P w = .ok 1 w
 v24 : ∀ w, (zeroValue (ρ.t 24)).run P w = .ok (Value.slice none 0 0) w
 i9 : (P.info? (ρ.t 9)).map (fun i => (i.zero, i.size, i.bytes)) = some (some z, sz, bytes)
theorem ZiF {P : Program} (w : World) (tS tR e : TypeId) (ht : P.underlying tS = some (.slice e)) (size : Nat) (hz : ∀ w, (Go.sizeOf e).run P w = .ok size w)
  (a b : Addr) (la ca lb cb : Nat) (hne : a.block ≠ b.block) (tA tB : TypeId) (kA kB : Nat)
  (hsa : w.shape? a.block = some (tA, kA)) (hsb : w.shape? b.block = some (tB, kB)) (hkA : kA ≠ 0) (hkB : kB ≠ 0)
  (hfb : ∀ j, w.frozen? { block := b.block, off := j } = false) (hb : b.spot = none) :
  (Extern.SlicesOverlaps.overlaps #[tS, tS] #[tR] #[.slice (some a) la ca, .slice (some b) lb cb]).run P w = .ok (.bool false) w := by
 have hnb : (a.block != b.block) = true := by simpa using hne
 have hnb' : (a.block == b.block) = false := by simpa using hne
 have hf : w.frozen? b = false := by
  obtain ⟨bb, bo, bs⟩ := b
  cases hb
  exact hfb bo
 change Sem.run P (α := Value) (do
  let some t := (#[tS, tS] : Array TypeId)[0]? | stuck "slices.overlaps: no parameter types"
  let .slice elem ← underlying t | stuck "slices.overlaps: slice type expected"
  let size ← sizeOf elem
  match (some a : Option Addr), (some b : Option Addr) with
  | some a, some b =>
   if la = 0 ∨ lb = 0 ∨ size = 0 then pure (Value.bool false)
   else if a.block != b.block && (← frozen a) && (← frozen b) then unsupported .addressObserved
   else do
    if a.block != b.block then do
     noView a; noView b
     if ← mayBeOne a b then return Value.bool ((← choose (.extern "sameAddr.stringBytes" 2)) == 1)
    pure (Value.bool (a.block == b.block && a.off < b.off + lb * size && b.off < a.off + la * size))
  | _, _ => pure (Value.bool false)) w = _
 by_cases h0 : la = 0 ∨ lb = 0 ∨ size = 0
 ·
  simp [run_underlying ht, hz, h0]
 ·
  cases kB with
  | zero => exact absurd rfl hkB
  | succ kB =>
  cases kA with
  | zero => exact absurd rfl hkA
  | succ kA =>
   cases hfa : w.frozen? a <;> cases hfe : w.frozen? { block := a.block, off := kA + 1 } <;>
    simp [run_underlying ht, hz, h0, hnb, hnb', frozen, noView, viewAt, mayBeOne, stringish, shape, Sem.run, hsa, hsb, hfa, hfe, hf, hfb]
section
variable {P : Program} {ρ : Ren} {nm : String} {sz bytes : Nat} {z : Value}
theorem ZfB (w : World) (dT sT ty elem : TypeId) (b o dLen dCap : Nat) (a : Addr) (sLen sCap : Nat) (cs : List Value)
  (hu : P.underlying dT = some (.slice elem)) (hs : (P.info? elem).map (·.size) = some sz) (hn : cs.length = Nat.min sLen dLen * sz)
  (hsrc : ∀ j v, cs[j]? = some v → w.cell? (a.add j) = some v) (hc : ∀ j, j < cs.length → (w.cell? ⟨b, o + j, none⟩).isSome = true) (hf : ∀ j, j < cs.length → w.frozen? ⟨b, o + j, none⟩ = false) (h1 : ∀ v ∈ cs, v.oneCell' = true) :
  (Builtin.copy_ #[dT, sT] ty #[.slice (some ⟨b, o, none⟩) dLen dCap, .slice (some a) sLen sCap]).run P w = .ok (goInt (Nat.min sLen dLen)) (w.setCells b o cs) := by
 have hl := run_loadCells_list (P := P) w a cs hsrc
 have hst := run_storeCells_cells (P := P) b o cs 0 w (by simpa using hc) (by simpa using hf) h1
 rw [Nat.add_zero] at hst
 rw [hn] at hl
 cases hq : P.info? elem with
 | none => simp [hq] at hs
 | some i =>
  have hi : i.size = sz := by simpa [hq] using hs
  simp [Builtin.copy_, run_underlying hu, Builtin.lenOf, Builtin.firstCells, sizeOf, typeInfo, hq, hi, hl, hst]
theorem ZoM (L : InsLay P ρ nm sz bytes z) (b off n c i vb voff m vc : Nat) (cs vs : List Value) (w : World) (hi : i < n) (hm : 0 < m) (hroom : n + m ≤ c) (hc63 : c ≤ 9223372036854775807) (hvb : vb ≠ b)
  (hcl : cs.length = n * sz) (hvl : vs.length = m * sz)
  (hcs : ∀ j v, cs[j]? = some v → w.cell? ⟨b, off + j, none⟩ = some v) (hsp : ∀ j, j < n * sz + m * sz → (w.cell? ⟨b, off + j, none⟩).isSome = true) (hfz : ∀ j, j < n * sz + m * sz → w.frozen? ⟨b, off + j, none⟩ = false)
  (hvs : ∀ j v, vs[j]? = some v → w.cell? ⟨vb, voff + j, none⟩ = some v) (h1c : ∀ v ∈ cs, v.oneCell' = true) (h1v : ∀ v ∈ vs, v.oneCell' = true)
  (tA tB : TypeId) (kA kB : Nat) (hsa : w.shape? vb = some (tA, kA)) (hsb : w.shape? b = some (tB, kB)) (hkA : kA ≠ 0) (hkB : kB ≠ 0) (hfb : ∀ j, w.frozen? ⟨b, j, none⟩ = false) :
  Calls P (ρ.f 22) #[.slice (some ⟨b, off, none⟩) n c, .int .i64 i, .slice (some ⟨vb, voff, none⟩) m vc] w fun e w' =>
   e = .returned (.slice (some ⟨b, off, none⟩) (n + m) c) ∧ w' = (w.drew.setCells b (off + (i * sz + m * sz)) (cs.drop (i * sz))).setCells b (off + i * sz) vs := by
 have t0 := L.t0; have a0 := L.a0; have z0 := L.z0; have v0 := L.v0; have t3 := L.t3; have a3 := L.a3; have z3 := L.z3; have v3 := L.v3; have t4 := L.t4; have a4 := L.a4; have z4 := L.z4; have v4 := L.v4; have z9 := L.z9; have t24 := L.t24; have a24 := L.a24; have z24 := L.z24; have v24 := L.v24
 have u0 := run_underlying L.t0; have u3 := run_underlying L.t3; have u4 := run_underlying L.t4; have u24 := run_underlying L.t24
 have hz1 : ¬ ((m : Int) = 0) := by omega
 have hz2 : ¬ ((i : Int) = (n : Int)) := by omega
 have hsz : (P.info? (ρ.t 9)).map (·.size) = some sz := by
  obtain ⟨i0, hi0, h0, h1, h2⟩ := info_parts L.i9
  rw [hi0]; simp [h1]
 have mixed := L.mixed
 have hw1 : IntKind.i64.wrap ((i : Int) + (m : Int)) = (i : Int) + (m : Int) := by rw [IntKind.wrap_i64]; omega
 have hb1 : (0 : Int) ≤ (i : Int) + (m : Int) := by omega
 have hin : i ≤ n := by omega
 have htn : ((i : Int) + (m : Int)).toNat = i + m := by omega
 have hb2 : ¬ (c = i + m) := by omega
 have hb3 : (i : Int) ≤ (n : Int) + (m : Int) := by omega
 have hb4 : ¬ (c = i) := by omega
 have hAC : (i + m) * sz = i * sz + m * sz := Nat.add_mul ..
 have hle : i * sz ≤ n * sz := Nat.mul_le_mul_right _ hin
 have hsub : (n - i) * sz = n * sz - i * sz := Nat.sub_mul ..
 have hov : ∀ lb cb, (callFunc (ρ.f 29) #[.slice (some ⟨vb, voff, none⟩) m vc, .slice (some ⟨b, off + (i * sz + m * sz), none⟩) lb cb]).run P w = .ok (.value (.bool false)) w := fun lb cb =>
  L.ov _ _ _ (ZiF w (ρ.t 24) (ρ.t 4) (ρ.t 9) L.t24 sz L.z9 ⟨vb, voff, none⟩ ⟨b, off + (i * sz + m * sz), none⟩ m vc lb cb hvb tA tB kA kB hsa hsb hkA hkB hfb rfl)
 have hdl : (cs.drop (i * sz)).length = n * sz - i * sz := by rw [List.length_drop, hcl]
 have hcp1 : ∀ ty dc sc, (Builtin.copy_ #[(ρ.t 24), (ρ.t 24)] ty #[.slice (some ⟨b, off + (i * sz + m * sz), none⟩) (n + m - (i + m)) dc, .slice (some ⟨b, off + i * sz, none⟩) (n + m - i) sc]).run P w.drew = .ok (goInt ((n - i : Nat) : Int)) (w.drew.setCells b (off + (i * sz + m * sz)) (cs.drop (i * sz))) := fun ty dc sc => by
  have hmin : Nat.min (n + m - i) (n + m - (i + m)) = n - i := by simp only [Nat.min_def]; split <;> omega
  have := ZfB (P := P) w.drew (ρ.t 24) (ρ.t 24) ty (ρ.t 9) b (off + (i * sz + m * sz)) (n + m - (i + m)) dc ⟨b, off + i * sz, none⟩ (n + m - i) sc (cs.drop (i * sz)) L.t24 hsz (by rw [hdl, hmin, hsub])
   (fun j v hj => by rw [Addr.add_lit, Nat.add_assoc]; exact hcs (i * sz + j) v (by rwa [List.getElem?_drop] at hj))
   (fun j hj => by rw [Nat.add_assoc]; exact hsp _ (by omega)) (fun j hj => by rw [Nat.add_assoc]; exact hfz _ (by omega)) (fun v hv => h1c v (List.mem_of_mem_drop hv))
  rwa [hmin] at this
 obtain ⟨W1, hW1⟩ : ∃ W1, W1 = w.drew.setCells b (off + (i * sz + m * sz)) (cs.drop (i * sz)) := ⟨_, rfl⟩
 have hsp1 : ∀ k, k < n * sz + m * sz → (W1.cell? ⟨b, off + k, none⟩).isSome = true := fun k hk => by
  rw [hW1]
  exact isSome_setCells b _ _ _ (fun j hj => by rw [Nat.add_assoc]; exact hsp _ (by omega)) _ (hsp k hk)
 have hcp2 : ∀ (W : World), (∀ x, W.cell? x = W1.cell? x) → (∀ x, W.frozen? x = W1.frozen? x) → ∀ ty dc, (Builtin.copy_ #[(ρ.t 24), (ρ.t 24)] ty #[.slice (some ⟨b, off + i * sz, none⟩) (n + m - i) dc, .slice (some ⟨vb, voff, none⟩) m vc]).run P W = .ok (goInt m) (W.setCells b (off + i * sz) vs) := fun W hWc hWf ty dc => by
  have hmin : Nat.min m (n + m - i) = m := by simp only [Nat.min_def]; split <;> omega
  have := ZfB (P := P) W (ρ.t 24) (ρ.t 24) ty (ρ.t 9) b (off + i * sz) (n + m - i) dc ⟨vb, voff, none⟩ m vc vs L.t24 hsz (by rw [hvl, hmin])
   (fun j v hj => by
    rw [Addr.add_lit, hWc, hW1, World.cell?_setCells_out b _ _ _ _ (fun h _ => absurd h hvb)]
    exact hvs j v hj)
   (fun j hj => by rw [hWc, Nat.add_assoc]; exact hsp1 _ (by omega)) (fun j hj => by rw [hWf, hW1, World.frozen?_setCells, Nat.add_assoc]; exact hfz _ (by omega)) h1v
  rwa [hmin] at this
 rw [← hW1] at hcp1
 have FG := L.f22
 go_enter FG, Body2.n22_ntmps ρ
 go_wp2_with (simp only [hov])
 go_region_law_o (refine step_copy_runI rfl _ _ (ρ.t 24) (ρ.t 24) rfl _ _ (by simp [Act.eval, Act.put]) (by simp [Act.eval, Act.put]) (hcp1 _ _ _) ?_)
 go_wp2_with (at_builtin; refine wpList_copy_runI _ rfl _ _ (ρ.t 24) (ρ.t 24) rfl _ _ rfl rfl (hcp2 _ (fun _ => rfl) (fun _ => rfl) _ _) ?_)
 go_ret
 first | exact ⟨rfl, rfl⟩ | exact ⟨rfl, by rw [hW1]⟩
theorem ZqP (L : InsLay P ρ nm sz bytes z) (hzc : z.cells.size = sz) (h0 : 0 < sz) (b off n c i vb voff m vc : Nat) (cs vs : List Value) (w : World) (hi : i < n) (hm : 0 < m) (hnc : n ≤ c) (hroom : c < n + m) (hbig : (n + m) * bytes ≤ 140737488355328) (hbig2 : n + m ≤ 4611686018427387904)
  (hcl : cs.length = n * sz) (hvl : vs.length = m * sz)
  (hcs : ∀ j v, cs[j]? = some v → w.cell? ⟨b, off + j, none⟩ = some v)
  (hvs : ∀ j v, vs[j]? = some v → w.cell? ⟨vb, voff + j, none⟩ = some v) (h1c : ∀ v ∈ cs, v.oneCell' = true) (h1v : ∀ v ∈ vs, v.oneCell' = true) :
  Calls P (ρ.f 22) #[.slice (some ⟨b, off, none⟩) n c, .int .i64 i, .slice (some ⟨vb, voff, none⟩) m vc] w fun e w' =>
   e = .returned (.slice (some ⟨w.heap.size, 0, none⟩) (n + m) (grownCap w (n + m) c (ρ.t 9))) ∧
   w' = (((w.alloc (.cells ((cs.take (i * sz)).toArray ++ Builtin.zeroCells z.cells (n + m - i) ++ Builtin.zeroCells z.cells (grownCap w (n + m) c (ρ.t 9) - (n + m))) (ρ.t 9))).drew.setCells w.heap.size (i * sz) vs).drew).setCells w.heap.size (i * sz + m * sz) (cs.drop (i * sz)) := by
 have t0 := L.t0; have a0 := L.a0; have z0 := L.z0; have v0 := L.v0; have t3 := L.t3; have a3 := L.a3; have z3 := L.z3; have v3 := L.v3; have t4 := L.t4; have a4 := L.a4; have z4 := L.z4; have v4 := L.v4; have z9 := L.z9; have t24 := L.t24; have a24 := L.a24; have z24 := L.z24; have v24 := L.v24
 have u0 := run_underlying L.t0; have u3 := run_underlying L.t3; have u4 := run_underlying L.t4; have u24 := run_underlying L.t24
 have mixed := L.mixed
 obtain ⟨i0, hi0, hz0, hzs, hzb⟩ := info_parts L.i9
 have hz1 : ¬ ((m : Int) = 0) := by omega
 have hz2 : ¬ ((i : Int) = (n : Int)) := by omega
 have hz3 : (c : Int) < (n : Int) + (m : Int) := by omega
 have hsz : (P.info? (ρ.t 9)).map (·.size) = some sz := by rw [hi0]; simp [hzs]
 have hAC : (i + m) * sz = i * sz + m * sz := Nat.add_mul ..
 have hle : i * sz ≤ n * sz := Nat.mul_le_mul_right _ (by omega)
 have hpos : 0 < m * sz := Nat.mul_pos hm h0
 have hsub : (n - i) * sz = n * sz - i * sz := Nat.sub_mul ..
 have hNM : (n + m) * sz = n * sz + m * sz := Nat.add_mul ..
 have hnsz : 0 < n * sz := Nat.mul_pos (by omega) h0
 have hbw : b < w.heap.size := block_lt_of_cell (hcs 0 _ (List.getElem?_eq_getElem (by omega)))
 have hvw : vb < w.heap.size := block_lt_of_cell (hvs 0 _ (List.getElem?_eq_getElem (by omega)))
 have hkk : (n : Int) + (m : Int) - (i : Int) = ((n + m - i : Nat) : Int) := by omega
 have hik : i + (n + m - i) = n + m := by omega
 have hold : (Builtin.firstCells i0.size i (.slice (some ⟨b, off, none⟩) i c)).run P w.drew = .ok (cs.take (i * sz)).toArray w.drew := by
  rw [hzs]
  exact run_firstCells_some w.drew sz i ⟨b, off, none⟩ i c (cs.take (i * sz)) (by rw [List.length_take]; omega) (fun j v hj => by
   rw [Addr.add_lit]
   rw [List.getElem?_take] at hj
   split at hj
   ·
    exact hcs j v hj
   ·
    cases hj)
 have hneed : n + m ≤ maxLen := by unfold maxLen; omega
 have hrz : ∀ ty, (Builtin.append_ #[(ρ.t 24), (ρ.t 3)] ty #[.slice (some ⟨b, off, none⟩) i c, .int .i64 ((n : Int) + (m : Int) - (i : Int))]).run P w =
   .ok (.slice (some ⟨w.heap.size, 0, none⟩) (n + m) (grownCap w (n + m) c (ρ.t 9))) (w.drew.alloc (.cells ((cs.take (i * sz)).toArray ++ Builtin.zeroCells z.cells (n + m - i) ++ Builtin.zeroCells z.cells (grownCap w (n + m) c (ρ.t 9) - (n + m))) (ρ.t 9))) := fun ty => by
  have hbb : (n + m - i) * i0.bytes ≤ (n + m) * i0.bytes := Nat.mul_le_mul_right _ (by omega)
  have h := Lib.run_append_grow_zeros w (ρ.t 24) (ρ.t 3) ty (ρ.t 9) i0 _ .i64 .i64 L.t24 L.t3 hi0 hz0 (some ⟨b, off, none⟩) i c (cs.take (i * sz)) hold (n + m - i) (by omega) (by omega) (by omega) (by omega) (by rw [hzb] at hbb ⊢; omega) (by rw [hzb, hik]; exact growslice_fits hroom hbig)
  rw [hik] at h
  rw [hkk]
  exact h
 obtain ⟨G, hG⟩ : ∃ G, G = grownCap w (n + m) c (ρ.t 9) := ⟨_, rfl⟩
 have hGn : n + m ≤ G := by rw [hG]; exact grownCap_ge w _ _ _
 have hG63 : G ≤ 9223372036854775807 := by
  have := grownCap_le_maxLen w (n + m) c (ρ.t 9) hneed
  rw [← hG] at this
  unfold maxLen at this
  omega
 obtain ⟨ROW, hROW⟩ : ∃ ROW : Array Value, ROW = (cs.take (i * sz)).toArray ++ Builtin.zeroCells z.cells (n + m - i) ++ Builtin.zeroCells z.cells (G - (n + m)) := ⟨_, rfl⟩
 rw [← hG] at hrz ⊢
 rw [← hROW] at hrz ⊢
 have hRl : n * sz + m * sz ≤ ROW.size := by
  have e1 : (n + m - i) * sz = n * sz + m * sz - i * sz := by rw [Nat.sub_mul, hNM]
  rw [hROW]
  simp only [Array.size_append, List.size_toArray, List.length_take, size_zeroCells, hzc]
  omega
 obtain ⟨W1, hW1⟩ : ∃ W1, W1 = w.drew.alloc (.cells ROW (ρ.t 9)) := ⟨_, rfl⟩
 rw [← hW1] at hrz
 have hN : ∀ j, j < n * sz + m * sz → (W1.cell? ⟨w.heap.size, j, none⟩).isSome = true := fun j hj => by
  rw [hW1, World.cell?_alloc_at (w := w.drew) ROW _ w.heap.size j rfl, Array.getElem?_eq_getElem (by omega)]; rfl
 have hNf : ∀ j, W1.frozen? ⟨w.heap.size, j, none⟩ = false := fun j => by rw [hW1]; exact World.frozen?_alloc_at (w := w.drew) ROW _ w.heap.size j rfl
 have hOb : ∀ j v, w.cell? ⟨b, j, none⟩ = some v → W1.cell? ⟨b, j, none⟩ = some v := fun j v h => by rw [hW1, World.cell?_alloc_past (w := w.drew) _ b j hbw]; exact h
 have hOv : ∀ j v, w.cell? ⟨vb, j, none⟩ = some v → W1.cell? ⟨vb, j, none⟩ = some v := fun j v h => by rw [hW1, World.cell?_alloc_past (w := w.drew) _ vb j hvw]; exact h
 have hcpA : ∀ (W : World), (∀ x, W.cell? x = W1.cell? x) → (∀ x, W.frozen? x = W1.frozen? x) → ∀ ty dc, (Builtin.copy_ #[(ρ.t 24), (ρ.t 24)] ty #[.slice (some ⟨w.heap.size, i * sz, none⟩) (n + m - i) dc, .slice (some ⟨vb, voff, none⟩) m vc]).run P W = .ok (goInt m) (W.setCells w.heap.size (i * sz) vs) := fun W hWc hWf ty dc => by
  have hmin : Nat.min m (n + m - i) = m := by simp only [Nat.min_def]; split <;> omega
  have := ZfB (P := P) W (ρ.t 24) (ρ.t 24) ty (ρ.t 9) w.heap.size (i * sz) (n + m - i) dc ⟨vb, voff, none⟩ m vc vs L.t24 hsz (by rw [hvl, hmin])
   (fun j v hj => by rw [Addr.add_lit, hWc]; exact hOv _ v (hvs j v hj))
   (fun j hj => by rw [hWc]; exact hN _ (by omega)) (fun j hj => by rw [hWf]; exact hNf _) h1v
  rwa [hmin] at this
 have hGi : ¬ (G = i) := by omega
 have hGim : ¬ (G = i + m) := by omega
 have hci : ¬ (c = i) := by omega
 have hbN : b ≠ w.heap.size := by omega
 have hdl : (cs.drop (i * sz)).length = n * sz - i * sz := by rw [List.length_drop, hcl]
 have hcpB : ∀ (W : World), (∀ x, W.cell? x = (W1.setCells w.heap.size (i * sz) vs).cell? x) → (∀ x, W.frozen? x = (W1.setCells w.heap.size (i * sz) vs).frozen? x) → ∀ ty dc sc, (Builtin.copy_ #[(ρ.t 24), (ρ.t 24)] ty #[.slice (some ⟨w.heap.size, i * sz + m * sz, none⟩) (n + m - (i + m)) dc, .slice (some ⟨b, off + i * sz, none⟩) (n - i) sc]).run P W = .ok (goInt ((n - i : Nat) : Int)) (W.setCells w.heap.size (i * sz + m * sz) (cs.drop (i * sz))) := fun W hWc hWf ty dc sc => by
  have hmin : Nat.min (n - i) (n + m - (i + m)) = n - i := by simp only [Nat.min_def]; split <;> omega
  have := ZfB (P := P) W (ρ.t 24) (ρ.t 24) ty (ρ.t 9) w.heap.size (i * sz + m * sz) (n + m - (i + m)) dc ⟨b, off + i * sz, none⟩ (n - i) sc (cs.drop (i * sz)) L.t24 hsz (by rw [hdl, hmin, hsub])
   (fun j v hj => by
    rw [Addr.add_lit, hWc, World.cell?_setCells_out _ _ _ _ _ (fun h _ => absurd h hbN), Nat.add_assoc]
    exact hOb _ v (hcs (i * sz + j) v (by rwa [List.getElem?_drop] at hj)))
   (fun j hj => by rw [hWc]; exact isSome_setCells _ _ _ _ (fun t ht => hN _ (by omega)) _ (hN _ (by omega)))
   (fun j hj => by rw [hWf, World.frozen?_setCells]; exact hNf _) (fun v hv => h1c v (List.mem_of_mem_drop hv))
  rwa [hmin] at this
 subst hW1
 have hE1 : ∀ x, ((w.alloc (.cells ROW (ρ.t 9))).drew).cell? x = (w.drew.alloc (.cells ROW (ρ.t 9))).cell? x := fun x => rfl
 have hE2 : ∀ x, ((w.alloc (.cells ROW (ρ.t 9))).drew).frozen? x = (w.drew.alloc (.cells ROW (ρ.t 9))).frozen? x := fun x => rfl
 have hF1 : ∀ x, (((w.alloc (.cells ROW (ρ.t 9))).drew.setCells w.heap.size (i * sz) vs).drew).cell? x = ((w.drew.alloc (.cells ROW (ρ.t 9))).setCells w.heap.size (i * sz) vs).cell? x := fun x => rfl
 have hF2 : ∀ x, (((w.alloc (.cells ROW (ρ.t 9))).drew.setCells w.heap.size (i * sz) vs).drew).frozen? x = ((w.drew.alloc (.cells ROW (ρ.t 9))).setCells w.heap.size (i * sz) vs).frozen? x := fun x => rfl
 have hw1 : IntKind.i64.wrap ((i : Int) + (m : Int)) = (i : Int) + (m : Int) := by rw [IntKind.wrap_i64]; omega
 have hb1 : (0 : Int) ≤ (i : Int) + (m : Int) := by omega
 have hin : i ≤ n := by omega
 have htn : ((i : Int) + (m : Int)).toNat = i + m := by omega
 have hb3 : (i : Int) ≤ (n : Int) := by omega
 clear hkk hik hold hROW hG hRl
 have FG := L.f22
 rw [← hAC] at hcpB ⊢
 go_enter FG, Body2.n22_ntmps ρ
 go_wp2_with (first
  | (at_builtin; refine Lib.wpList_append_run _ rfl _ _ _ _ rfl _ _ rfl rfl _ _ (hrz _) ?_)
  | (at_builtin; refine wpList_copy_runI _ rfl _ _ (ρ.t 24) (ρ.t 24) rfl _ _ rfl rfl (hcpA _ hE1 hE2 _ _) ?_)
  | (at_builtin; refine wpList_copy_runI _ rfl _ _ (ρ.t 24) (ρ.t 24) rfl _ _ rfl rfl (hcpB _ (fun _ => rfl) (fun _ => rfl) _ _ _) ?_))
 go_region_law_o (refine step_copy_runI rfl _ _ (ρ.t 24) (ρ.t 24) rfl (.slice (some ⟨w.heap.size, (i + m) * sz, none⟩) (n + m - (i + m)) (G - (i + m))) (.slice (some ⟨b, off + i * sz, none⟩) (n - i) (c - i)) (by simp [Act.eval, Act.put]) (by simp [Act.eval, Act.put]) (hcpB _ hF1 hF2 (ρ.t 3) (G - (i + m)) (c - i)) ?_)
 go_wp2
 go_ret
 exact ⟨rfl, by rw [hAC]⟩
theorem Zsq (L : InsLay P ρ nm sz bytes z) (base : Option Addr) (n c : Nat) (va : Addr) (m vc : Nat) (w w1 : World) (r : Value) (hm : 0 < m) (hnc : n ≤ c) (hbase : base = none → n = 0)
  (hrun : ∀ ty, (Builtin.append_ #[(ρ.t 24), (ρ.t 24)] ty #[.slice base n c, .slice (some va) m vc]).run P w = .ok r w1) :
  Calls P (ρ.f 22) #[.slice base n c, .int .i64 n, .slice (some va) m vc] w fun e w' => e = .returned r ∧ w' = w1 := by
 have t0 := L.t0; have a0 := L.a0; have z0 := L.z0; have v0 := L.v0; have t3 := L.t3; have a3 := L.a3; have z3 := L.z3; have v3 := L.v3; have t4 := L.t4; have a4 := L.a4; have z4 := L.z4; have v4 := L.v4; have z9 := L.z9; have t24 := L.t24; have a24 := L.a24; have z24 := L.z24; have v24 := L.v24
 have u0 := run_underlying L.t0; have u3 := run_underlying L.t3; have u4 := run_underlying L.t4; have u24 := run_underlying L.t24
 have mixed := L.mixed
 have hz1 : ¬ ((m : Int) = 0) := by omega
 have FG := L.f22
 go_enter FG, Body2.n22_ntmps ρ
 cases base with
 | none =>
  have h0 := hbase rfl
  subst h0
  go_wp2_with (at_builtin; refine Lib.wpList_append_run _ rfl _ _ _ _ rfl _ _ rfl rfl _ _ (hrun _) ?_)
  go_ret
  exact ⟨rfl, rfl⟩
 | some a =>
  obtain ⟨ab, ao, asp⟩ := a
  go_wp2_with (at_builtin; refine Lib.wpList_append_run _ rfl _ _ _ _ rfl _ _ rfl rfl _ _ (hrun _) ?_)
  all_goals (go_ret; exact ⟨rfl, rfl⟩)
end
end Go.Ev
