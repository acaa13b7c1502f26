/-
  Part 6 of the proof: rules and walks that the claim's last text uses.
-/
import Derived.Test.YtgpmlelfkjfbiaaGreatDoorSn5
set_option linter.unusedSimpArgs false
set_option linter.unusedVariables false
set_option maxRecDepth 100000
set_option maxHeartbeats 4000000
namespace Go.Proofs.YtgpmlelfkjfbiaaGreatDoor
open Go Go.RowKit Go.Ev
def ZcB (rec : Ty → Ty → ByteArray → (List (ByteArray × Int)) → Option ((List (ByteArray × Int)))) (n : Nat) (again_l15 : Int → (List (ByteArray × Int)) → Option ((List (ByteArray × Int)))) (x42_l15 : Int) (pla3_k20 : List (ByteArray × Int)) : Option ((List (ByteArray × Int))) :=
 if I64 (x42_l15 + 1) then
  again_l15 (x42_l15 + 1) pla3_k20
 else none
def Zcw (rec : Ty → Ty → ByteArray → (List (ByteArray × Int)) → Option ((List (ByteArray × Int)))) (n : Nat) (again_l58 : Int → (List (ByteArray × Int)) → Option ((List (ByteArray × Int)))) (x98_l58 : Int) (pla3_k63 : List (ByteArray × Int)) : Option ((List (ByteArray × Int))) :=
 if I64 (x98_l58 + 1) then
  again_l58 (x98_l58 + 1) pla3_k63
 else none
def Zcu (rec : Ty → Ty → ByteArray → (List (ByteArray × Int)) → Option ((List (ByteArray × Int)))) (n : Nat) (a0 : Ty) (a1 : Ty) (a2 : ByteArray) (pla3_k79 : List (ByteArray × Int)) : Option ((List (ByteArray × Int))) :=
 (idx a0.elem 0).bind fun x86 =>
 (idx a1.elem 0).bind fun x87 =>
 if a2.size + ((⟨#[91, 42, 93]⟩ : ByteArray)).size ≤ 9223372036854775807 then
  (rec x86 x87 (a2 ++ ((⟨#[91, 42, 93]⟩ : ByteArray))) pla3_k79).bind fun y89 =>
  some (y89)
 else none
def ZcA (rec : Ty → Ty → ByteArray → (List (ByteArray × Int)) → Option ((List (ByteArray × Int)))) (n : Nat) (again_l15 : Int → (List (ByteArray × Int)) → Option ((List (ByteArray × Int)))) (a1 : Ty) (a2 : ByteArray) (x42_l15 : Int) (x23 : Int × ByteArray × Int × Ty × List Vl) (y25 : ((Int × ByteArray × Int × Ty × List Vl) × Bool)) (pla3_k44 : List (ByteArray × Int)) : Option ((List (ByteArray × Int))) :=
 (Za7 x23.2.1 a1 a2).bind fun y52 =>
 (rec y25.1.2.2.2.1 x23.2.2.2.1 y52 pla3_k44).bind fun y53 =>
 ZcB rec n again_l15 x42_l15 y53
def Zbj (rec : Ty → Ty → ByteArray → (List (ByteArray × Int)) → Option ((List (ByteArray × Int)))) (n : Nat) (a0 : Ty) (a1 : Ty) (a2 : ByteArray) : Nat → Int → (List (ByteArray × Int)) → Option ((List (ByteArray × Int)))
 | 0, _, _ => none
 | m + 1, x98_l58, pla3_l58 =>
  if decide (x98_l58 < ((a0.fields.length : Int))) then
   (idx a0.fields x98_l58).bind fun x66 =>
   (ZbF n a1.fields x66.1).bind fun y68 =>
   if !y68.2 then
    (Za7 x66.2.1 a1 a2).bind fun y71 =>
    (ZaP y71 2 pla3_l58).bind fun y72 =>
    Zcw rec n (Zbj rec n a0 a1 a2 m) x98_l58 y72
   else
    Zcw rec n (Zbj rec n a0 a1 a2 m) x98_l58 pla3_l58
  else
   some (pla3_l58)
def Zcz (rec : Ty → Ty → ByteArray → (List (ByteArray × Int)) → Option ((List (ByteArray × Int)))) (n : Nat) (again_l15 : Int → (List (ByteArray × Int)) → Option ((List (ByteArray × Int)))) (a1 : Ty) (a2 : ByteArray) (x42_l15 : Int) (x23 : Int × ByteArray × Int × Ty × List Vl) (y25 : ((Int × ByteArray × Int × Ty × List Vl) × Bool)) (pla3_k35 : List (ByteArray × Int)) : Option ((List (ByteArray × Int))) :=
 if !(decide (y25.1.2.2.1 = x23.2.2.1)) then
  (Za7 x23.2.1 a1 a2).bind fun y48 =>
  (ZaP y48 4 pla3_k35).bind fun y49 =>
  ZcA rec n again_l15 a1 a2 x42_l15 x23 y25 y49
 else
  ZcA rec n again_l15 a1 a2 x42_l15 x23 y25 pla3_k35
def Zdu (rec : Ty → Ty → ByteArray → (List (ByteArray × Int)) → Option ((List (ByteArray × Int)))) (n : Nat) (a0 : Ty) (a1 : Ty) (a2 : ByteArray) (pla3_k12 : List (ByteArray × Int)) : Option ((List (ByteArray × Int))) :=
 Zbj rec n a0 a1 a2 n 0 pla3_k12
def ZaO (rec : Ty → Ty → ByteArray → (List (ByteArray × Int)) → Option ((List (ByteArray × Int)))) (n : Nat) (a0 : Ty) (a1 : Ty) (a2 : ByteArray) : Nat → Int → (List (ByteArray × Int)) → Option ((List (ByteArray × Int)))
 | 0, _, _ => none
 | m + 1, x42_l15, pla3_l15 =>
  if decide (x42_l15 < ((a1.fields.length : Int))) then
   (idx a1.fields x42_l15).bind fun x23 =>
   (ZbF n a0.fields x23.1).bind fun y25 =>
   if !y25.2 then
    (Za7 x23.2.1 a1 a2).bind fun y30 =>
    (ZaP y30 1 pla3_l15).bind fun y31 =>
    ZcB rec n (ZaO rec n a0 a1 a2 m) x42_l15 y31
   else
    if !(sEq y25.1.2.1 x23.2.1) then
     (Za7 x23.2.1 a1 a2).bind fun y39 =>
     (ZaP y39 3 pla3_l15).bind fun y40 =>
     Zcz rec n (ZaO rec n a0 a1 a2 m) a1 a2 x42_l15 x23 y25 y40
    else
     Zcz rec n (ZaO rec n a0 a1 a2 m) a1 a2 x42_l15 x23 y25 pla3_l15
  else
   Zdu rec n a0 a1 a2 pla3_l15
def Zej (rec : Ty → Ty → ByteArray → (List (ByteArray × Int)) → Option ((List (ByteArray × Int)))) (n : Nat) (a0 : Ty) (a1 : Ty) (a2 : ByteArray) (a3 : List (ByteArray × Int)) : Option ((List (ByteArray × Int))) :=
 if !(ZcV a0.kind a1.kind) then
  (ZaP a2 5 a3).bind fun y5 =>
  some (y5)
 else
  if (decide (a1.kind = 9)) || (decide (a1.kind = 10)) then
   ZaO rec n a0 a1 a2 n 0 a3
  else
   if decide (a1.kind = 8) then
    if (!(decide (a0.min = a1.min))) || (!(decide (a0.max = a1.max))) then
     (Zcx (Zbg a0 a1) a3 a2).bind fun y83 =>
     Zcu rec n a0 a1 a2 y83
    else
     Zcu rec n a0 a1 a2 a3
   else
    (ZhJ n a0 a1).bind fun y93 =>
    if !y93 then
     (Zb6 n a0 a1).bind fun y95 =>
     (Zcx y95 a3 a2).bind fun y96 =>
     some (y96)
    else
     some (a3)
def Zdg : Nat → Ty → Ty → ByteArray → (List (ByteArray × Int)) → Option ((List (ByteArray × Int)))
 | 0, _, _, _, _ => none
 | n + 1, a0, a1, a2, a3 => Zej (Zdg n) n a0 a1 a2 a3
def Zeq (w0 : World) (F : Ty → Ty → ByteArray → (List (ByteArray × Int)) → Option ((List (ByteArray × Int)))) : Prop := ∀ (B : List (List AV)) (Rw : List RowA) (L : List LoopA) (a0 : Ty) (a1 : Ty) (a2 : ByteArray) (la3 : Nat) (a3 : List (ByteArray × Int)) (oa3 : Ev.Own) (hla3 : B[la3]? = some [.list (a3.map Ziv) oa3]) (hGa3 : Owns Rw Rw [(2, a3.length, oa3)] oa3) (r : (List (ByteArray × Int))), F a0 a1 a2 a3 = some r → ACalls Tryz.prog w0 95 [.agg (a0.cs), .agg (a1.cs), .val (.string a2), .clo 96 [.box la3 0]] ⟨B, Rw, L⟩ fun x st => x = .tup [] ∧ ∃ (R1 : List RowA) (o1 : Ev.Own), st = ⟨(B.set la3 [.list (r.map Ziv) o1]), R1, L⟩ ∧ Owns Rw R1 [(2, r.length, o1)] oa3
theorem Zhj (w0 : World) (rec : Ty → Ty → ByteArray → (List (ByteArray × Int)) → Option ((List (ByteArray × Int)))) (ih : Zeq w0 rec) (n : Nat) : Zeq w0 (Zej rec n) := by
 intro B Rw L a0 a1 a2 la3 a3 oa3 hla3 hGa3 r h
 rw [Zej] at h
 refine ACalls.finG (Zb4 (rs := []) Tryz.func95 rfl rfl Tryz.ntmps95 (Zax Tryz.func95 rfl (by decide)) (Nat.le_of_ble_eq_true rfl) ?_)
 intro M0 W0 hN hNR hNL hcalm hu
 dsimp only at hN hNR hNL hcalm hu
 simp only [Zal]
 have hO := hGa3
 have hs := ZqH
 have hltla3 := (List.getElem?_eq_some_iff.1 hla3).1
 have hs := And.intro (Zag hla3) hs
 refine rg [4, 5, 6, 7] hs ?_
 refine rg [4, 5, 6, 7, 8] hs ?_
 apply Zaf
 refine rc 2 [4, 5, 6, 7, 8, 19] hs ?_; intro K3 hK3
 refine Zad _ (ZeP w0 _ _ _ a0.kind a1.kind) (hv hs) ?_
 refine ne hs hK3 ?_
 clear hK3
 refine cnd h hs (fun hs h => ?_) (fun hs h => ?_)
 ·
  have hb4 := hs.1
  obtain ⟨y5, hy5, h⟩ := bind_some h
  apply Zab 2 []
  rw [Zaa]; simp +decide only [go_sem, Nat.reduceAdd, Zag hla3, hb4]
  (repeat' apply And.intro) <;> first | (refine ZaR _ (ZaZ w0 _ _ _ a2 5 la3 a3 oa3 (ef hs) hO.enter _ hy5) (hv hs) ?_; rintro _ _ ⟨rfl, Rg6, og7, rfl, hGRg6⟩) | exact cl
  have hO := hO.call hGRg6
  rw [Zaa]; simp +decide only [go_sem, Nat.reduceAdd, Zag hla3, hb4]
  (repeat' with_reducible apply And.intro) <;> first | exact cl | skip
  have hgt := Option.some.inj h; subst hgt
  have hU := hO.unders
  simp only [List.mem_cons, List.not_mem_nil, or_false, forall_eq_or_imp, forall_eq] at hU
  refine ZjW hO (Zah (Zc6 hcalm hO.len) (by (simp +decide only [go_sem, Nat.reduceAdd]) <;> (try (repeat' apply And.intro)) <;> first | omega | assumption)) (by simp only [List.length_set]) ev ⟨?_, _, _, ?_, (hO.sub (List.sublist_append_left [_] _)).len1 (by first | rfl | simp only [List.length_append, List.length_cons, List.length_nil, Nat.zero_add])⟩
  all_goals first | rfl | (simp +decide only [go_sem, Nat.reduceAdd, Zag hla3, hb4]; done) | (simp +decide only [go_sem, Nat.reduceAdd, Vl.cs, Ty.cs, Zag hla3, hb4]; done)
 have hb4 := hs.1
 refine rg [4, 5, 6, 7, 8, 29] hs ?_
 refine cnd h hs (fun hs h => ?_) (fun hs h => ?_)
 ·
  have hb9 := hs.1
  refine rg [4, 5, 7, 9] hs ?_
  refine Zak (fun e st => ∃ (pla3_k12 : List (ByteArray × Int)) (opla3_k12 : Ev.Own) (Xk12 : List (List AV)) (Rk12 : List RowA), e = [(4, true, .box B.length 0), (5, true, .box (B.length + 1) 0), (7, true, .box (B.length + 3) 0), (9, true, .clo 162 [.box (B.length + 1) 0, .box (B.length + 2) 0])] ∧ st = ⟨(B.set la3 ([.list (pla3_k12.map Ziv) opla3_k12])) ++ ([a0.cs, a1.cs, [.val (.string a2)], [.clo 96 [.box la3 0]]] ++ Xk12), Rk12, L⟩ ∧ Owns Rw Rk12 [(2, pla3_k12.length, opla3_k12)] oa3 ∧ Zdu rec n a0 a1 a2 pla3_k12 = some r) ?_ ?_
  ·
   intro K13 hK13
   refine rg [4, 5, 7, 9, 40, 41, 42] hs ?_
   apply Zaf
   refine Zap (fun m e st => ∃ (x42_l15 : Int) (pla3_l15 : List (ByteArray × Int)) (opla3_l15 : Ev.Own) (Xl15 : List (List AV)) (Rl15 : List RowA), e = [(4, true, .box B.length 0), (5, true, .box (B.length + 1) 0), (7, true, .box (B.length + 3) 0), (9, true, .clo 162 [.box (B.length + 1) 0, .box (B.length + 2) 0]), (40, true, .list (a1.fields.map Zdz) .none), (41, true, .val (.int .i64 ((a1.fields.length : Int)))), (42, true, .val (.int .i64 x42_l15))] ∧ st = ⟨(B.set la3 ([.list (pla3_l15.map Ziv) opla3_l15])) ++ ([a0.cs, a1.cs, [.val (.string a2)], [.clo 96 [.box la3 0]]] ++ Xl15), Rl15, L⟩ ∧ Owns Rw Rl15 [(2, pla3_l15.length, opla3_l15)] oa3 ∧ ZaO rec n a0 a1 a2 m x42_l15 pla3_l15 = some r) n ⟨0, a3, oa3, ([]), Rw, ef hs, ef hs, Owns.of_eq (hO) (by first | rfl | simp only [List.length_append, List.length_cons, List.length_nil, List.length_map, Nat.zero_add, Nat.add_zero]), h⟩ ?_
   rintro ml15 e st ⟨x42_l15, pla3_l15, opla3_l15, Xl15, Rl15, rfl, rfl, hO, h⟩ Ul15 Vl15
   cases ml15 with
   | zero => cases h
   | succ ml15 =>
   rw [ZaO] at h
   have hU := hO.unders
   simp only [List.mem_cons, List.not_mem_nil, or_false, forall_eq_or_imp, forall_eq] at hU
   refine Zeb hN hNR hNL (by simp only [List.length_set]) (Zah (Zc6 hcalm hO.len) (by (simp +decide only [go_sem, Nat.reduceAdd]) <;> (try (repeat' apply And.intro)) <;> first | omega | assumption)) hO (by (simp +decide only [go_sem, Nat.reduceAdd]) <;> (try (repeat' apply And.intro)) <;> first | omega | assumption) (by (simp +decide only [go_sem, Nat.reduceAdd, Za2]) <;> (try (repeat' apply And.intro)) <;> first | omega | assumption) ?_
   refine rg [4, 5, 7, 9, 40, 41, 42, 43] hs ?_
   apply Zac; intro K17 hK17
   refine cnd h hs (fun hs h => ?_) (fun hs h => ?_)
   rotate_left
   ·
    have hb18 := hs.1
    refine sx [4, 5, 7, 9] hs hK13 ?_
    exact ⟨pla3_l15, opla3_l15, ([]), Rl15, ef hs, ef hs, Owns.of_eq (hO) (by first | rfl | simp only [List.length_append, List.length_cons, List.length_nil, List.length_map, Nat.zero_add, Nat.add_zero]), h⟩
   have hb18 := hs.1
   refine sk [4, 5, 7, 9, 40, 41, 42] hs hK17 ?_
   clear hK17
   refine Zak (fun e st => ∃ (pla3_k20 : List (ByteArray × Int)) (opla3_k20 : Ev.Own) (Xk20 : List (List AV)) (Rk20 : List RowA), e = [(4, true, .box B.length 0), (5, true, .box (B.length + 1) 0), (7, true, .box (B.length + 3) 0), (9, true, .clo 162 [.box (B.length + 1) 0, .box (B.length + 2) 0]), (40, true, .list (a1.fields.map Zdz) .none), (41, true, .val (.int .i64 ((a1.fields.length : Int)))), (42, true, .val (.int .i64 x42_l15))] ∧ st = ⟨(B.set la3 ([.list (pla3_k20.map Ziv) opla3_k20])) ++ ([a0.cs, a1.cs, [.val (.string a2)], [.clo 96 [.box la3 0]]] ++ Xk20), Rk20, L⟩ ∧ Owns Rw Rk20 [(2, pla3_k20.length, opla3_k20)] oa3 ∧ ZcB rec n (ZaO rec n a0 a1 a2 ml15) x42_l15 pla3_k20 = some r) ?_ ?_
   ·
    intro K21 hK21
    apply Zaf
    obtain ⟨x23, hx23, h⟩ := bind_some h
    obtain ⟨hx23a, hx23b, hx23c⟩ := Zam hx23
    have hx23d := Zao (f := Zdz) hx23c
    have hs := And.intro hx23d hs
    refine rg [4, 5, 7, 9, 11, 40, 41, 42] hs ?_
    obtain ⟨y25, hy25, h⟩ := bind_some h
    refine rc 2 [4, 5, 7, 9, 11, 12, 13, 40, 41, 42] hs ?_; intro K24 hK24
    refine Zad _ (Zco w0 n _ _ _ a0.fields x23.1 _ hy25) (hv hs) ?_
    refine ne hs hK24 ?_
    clear hK24
    apply Zac; intro K26 hK26
    refine rg [4, 5, 7, 9, 11, 12, 40, 41, 42, 55] hs ?_
    refine cnd h hs (fun hs h => ?_) (fun hs h => ?_)
    ·
     have hb28 := hs.1
     apply Zac; intro K29 hK29
     obtain ⟨y30, hy30, h⟩ := bind_some h
     obtain ⟨y31, hy31, h⟩ := bind_some h
     apply ZgP mix [5] [4, 5, 7, 9, 40, 41, 42] (by kernel_rfl) (fun s => ∃ (X : List (List AV)) (rows : List RowA) (cla3 : List AV), s = ⟨(B.set la3 cla3) ++ ([a0.cs, a1.cs, [.val (.string a2)], [.clo 96 [.box la3 0]], .val (.int .i64 x23.1) :: (.val (.string x23.2.1) :: (.val (.int .i64 x23.2.2.1) :: ((x23.2.2.2.1.cs) ++ ([.list (x23.2.2.2.2.map avV) .none])))), .val (.int .i64 y25.1.1) :: (.val (.string y25.1.2.1) :: (.val (.int .i64 y25.1.2.2.1) :: ((y25.1.2.2.2.1.cs) ++ ([.list (y25.1.2.2.2.2.map avV) .none]))))] ++ X), rows, L⟩) 2 (B.length + 6)
     ·
      simp +decide only [go_sem, Nat.reduceAdd]
     ·
      rintro s ⟨X, rows, cla3, rfl⟩
      refine ⟨2, ?_⟩
      rw [Zaa]; simp +decide only [go_sem, Nat.reduceAdd, Zdr, Zag hla3, hb4, hb9, hb18, hx23d, hb28]
      (repeat' apply And.intro) <;> first | refine Zad _ (Zby w0 _ _ _ x23.2.1 (B.length + 1) a1 (ef hs) (B.length + 2) a2 (ef hs) _ hy30) (hv hs) ?_ | exact cl
      rw [Zaa]; simp +decide only [go_sem, Nat.reduceAdd, Zag hla3, hb4, hb9, hb18, hx23d, hb28]
      (repeat' apply And.intro) <;> first | rfl | exact cl
     ·
      refine Good.mk [5] (by kernel_rfl) ⟨[], _, _, by first | rfl | simp only [List.append_nil, List.nil_append]⟩ ?_ ?_
      ·
       intro h; exact absurd h (by decide)
      ·
       intro i hi; simp only [List.mem_cons, List.not_mem_nil, or_false] at hi
       subst hi
       ·
        apply ZeI rfl rfl ev rfl
        ·
         simp +decide only [go_sem, Nat.reduceAdd, Zag hla3, hb4, hb9, hb18, hx23d, hb28]
        ·
         simp +decide only [go_sem, Nat.reduceAdd, Zag hla3, hb4, hb9, hb18, hx23d, hb28]
        ·
         simp +decide only [go_sem, Nat.reduceAdd, Zag hla3, hb4, hb9, hb18, hx23d, hb28]
         exact (ZaZ w0 _ _ _ y30 1 la3 pla3_l15 opla3_l15 (ef hs) hO.enter _ hy31).pub (hv hs)
        ·
         rintro _ _ ⟨rfl, Rg32, og33, rfl, hGRg32⟩
         have hO := hO.call hGRg32
         simp +decide only [go_sem, Nat.reduceAdd, Zag hla3, hb4, hb9, hb18, hx23d, hb28]
         refine Good.mk [] (by kernel_rfl) ⟨[], _, _, by first | rfl | simp only [List.append_nil, List.nil_append]⟩ ?_ ?_
         ·
          intro _; refine ⟨_, _, Zbw [4, 5, 7, 9, 40, 41, 42] (by first | (simp +decide only [go_sem, Nat.reduceAdd, Zag hla3, hb4, hb9, hb18, hx23d, hb28]; done) | (simp +decide only [go_sem, Nat.reduceAdd, Zag hla3, hb4, hb9, hb18, hx23d, hb28]; rfl)), ?_⟩
          try simp +decide only [go_sem, Nat.reduceAdd, Zag hla3, hb4, hb9, hb18, hx23d, hb28]
          (repeat' apply And.intro) <;> first | refine hK29 _ _ ?_ | exact cl
          clear hK29
          refine sx [4, 5, 7, 9, 40, 41, 42] hs hK21 ?_
          exact ⟨y31, og33, ([.val (.int .i64 x23.1) :: (.val (.string x23.2.1) :: (.val (.int .i64 x23.2.2.1) :: ((x23.2.2.2.1.cs) ++ ([.list (x23.2.2.2.2.map avV) .none])))), .val (.int .i64 y25.1.1) :: (.val (.string y25.1.2.1) :: (.val (.int .i64 y25.1.2.2.1) :: ((y25.1.2.2.2.1.cs) ++ ([.list (y25.1.2.2.2.2.map avV) .none]))))]), Rg32, ef hs, ef hs, Owns.of_eq (hO) (by first | rfl | simp only [List.length_append, List.length_cons, List.length_nil, List.length_map, Nat.zero_add, Nat.add_zero]), h⟩
         ·
          intro i hi; cases hi
    have hb28 := hs.1
    refine sk [4, 5, 7, 9, 11, 12, 40, 41, 42] hs hK26 ?_
    clear hK26
    refine Zak (fun e st => ∃ (pla3_k35 : List (ByteArray × Int)) (opla3_k35 : Ev.Own) (Xk35 : List (List AV)) (Rk35 : List RowA), e = [(4, true, .box B.length 0), (5, true, .box (B.length + 1) 0), (7, true, .box (B.length + 3) 0), (9, true, .clo 162 [.box (B.length + 1) 0, .box (B.length + 2) 0]), (11, true, .box (B.length + 4) 0), (12, true, .box (B.length + 5) 0), (40, true, .list (a1.fields.map Zdz) .none), (41, true, .val (.int .i64 ((a1.fields.length : Int)))), (42, true, .val (.int .i64 x42_l15))] ∧ st = ⟨(B.set la3 ([.list (pla3_k35.map Ziv) opla3_k35])) ++ ([a0.cs, a1.cs, [.val (.string a2)], [.clo 96 [.box la3 0]], .val (.int .i64 x23.1) :: (.val (.string x23.2.1) :: (.val (.int .i64 x23.2.2.1) :: ((x23.2.2.2.1.cs) ++ ([.list (x23.2.2.2.2.map avV) .none])))), .val (.int .i64 y25.1.1) :: (.val (.string y25.1.2.1) :: (.val (.int .i64 y25.1.2.2.1) :: ((y25.1.2.2.2.1.cs) ++ ([.list (y25.1.2.2.2.2.map avV) .none]))))] ++ Xk35), Rk35, L⟩ ∧ Owns Rw Rk35 [(2, pla3_k35.length, opla3_k35)] oa3 ∧ Zcz rec n (ZaO rec n a0 a1 a2 ml15) a1 a2 x42_l15 x23 y25 pla3_k35 = some r) ?_ ?_
    ·
     intro K36 hK36
     refine rg [4, 5, 7, 9, 11, 12, 40, 41, 42, 66] hs ?_
     refine cnd h hs (fun hs h => ?_) (fun hs h => ?_)
     ·
      have hb38 := hs.1
      obtain ⟨y39, hy39, h⟩ := bind_some h
      obtain ⟨y40, hy40, h⟩ := bind_some h
      apply ZgP mix [5] [4, 5, 7, 9, 11, 12, 40, 41, 42] (by kernel_rfl) (fun s => ∃ (X : List (List AV)) (rows : List RowA) (cla3 : List AV), s = ⟨(B.set la3 cla3) ++ ([a0.cs, a1.cs, [.val (.string a2)], [.clo 96 [.box la3 0]], .val (.int .i64 x23.1) :: (.val (.string x23.2.1) :: (.val (.int .i64 x23.2.2.1) :: ((x23.2.2.2.1.cs) ++ ([.list (x23.2.2.2.2.map avV) .none])))), .val (.int .i64 y25.1.1) :: (.val (.string y25.1.2.1) :: (.val (.int .i64 y25.1.2.2.1) :: ((y25.1.2.2.2.1.cs) ++ ([.list (y25.1.2.2.2.2.map avV) .none]))))] ++ X), rows, L⟩) 2 (B.length + 6)
      ·
       simp +decide only [go_sem, Nat.reduceAdd]
      ·
       rintro s ⟨X, rows, cla3, rfl⟩
       refine ⟨2, ?_⟩
       rw [Zaa]; simp +decide only [go_sem, Nat.reduceAdd, Zdr, Zag hla3, hb4, hb9, hb18, hx23d, hb28, hb38]
       (repeat' apply And.intro) <;> first | refine Zad _ (Zby w0 _ _ _ x23.2.1 (B.length + 1) a1 (ef hs) (B.length + 2) a2 (ef hs) _ hy39) (hv hs) ?_ | exact cl
       rw [Zaa]; simp +decide only [go_sem, Nat.reduceAdd, Zag hla3, hb4, hb9, hb18, hx23d, hb28, hb38]
       (repeat' apply And.intro) <;> first | rfl | exact cl
      ·
       refine Good.mk [5] (by kernel_rfl) ⟨[], _, _, by first | rfl | simp only [List.append_nil, List.nil_append]⟩ ?_ ?_
       ·
        intro h; exact absurd h (by decide)
       ·
        intro i hi; simp only [List.mem_cons, List.not_mem_nil, or_false] at hi
        subst hi
        ·
         apply ZeI rfl rfl ev rfl
         ·
          simp +decide only [go_sem, Nat.reduceAdd, Zag hla3, hb4, hb9, hb18, hx23d, hb28, hb38]
         ·
          simp +decide only [go_sem, Nat.reduceAdd, Zag hla3, hb4, hb9, hb18, hx23d, hb28, hb38]
         ·
          simp +decide only [go_sem, Nat.reduceAdd, Zag hla3, hb4, hb9, hb18, hx23d, hb28, hb38]
          exact (ZaZ w0 _ _ _ y39 3 la3 pla3_l15 opla3_l15 (ef hs) hO.enter _ hy40).pub (hv hs)
         ·
          rintro _ _ ⟨rfl, Rg41, og42, rfl, hGRg41⟩
          have hO := hO.call hGRg41
          simp +decide only [go_sem, Nat.reduceAdd, Zag hla3, hb4, hb9, hb18, hx23d, hb28, hb38]
          refine Good.mk [] (by kernel_rfl) ⟨[], _, _, by first | rfl | simp only [List.append_nil, List.nil_append]⟩ ?_ ?_
          ·
           intro _; refine ⟨_, _, Zbw [4, 5, 7, 9, 11, 12, 40, 41, 42] (by first | (simp +decide only [go_sem, Nat.reduceAdd, Zag hla3, hb4, hb9, hb18, hx23d, hb28, hb38]; done) | (simp +decide only [go_sem, Nat.reduceAdd, Zag hla3, hb4, hb9, hb18, hx23d, hb28, hb38]; rfl)), ?_⟩
           try simp +decide only [go_sem, Nat.reduceAdd, Zag hla3, hb4, hb9, hb18, hx23d, hb28, hb38]
           (repeat' apply And.intro) <;> first | refine hK36 _ _ ⟨y40, og42, ([]), Rg41, ef hs, ef hs, Owns.of_eq (hO) (by first | rfl | simp only [List.length_append, List.length_cons, List.length_nil, List.length_map, Nat.zero_add, Nat.add_zero]), h⟩ | exact cl
          ·
           intro i hi; cases hi
     have hb38 := hs.1
     refine sk [4, 5, 7, 9, 11, 12, 40, 41, 42] hs hK36 ?_
     exact ⟨pla3_l15, opla3_l15, ([]), Rl15, ef hs, ef hs, Owns.of_eq (hO) (by first | rfl | simp only [List.length_append, List.length_cons, List.length_nil, List.length_map, Nat.zero_add, Nat.add_zero]), h⟩
    ·
     clear h; rintro e st ⟨pla3_k35, opla3_k35, Xk35, Rk35, rfl, rfl, hO, h⟩
     rw [Zcz] at h
     have hU := hO.unders
     simp only [List.mem_cons, List.not_mem_nil, or_false, forall_eq_or_imp, forall_eq] at hU
     refine Zeb hN hNR hNL (by simp only [List.length_set]) (Zah (Zc6 hcalm hO.len) (by (simp +decide only [go_sem, Nat.reduceAdd]) <;> (try (repeat' apply And.intro)) <;> first | omega | assumption)) hO (by (simp +decide only [go_sem, Nat.reduceAdd]) <;> (try (repeat' apply And.intro)) <;> first | omega | assumption) (by (simp +decide only [go_sem, Nat.reduceAdd, Za2]) <;> (try (repeat' apply And.intro)) <;> first | omega | assumption) ?_
     refine Zak (fun e st => ∃ (pla3_k44 : List (ByteArray × Int)) (opla3_k44 : Ev.Own) (Xk44 : List (List AV)) (Rk44 : List RowA), e = [(4, true, .box B.length 0), (5, true, .box (B.length + 1) 0), (7, true, .box (B.length + 3) 0), (9, true, .clo 162 [.box (B.length + 1) 0, .box (B.length + 2) 0]), (11, true, .box (B.length + 4) 0), (12, true, .box (B.length + 5) 0), (40, true, .list (a1.fields.map Zdz) .none), (41, true, .val (.int .i64 ((a1.fields.length : Int)))), (42, true, .val (.int .i64 x42_l15))] ∧ st = ⟨(B.set la3 ([.list (pla3_k44.map Ziv) opla3_k44])) ++ ([a0.cs, a1.cs, [.val (.string a2)], [.clo 96 [.box la3 0]], .val (.int .i64 x23.1) :: (.val (.string x23.2.1) :: (.val (.int .i64 x23.2.2.1) :: ((x23.2.2.2.1.cs) ++ ([.list (x23.2.2.2.2.map avV) .none])))), .val (.int .i64 y25.1.1) :: (.val (.string y25.1.2.1) :: (.val (.int .i64 y25.1.2.2.1) :: ((y25.1.2.2.2.1.cs) ++ ([.list (y25.1.2.2.2.2.map avV) .none]))))] ++ Xk44), Rk44, L⟩ ∧ Owns Rw Rk44 [(2, pla3_k44.length, opla3_k44)] oa3 ∧ ZcA rec n (ZaO rec n a0 a1 a2 ml15) a1 a2 x42_l15 x23 y25 pla3_k44 = some r) ?_ ?_
     ·
      intro K45 hK45
      refine rg [4, 5, 7, 9, 11, 12, 40, 41, 42, 77] hs ?_
      refine cnd h hs (fun hs h => ?_) (fun hs h => ?_)
      ·
       have hb47 := hs.1
       obtain ⟨y48, hy48, h⟩ := bind_some h
       obtain ⟨y49, hy49, h⟩ := bind_some h
       apply ZgP mix [5] [4, 5, 7, 9, 11, 12, 40, 41, 42] (by kernel_rfl) (fun s => ∃ (X : List (List AV)) (rows : List RowA) (cla3 : List AV), s = ⟨(B.set la3 cla3) ++ ([a0.cs, a1.cs, [.val (.string a2)], [.clo 96 [.box la3 0]], .val (.int .i64 x23.1) :: (.val (.string x23.2.1) :: (.val (.int .i64 x23.2.2.1) :: ((x23.2.2.2.1.cs) ++ ([.list (x23.2.2.2.2.map avV) .none])))), .val (.int .i64 y25.1.1) :: (.val (.string y25.1.2.1) :: (.val (.int .i64 y25.1.2.2.1) :: ((y25.1.2.2.2.1.cs) ++ ([.list (y25.1.2.2.2.2.map avV) .none]))))] ++ X), rows, L⟩) 2 (B.length + 6)
       ·
        simp +decide only [go_sem, Nat.reduceAdd]
       ·
        rintro s ⟨X, rows, cla3, rfl⟩
        refine ⟨2, ?_⟩
        rw [Zaa]; simp +decide only [go_sem, Nat.reduceAdd, Zdr, Zag hla3, hb4, hb9, hb18, hx23d, hb28, hb47]
        (repeat' apply And.intro) <;> first | refine Zad _ (Zby w0 _ _ _ x23.2.1 (B.length + 1) a1 (ef hs) (B.length + 2) a2 (ef hs) _ hy48) (hv hs) ?_ | exact cl
        rw [Zaa]; simp +decide only [go_sem, Nat.reduceAdd, Zag hla3, hb4, hb9, hb18, hx23d, hb28, hb47]
        (repeat' apply And.intro) <;> first | rfl | exact cl
       ·
        refine Good.mk [5] (by kernel_rfl) ⟨[], _, _, by first | rfl | simp only [List.append_nil, List.nil_append]⟩ ?_ ?_
        ·
         intro h; exact absurd h (by decide)
        ·
         intro i hi; simp only [List.mem_cons, List.not_mem_nil, or_false] at hi
         subst hi
         ·
          apply ZeI rfl rfl ev rfl
          ·
           simp +decide only [go_sem, Nat.reduceAdd, Zag hla3, hb4, hb9, hb18, hx23d, hb28, hb47]
          ·
           simp +decide only [go_sem, Nat.reduceAdd, Zag hla3, hb4, hb9, hb18, hx23d, hb28, hb47]
          ·
           simp +decide only [go_sem, Nat.reduceAdd, Zag hla3, hb4, hb9, hb18, hx23d, hb28, hb47]
           exact (ZaZ w0 _ _ _ y48 4 la3 pla3_k35 opla3_k35 (ef hs) hO.enter _ hy49).pub (hv hs)
          ·
           rintro _ _ ⟨rfl, Rg50, og51, rfl, hGRg50⟩
           have hO := hO.call hGRg50
           simp +decide only [go_sem, Nat.reduceAdd, Zag hla3, hb4, hb9, hb18, hx23d, hb28, hb47]
           refine Good.mk [] (by kernel_rfl) ⟨[], _, _, by first | rfl | simp only [List.append_nil, List.nil_append]⟩ ?_ ?_
           ·
            intro _; refine ⟨_, _, Zbw [4, 5, 7, 9, 11, 12, 40, 41, 42] (by first | (simp +decide only [go_sem, Nat.reduceAdd, Zag hla3, hb4, hb9, hb18, hx23d, hb28, hb47]; done) | (simp +decide only [go_sem, Nat.reduceAdd, Zag hla3, hb4, hb9, hb18, hx23d, hb28, hb47]; rfl)), ?_⟩
            try simp +decide only [go_sem, Nat.reduceAdd, Zag hla3, hb4, hb9, hb18, hx23d, hb28, hb47]
            (repeat' apply And.intro) <;> first | refine hK45 _ _ ⟨y49, og51, ([]), Rg50, ef hs, ef hs, Owns.of_eq (hO) (by first | rfl | simp only [List.length_append, List.length_cons, List.length_nil, List.length_map, Nat.zero_add, Nat.add_zero]), h⟩ | exact cl
           ·
            intro i hi; cases hi
      have hb47 := hs.1
      refine sk [4, 5, 7, 9, 11, 12, 40, 41, 42] hs hK45 ?_
      exact ⟨pla3_k35, opla3_k35, ([]), Rk35, ef hs, ef hs, Owns.of_eq (hO) (by first | rfl | simp only [List.length_append, List.length_cons, List.length_nil, List.length_map, Nat.zero_add, Nat.add_zero]), h⟩
     ·
      clear h; rintro e st ⟨pla3_k44, opla3_k44, Xk44, Rk44, rfl, rfl, hO, h⟩
      rw [ZcA] at h
      have hU := hO.unders
      simp only [List.mem_cons, List.not_mem_nil, or_false, forall_eq_or_imp, forall_eq] at hU
      refine Zeb hN hNR hNL (by simp only [List.length_set]) (Zah (Zc6 hcalm hO.len) (by (simp +decide only [go_sem, Nat.reduceAdd]) <;> (try (repeat' apply And.intro)) <;> first | omega | assumption)) hO (by (simp +decide only [go_sem, Nat.reduceAdd]) <;> (try (repeat' apply And.intro)) <;> first | omega | assumption) (by (simp +decide only [go_sem, Nat.reduceAdd, Za2]) <;> (try (repeat' apply And.intro)) <;> first | omega | assumption) ?_
      obtain ⟨y52, hy52, h⟩ := bind_some h
      obtain ⟨y53, hy53, h⟩ := bind_some h
      apply ZgP mix [9] [4, 5, 7, 9, 40, 41, 42] (by kernel_rfl) (fun s => ∃ (X : List (List AV)) (rows : List RowA) (cla3 : List AV), s = ⟨(B.set la3 cla3) ++ ([a0.cs, a1.cs, [.val (.string a2)], [.clo 96 [.box la3 0]], .val (.int .i64 x23.1) :: (.val (.string x23.2.1) :: (.val (.int .i64 x23.2.2.1) :: ((x23.2.2.2.1.cs) ++ ([.list (x23.2.2.2.2.map avV) .none])))), .val (.int .i64 y25.1.1) :: (.val (.string y25.1.2.1) :: (.val (.int .i64 y25.1.2.2.1) :: ((y25.1.2.2.2.1.cs) ++ ([.list (y25.1.2.2.2.2.map avV) .none]))))] ++ X), rows, L⟩) 2 (B.length + 6)
      ·
       simp +decide only [go_sem, Nat.reduceAdd]
      ·
       rintro s ⟨X, rows, cla3, rfl⟩
       refine ⟨2, ?_⟩
       rw [Zaa]; simp +decide only [go_sem, Nat.reduceAdd, Zdr, Zag hla3, hb4, hb9, hb18, hx23d, hb28]
       (repeat' apply And.intro) <;> first | refine Zad _ (Zby w0 _ _ _ x23.2.1 (B.length + 1) a1 (ef hs) (B.length + 2) a2 (ef hs) _ hy52) (hv hs) ?_ | exact cl
       rw [Zaa]; simp +decide only [go_sem, Nat.reduceAdd, Zag hla3, hb4, hb9, hb18, hx23d, hb28]
       (repeat' apply And.intro) <;> first | rfl | exact cl
      ·
       refine Good.mk [9] (by kernel_rfl) ⟨[], _, _, by first | rfl | simp only [List.append_nil, List.nil_append]⟩ ?_ ?_
       ·
        intro h; exact absurd h (by decide)
       ·
        intro i hi; simp only [List.mem_cons, List.not_mem_nil, or_false] at hi
        subst hi
        ·
         apply ZeI rfl rfl ev rfl
         ·
          simp +decide only [go_sem, Nat.reduceAdd, Zag hla3, hb4, hb9, hb18, hx23d, hb28]
         ·
          simp +decide only [go_sem, Nat.reduceAdd, Zag hla3, hb4, hb9, hb18, hx23d, hb28]
         ·
          simp +decide only [go_sem, Nat.reduceAdd, Zag hla3, hb4, hb9, hb18, hx23d, hb28]
          exact (ih _ _ _ y25.1.2.2.2.1 x23.2.2.2.1 y52 la3 pla3_k44 opla3_k44 (ef hs) hO.enter _ hy53).pub (hv hs)
         ·
          rintro _ _ ⟨rfl, Rg54, og55, rfl, hGRg54⟩
          have hO := hO.call hGRg54
          simp +decide only [go_sem, Nat.reduceAdd, Zag hla3, hb4, hb9, hb18, hx23d, hb28]
          refine Good.mk [] (by kernel_rfl) ⟨[], _, _, by first | rfl | simp only [List.append_nil, List.nil_append]⟩ ?_ ?_
          ·
           intro _; refine ⟨_, _, Zbw [4, 5, 7, 9, 40, 41, 42] (by first | (simp +decide only [go_sem, Nat.reduceAdd, Zag hla3, hb4, hb9, hb18, hx23d, hb28]; done) | (simp +decide only [go_sem, Nat.reduceAdd, Zag hla3, hb4, hb9, hb18, hx23d, hb28]; rfl)), ?_⟩
           try simp +decide only [go_sem, Nat.reduceAdd, Zag hla3, hb4, hb9, hb18, hx23d, hb28]
           (repeat' apply And.intro) <;> first | refine hK21 _ _ ⟨y53, og55, ([.val (.int .i64 x23.1) :: (.val (.string x23.2.1) :: (.val (.int .i64 x23.2.2.1) :: ((x23.2.2.2.1.cs) ++ ([.list (x23.2.2.2.2.map avV) .none])))), .val (.int .i64 y25.1.1) :: (.val (.string y25.1.2.1) :: (.val (.int .i64 y25.1.2.2.1) :: ((y25.1.2.2.2.1.cs) ++ ([.list (y25.1.2.2.2.2.map avV) .none]))))]), Rg54, ef hs, ef hs, Owns.of_eq (hO) (by first | rfl | simp only [List.length_append, List.length_cons, List.length_nil, List.length_map, Nat.zero_add, Nat.add_zero]), h⟩ | exact cl
          ·
           intro i hi; cases hi
   ·
    clear h; rintro e st ⟨pla3_k20, opla3_k20, Xk20, Rk20, rfl, rfl, hO, h⟩
    rw [ZcB] at h
    have hU := hO.unders
    simp only [List.mem_cons, List.not_mem_nil, or_false, forall_eq_or_imp, forall_eq] at hU
    refine Zeb hN hNR hNL (by simp only [List.length_set]) (Zah (Zc6 hcalm hO.len) (by (simp +decide only [go_sem, Nat.reduceAdd]) <;> (try (repeat' apply And.intro)) <;> first | omega | assumption)) hO (by (simp +decide only [go_sem, Nat.reduceAdd]) <;> (try (repeat' apply And.intro)) <;> first | omega | assumption) (by (simp +decide only [go_sem, Nat.reduceAdd, Za2]) <;> (try (repeat' apply And.intro)) <;> first | omega | assumption) ?_
    obtain ⟨hg56, h⟩ := Zae h
    refine rl [4, 5, 7, 9, 40, 41, 42] hs (fun e s => Vl15 ml15 e s (Nat.lt_succ_self _)) ?_
    exact ⟨(x42_l15 + 1), pla3_k20, opla3_k20, ([]), Rk20, ef hs, ef hs, Owns.of_eq (hO) (by first | rfl | simp only [List.length_append, List.length_cons, List.length_nil, List.length_map, Nat.zero_add, Nat.add_zero]), h⟩
  ·
   clear h; rintro e st ⟨pla3_k12, opla3_k12, Xk12, Rk12, rfl, rfl, hO, h⟩
   rw [Zdu] at h
   have hU := hO.unders
   simp only [List.mem_cons, List.not_mem_nil, or_false, forall_eq_or_imp, forall_eq] at hU
   refine Zeb hN hNR hNL (by simp only [List.length_set]) (Zah (Zc6 hcalm hO.len) (by (simp +decide only [go_sem, Nat.reduceAdd]) <;> (try (repeat' apply And.intro)) <;> first | omega | assumption)) hO (by (simp +decide only [go_sem, Nat.reduceAdd]) <;> (try (repeat' apply And.intro)) <;> first | omega | assumption) (by (simp +decide only [go_sem, Nat.reduceAdd, Za2]) <;> (try (repeat' apply And.intro)) <;> first | omega | assumption) ?_
   refine rg [5, 7, 9, 96, 97, 98] hs ?_
   apply Zaf
   refine Zap (fun m e st => ∃ (x98_l58 : Int) (pla3_l58 : List (ByteArray × Int)) (opla3_l58 : Ev.Own) (Xl58 : List (List AV)) (Rl58 : List RowA), e = [(5, true, .box (B.length + 1) 0), (7, true, .box (B.length + 3) 0), (9, true, .clo 162 [.box (B.length + 1) 0, .box (B.length + 2) 0]), (96, true, .list (a0.fields.map Zdz) .none), (97, true, .val (.int .i64 ((a0.fields.length : Int)))), (98, true, .val (.int .i64 x98_l58))] ∧ st = ⟨(B.set la3 ([.list (pla3_l58.map Ziv) opla3_l58])) ++ ([a0.cs, a1.cs, [.val (.string a2)], [.clo 96 [.box la3 0]]] ++ Xl58), Rl58, L⟩ ∧ Owns Rw Rl58 [(2, pla3_l58.length, opla3_l58)] oa3 ∧ Zbj rec n a0 a1 a2 m x98_l58 pla3_l58 = some r) n ⟨0, pla3_k12, opla3_k12, ([]), Rk12, ef hs, ef hs, Owns.of_eq (hO) (by first | rfl | simp only [List.length_append, List.length_cons, List.length_nil, List.length_map, Nat.zero_add, Nat.add_zero]), h⟩ ?_
   rintro ml58 e st ⟨x98_l58, pla3_l58, opla3_l58, Xl58, Rl58, rfl, rfl, hO, h⟩ Ul58 Vl58
   cases ml58 with
   | zero => cases h
   | succ ml58 =>
   rw [Zbj] at h
   have hU := hO.unders
   simp only [List.mem_cons, List.not_mem_nil, or_false, forall_eq_or_imp, forall_eq] at hU
   refine Zeb hN hNR hNL (by simp only [List.length_set]) (Zah (Zc6 hcalm hO.len) (by (simp +decide only [go_sem, Nat.reduceAdd]) <;> (try (repeat' apply And.intro)) <;> first | omega | assumption)) hO (by (simp +decide only [go_sem, Nat.reduceAdd]) <;> (try (repeat' apply And.intro)) <;> first | omega | assumption) (by (simp +decide only [go_sem, Nat.reduceAdd, Za2]) <;> (try (repeat' apply And.intro)) <;> first | omega | assumption) ?_
   refine rg [5, 7, 9, 96, 97, 98, 99] hs ?_
   apply Zac; intro K60 hK60
   refine cnd h hs (fun hs h => ?_) (fun hs h => ?_)
   rotate_left
   ·
    have hb61 := hs.1
    refine ZbU (Zce [] _) ?_ (ZaG _ _)
    apply ZfT; simp +decide only [go_sem, Nat.reduceAdd]
    (repeat' with_reducible apply And.intro) <;> first | exact cl | skip
    have hgt := Option.some.inj h; subst hgt
    have hU := hO.unders
    simp only [List.mem_cons, List.not_mem_nil, or_false, forall_eq_or_imp, forall_eq] at hU
    refine ZjW hO (Zah (Zc6 hcalm hO.len) (by (simp +decide only [go_sem, Nat.reduceAdd]) <;> (try (repeat' apply And.intro)) <;> first | omega | assumption)) (by simp only [List.length_set]) ev ⟨?_, _, _, ?_, (hO.sub (List.sublist_append_left [_] _)).len1 (by first | rfl | simp only [List.length_append, List.length_cons, List.length_nil, Nat.zero_add])⟩
    all_goals first | rfl | (simp +decide only [go_sem, Nat.reduceAdd, Zag hla3, hb4, hb9, hb61]; done) | (simp +decide only [go_sem, Nat.reduceAdd, Vl.cs, Ty.cs, Zag hla3, hb4, hb9, hb61]; done)
   have hb61 := hs.1
   refine sk [5, 7, 9, 96, 97, 98] hs hK60 ?_
   clear hK60
   refine Zak (fun e st => ∃ (pla3_k63 : List (ByteArray × Int)) (opla3_k63 : Ev.Own) (Xk63 : List (List AV)) (Rk63 : List RowA), e = [(5, true, .box (B.length + 1) 0), (7, true, .box (B.length + 3) 0), (9, true, .clo 162 [.box (B.length + 1) 0, .box (B.length + 2) 0]), (96, true, .list (a0.fields.map Zdz) .none), (97, true, .val (.int .i64 ((a0.fields.length : Int)))), (98, true, .val (.int .i64 x98_l58))] ∧ st = ⟨(B.set la3 ([.list (pla3_k63.map Ziv) opla3_k63])) ++ ([a0.cs, a1.cs, [.val (.string a2)], [.clo 96 [.box la3 0]]] ++ Xk63), Rk63, L⟩ ∧ Owns Rw Rk63 [(2, pla3_k63.length, opla3_k63)] oa3 ∧ Zcw rec n (Zbj rec n a0 a1 a2 ml58) x98_l58 pla3_k63 = some r) ?_ ?_
   ·
    intro K64 hK64
    apply Zaf
    obtain ⟨x66, hx66, h⟩ := bind_some h
    obtain ⟨hx66a, hx66b, hx66c⟩ := Zam hx66
    have hx66d := Zao (f := Zdz) hx66c
    have hs := And.intro hx66d hs
    refine rg [5, 7, 9, 15, 96, 97, 98] hs ?_
    obtain ⟨y68, hy68, h⟩ := bind_some h
    refine rc 2 [5, 7, 9, 15, 17, 96, 97, 98] hs ?_; intro K67 hK67
    refine Zad _ (Zco w0 n _ _ _ a1.fields x66.1 _ hy68) (hv hs) ?_
    refine ne hs hK67 ?_
    clear hK67
    refine rg [5, 7, 9, 15, 96, 97, 98, 111] hs ?_
    refine cnd h hs (fun hs h => ?_) (fun hs h => ?_)
    ·
     have hb70 := hs.1
     obtain ⟨y71, hy71, h⟩ := bind_some h
     obtain ⟨y72, hy72, h⟩ := bind_some h
     apply ZgP mix [5] [5, 7, 9, 96, 97, 98] (by kernel_rfl) (fun s => ∃ (X : List (List AV)) (rows : List RowA) (cla3 : List AV), s = ⟨(B.set la3 cla3) ++ ([a0.cs, a1.cs, [.val (.string a2)], [.clo 96 [.box la3 0]], .val (.int .i64 x66.1) :: (.val (.string x66.2.1) :: (.val (.int .i64 x66.2.2.1) :: ((x66.2.2.2.1.cs) ++ ([.list (x66.2.2.2.2.map avV) .none])))), .val (.int .i64 y68.1.1) :: (.val (.string y68.1.2.1) :: (.val (.int .i64 y68.1.2.2.1) :: ((y68.1.2.2.2.1.cs) ++ ([.list (y68.1.2.2.2.2.map avV) .none]))))] ++ X), rows, L⟩) 2 (B.length + 6)
     ·
      simp +decide only [go_sem, Nat.reduceAdd]
     ·
      rintro s ⟨X, rows, cla3, rfl⟩
      refine ⟨2, ?_⟩
      rw [Zaa]; simp +decide only [go_sem, Nat.reduceAdd, Zdr, Zag hla3, hb4, hb9, hb61, hx66d, hb70]
      (repeat' apply And.intro) <;> first | refine Zad _ (Zby w0 _ _ _ x66.2.1 (B.length + 1) a1 (ef hs) (B.length + 2) a2 (ef hs) _ hy71) (hv hs) ?_ | exact cl
      rw [Zaa]; simp +decide only [go_sem, Nat.reduceAdd, Zag hla3, hb4, hb9, hb61, hx66d, hb70]
      (repeat' apply And.intro) <;> first | rfl | exact cl
     ·
      refine Good.mk [5] (by kernel_rfl) ⟨[], _, _, by first | rfl | simp only [List.append_nil, List.nil_append]⟩ ?_ ?_
      ·
       intro h; exact absurd h (by decide)
      ·
       intro i hi; simp only [List.mem_cons, List.not_mem_nil, or_false] at hi
       subst hi
       ·
        apply ZeI rfl rfl ev rfl
        ·
         simp +decide only [go_sem, Nat.reduceAdd, Zag hla3, hb4, hb9, hb61, hx66d, hb70]
        ·
         simp +decide only [go_sem, Nat.reduceAdd, Zag hla3, hb4, hb9, hb61, hx66d, hb70]
        ·
         simp +decide only [go_sem, Nat.reduceAdd, Zag hla3, hb4, hb9, hb61, hx66d, hb70]
         exact (ZaZ w0 _ _ _ y71 2 la3 pla3_l58 opla3_l58 (ef hs) hO.enter _ hy72).pub (hv hs)
        ·
         rintro _ _ ⟨rfl, Rg73, og74, rfl, hGRg73⟩
         have hO := hO.call hGRg73
         simp +decide only [go_sem, Nat.reduceAdd, Zag hla3, hb4, hb9, hb61, hx66d, hb70]
         refine Good.mk [] (by kernel_rfl) ⟨[], _, _, by first | rfl | simp only [List.append_nil, List.nil_append]⟩ ?_ ?_
         ·
          intro _; refine ⟨_, _, Zbw [5, 7, 9, 96, 97, 98] (by first | (simp +decide only [go_sem, Nat.reduceAdd, Zag hla3, hb4, hb9, hb61, hx66d, hb70]; done) | (simp +decide only [go_sem, Nat.reduceAdd, Zag hla3, hb4, hb9, hb61, hx66d, hb70]; rfl)), ?_⟩
          try simp +decide only [go_sem, Nat.reduceAdd, Zag hla3, hb4, hb9, hb61, hx66d, hb70]
          (repeat' apply And.intro) <;> first | refine hK64 _ _ ⟨y72, og74, ([.val (.int .i64 x66.1) :: (.val (.string x66.2.1) :: (.val (.int .i64 x66.2.2.1) :: ((x66.2.2.2.1.cs) ++ ([.list (x66.2.2.2.2.map avV) .none])))), .val (.int .i64 y68.1.1) :: (.val (.string y68.1.2.1) :: (.val (.int .i64 y68.1.2.2.1) :: ((y68.1.2.2.2.1.cs) ++ ([.list (y68.1.2.2.2.2.map avV) .none]))))]), Rg73, ef hs, ef hs, Owns.of_eq (hO) (by first | rfl | simp only [List.length_append, List.length_cons, List.length_nil, List.length_map, Nat.zero_add, Nat.add_zero]), h⟩ | exact cl
         ·
          intro i hi; cases hi
    have hb70 := hs.1
    refine sk [5, 7, 9, 96, 97, 98] hs hK64 ?_
    exact ⟨pla3_l58, opla3_l58, ([.val (.int .i64 x66.1) :: (.val (.string x66.2.1) :: (.val (.int .i64 x66.2.2.1) :: ((x66.2.2.2.1.cs) ++ ([.list (x66.2.2.2.2.map avV) .none])))), .val (.int .i64 y68.1.1) :: (.val (.string y68.1.2.1) :: (.val (.int .i64 y68.1.2.2.1) :: ((y68.1.2.2.2.1.cs) ++ ([.list (y68.1.2.2.2.2.map avV) .none]))))]), Rl58, ef hs, ef hs, Owns.of_eq (hO) (by first | rfl | simp only [List.length_append, List.length_cons, List.length_nil, List.length_map, Nat.zero_add, Nat.add_zero]), h⟩
   ·
    clear h; rintro e st ⟨pla3_k63, opla3_k63, Xk63, Rk63, rfl, rfl, hO, h⟩
    rw [Zcw] at h
    have hU := hO.unders
    simp only [List.mem_cons, List.not_mem_nil, or_false, forall_eq_or_imp, forall_eq] at hU
    refine Zeb hN hNR hNL (by simp only [List.length_set]) (Zah (Zc6 hcalm hO.len) (by (simp +decide only [go_sem, Nat.reduceAdd]) <;> (try (repeat' apply And.intro)) <;> first | omega | assumption)) hO (by (simp +decide only [go_sem, Nat.reduceAdd]) <;> (try (repeat' apply And.intro)) <;> first | omega | assumption) (by (simp +decide only [go_sem, Nat.reduceAdd, Za2]) <;> (try (repeat' apply And.intro)) <;> first | omega | assumption) ?_
    obtain ⟨hg75, h⟩ := Zae h
    refine rl [5, 7, 9, 96, 97, 98] hs (fun e s => Vl58 ml58 e s (Nat.lt_succ_self _)) ?_
    exact ⟨(x98_l58 + 1), pla3_k63, opla3_k63, ([]), Rk63, ef hs, ef hs, Owns.of_eq (hO) (by first | rfl | simp only [List.length_append, List.length_cons, List.length_nil, List.length_map, Nat.zero_add, Nat.add_zero]), h⟩
 have hb9 := hs.1
 refine rg [4, 5, 6, 7, 8, 119] hs ?_
 refine cnd h hs (fun hs h => ?_) (fun hs h => ?_)
 ·
  have hb77 := hs.1
  refine Zak (fun e st => ∃ (pla3_k79 : List (ByteArray × Int)) (opla3_k79 : Ev.Own) (Xk79 : List (List AV)) (Rk79 : List RowA), e = [(4, true, .box B.length 0), (5, true, .box (B.length + 1) 0), (6, true, .box (B.length + 2) 0), (7, true, .box (B.length + 3) 0)] ∧ st = ⟨(B.set la3 ([.list (pla3_k79.map Ziv) opla3_k79])) ++ ([a0.cs, a1.cs, [.val (.string a2)], [.clo 96 [.box la3 0]]] ++ Xk79), Rk79, L⟩ ∧ Owns Rw Rk79 [(2, pla3_k79.length, opla3_k79)] oa3 ∧ Zcu rec n a0 a1 a2 pla3_k79 = some r) ?_ ?_
  ·
   intro K80 hK80
   refine rg [4, 5, 6, 7, 8, 134] hs ?_
   refine cnd h hs (fun hs h => ?_) (fun hs h => ?_)
   ·
    have hb82 := hs.1
    obtain ⟨y83, hy83, h⟩ := bind_some h
    apply Zab 3 [4, 5, 6, 7]
    rw [Zaa]; simp +decide only [go_sem, Nat.reduceAdd, Zag hla3, hb4, hb9, hb77, hb82]
    (repeat' apply And.intro) <;> first | refine Zad _ (ZbD w0 _ _ _ a0 a1) (hv hs) ?_ | exact cl
    rw [Zaa]; simp +decide only [go_sem, Nat.reduceAdd, Zag hla3, hb4, hb9, hb77, hb82]
    (repeat' apply And.intro) <;> first | (refine ZaR _ (ZeM w0 _ _ _ (Zbg a0 a1) la3 a3 oa3 (ef hs) hO.enter (B.length + 3) (ef hs) (B.length + 2) a2 (ef hs) _ hy83) (hv hs) ?_; rintro _ _ ⟨rfl, Rg84, og85, rfl, hGRg84⟩) | exact cl
    have hO := hO.call hGRg84
    rw [Zaa]; simp +decide only [go_sem, Nat.reduceAdd, Zag hla3, hb4, hb9, hb77, hb82]
    (repeat' apply And.intro) <;> first | refine hK80 _ _ ⟨y83, og85, ([]), Rg84, ef hs, ef hs, Owns.of_eq (hO) (by first | rfl | simp only [List.length_append, List.length_cons, List.length_nil, List.length_map, Nat.zero_add, Nat.add_zero]), h⟩ | exact cl
   have hb82 := hs.1
   refine sk [4, 5, 6, 7] hs hK80 ?_
   exact ⟨a3, oa3, ([]), Rw, ef hs, ef hs, Owns.of_eq (hO) (by first | rfl | simp only [List.length_append, List.length_cons, List.length_nil, List.length_map, Nat.zero_add, Nat.add_zero]), h⟩
  ·
   clear h; rintro e st ⟨pla3_k79, opla3_k79, Xk79, Rk79, rfl, rfl, hO, h⟩
   rw [Zcu] at h
   have hU := hO.unders
   simp only [List.mem_cons, List.not_mem_nil, or_false, forall_eq_or_imp, forall_eq] at hU
   refine Zeb hN hNR hNL (by simp only [List.length_set]) (Zah (Zc6 hcalm hO.len) (by (simp +decide only [go_sem, Nat.reduceAdd]) <;> (try (repeat' apply And.intro)) <;> first | omega | assumption)) hO (by (simp +decide only [go_sem, Nat.reduceAdd]) <;> (try (repeat' apply And.intro)) <;> first | omega | assumption) (by (simp +decide only [go_sem, Nat.reduceAdd, Za2]) <;> (try (repeat' apply And.intro)) <;> first | omega | assumption) ?_
   obtain ⟨x86, hx86a, hx86b, hx86d, h⟩ := ix avT h
   have hx86e : (a0.elem.map avT).getD 0 .junk = _ := hx86d
   obtain ⟨x87, hx87a, hx87b, hx87d, h⟩ := ix avT h
   have hx87e : (a1.elem.map avT).getD 0 .junk = _ := hx87d
   obtain ⟨hg88, h⟩ := Zae h
   have hg88s := hg88
   try simp +decide only [go_sem] at hg88s
   obtain ⟨y89, hy89, h⟩ := bind_some h
   apply ZgP mix [11] [] (by kernel_rfl) (fun s => ∃ (X : List (List AV)) (rows : List RowA) (cla3 : List AV), s = ⟨(B.set la3 cla3) ++ ([a0.cs, a1.cs, [.val (.string a2)], [.clo 96 [.box la3 0]]] ++ X), rows, L⟩) 2 (B.length + 4)
   ·
    simp +decide only [go_sem, Nat.reduceAdd]
   ·
    rintro s ⟨X, rows, cla3, rfl⟩
    refine ⟨1, ?_⟩
    rw [Zaa]; simp +decide only [go_sem, Nat.reduceAdd, Zdr, Zag hla3, hb4, hb9, hb77, hx86d, hx86e, hx87d, hx87e]
    (repeat' apply And.intro) <;> first | rfl | exact cl
   ·
    refine Good.mk [11] (by kernel_rfl) ⟨[], _, _, by first | rfl | simp only [List.append_nil, List.nil_append]⟩ ?_ ?_
    ·
     intro h; exact absurd h (by decide)
    ·
     intro i hi; simp only [List.mem_cons, List.not_mem_nil, or_false] at hi
     subst hi
     ·
      apply ZeI rfl rfl ev rfl
      ·
       simp +decide only [go_sem, Nat.reduceAdd, Zag hla3, hb4, hb9, hb77, hx86d, hx86e, hx87d, hx87e]
      ·
       simp +decide only [go_sem, Nat.reduceAdd, Zag hla3, hb4, hb9, hb77, hx86d, hx86e, hx87d, hx87e]
      ·
       simp +decide only [go_sem, Nat.reduceAdd, Zag hla3, hb4, hb9, hb77, hx86d, hx86e, hx87d, hx87e]
       have hs := And.intro hx86d hs
       have hs := And.intro hx86e hs
       have hs := And.intro hx87d hs
       have hs := And.intro hx87e hs
       exact (ih _ _ _ x86 x87 (a2 ++ ((⟨#[91, 42, 93]⟩ : ByteArray))) la3 pla3_k79 opla3_k79 (ef hs) hO.enter _ hy89).pub (hv hs)
      ·
       rintro _ _ ⟨rfl, Rg90, og91, rfl, hGRg90⟩
       have hO := hO.call hGRg90
       simp +decide only [go_sem, Nat.reduceAdd, Zag hla3, hb4, hb9, hb77, hx86d, hx86e, hx87d, hx87e]
       refine Good.mk [] (by kernel_rfl) ⟨[], _, _, by first | rfl | simp only [List.append_nil, List.nil_append]⟩ ?_ ?_
       ·
        intro _; refine ⟨_, _, Zbw [] (by first | (simp +decide only [go_sem, Nat.reduceAdd, Zag hla3, hb4, hb9, hb77, hx86d, hx86e, hx87d, hx87e]; done) | (simp +decide only [go_sem, Nat.reduceAdd, Zag hla3, hb4, hb9, hb77, hx86d, hx86e, hx87d, hx87e]; rfl)), ?_⟩
        try simp +decide only [go_sem, Nat.reduceAdd, Zag hla3, hb4, hb9, hb77, hx86d, hx86e, hx87d, hx87e]
        (repeat' with_reducible apply And.intro) <;> first | exact cl | skip
        have hgt := Option.some.inj h; subst hgt
        have hU := hO.unders
        simp only [List.mem_cons, List.not_mem_nil, or_false, forall_eq_or_imp, forall_eq] at hU
        refine ZjW hO (Zah (Zc6 hcalm hO.len) (by (simp +decide only [go_sem, Nat.reduceAdd]) <;> (try (repeat' apply And.intro)) <;> first | omega | assumption)) (by simp only [List.length_set]) ev ⟨?_, _, _, ?_, (hO.sub (List.sublist_append_left [_] _)).len1 (by first | rfl | simp only [List.length_append, List.length_cons, List.length_nil, Nat.zero_add])⟩
        all_goals first | rfl | (simp +decide only [go_sem, Nat.reduceAdd, Zag hla3, hb4, hb9, hb77, hx86d, hx86e, hx87d, hx87e]; done) | (simp +decide only [go_sem, Nat.reduceAdd, Vl.cs, Ty.cs, Zag hla3, hb4, hb9, hb77, hx86d, hx86e, hx87d, hx87e]; done)
       ·
        intro i hi; cases hi
 have hb77 := hs.1
 obtain ⟨y93, hy93, h⟩ := bind_some h
 refine rc 2 [4, 5, 8, 152] hs ?_; intro K92 hK92
 refine Zad _ (Zkh w0 n _ _ _ a0 a1 _ hy93) (hv hs) ?_
 refine ne hs hK92 ?_
 clear hK92
 refine cnd h hs (fun hs h => ?_) (fun hs h => ?_)
 ·
  have hb94 := hs.1
  obtain ⟨y95, hy95, h⟩ := bind_some h
  obtain ⟨y96, hy96, h⟩ := bind_some h
  apply Zab 3 []
  rw [Zaa]; simp +decide only [go_sem, Nat.reduceAdd, Zag hla3, hb4, hb9, hb77, hb94]
  (repeat' apply And.intro) <;> first | refine Zad _ (Zet w0 n _ _ _ a0 a1 _ hy95) (hv hs) ?_ | exact cl
  rw [Zaa]; simp +decide only [go_sem, Nat.reduceAdd, Zag hla3, hb4, hb9, hb77, hb94]
  (repeat' apply And.intro) <;> first | (refine ZaR _ (ZeM w0 _ _ _ y95 la3 a3 oa3 (ef hs) hO.enter (B.length + 3) (ef hs) (B.length + 2) a2 (ef hs) _ hy96) (hv hs) ?_; rintro _ _ ⟨rfl, Rg97, og98, rfl, hGRg97⟩) | exact cl
  have hO := hO.call hGRg97
  rw [Zaa]; simp +decide only [go_sem, Nat.reduceAdd, Zag hla3, hb4, hb9, hb77, hb94]
  (repeat' with_reducible apply And.intro) <;> first | exact cl | skip
  have hgt := Option.some.inj h; subst hgt
  have hU := hO.unders
  simp only [List.mem_cons, List.not_mem_nil, or_false, forall_eq_or_imp, forall_eq] at hU
  refine ZjW hO (Zah (Zc6 hcalm hO.len) (by (simp +decide only [go_sem, Nat.reduceAdd]) <;> (try (repeat' apply And.intro)) <;> first | omega | assumption)) (by simp only [List.length_set]) ev ⟨?_, _, _, ?_, (hO.sub (List.sublist_append_left [_] _)).len1 (by first | rfl | simp only [List.length_append, List.length_cons, List.length_nil, Nat.zero_add])⟩
  all_goals first | rfl | (simp +decide only [go_sem, Nat.reduceAdd, Zag hla3, hb4, hb9, hb77, hb94]; done) | (simp +decide only [go_sem, Nat.reduceAdd, Vl.cs, Ty.cs, Zag hla3, hb4, hb9, hb77, hb94]; done)
 have hb94 := hs.1
 refine ZbU (Zce [] _) ?_ (ZaG _ _)
 apply ZaJ; simp +decide only [go_sem, Nat.reduceAdd]
 (repeat' with_reducible apply And.intro) <;> first | exact cl | skip
 have hgt := Option.some.inj h; subst hgt
 have hU := hO.unders
 simp only [List.mem_cons, List.not_mem_nil, or_false, forall_eq_or_imp, forall_eq] at hU
 refine ZjW hO (Zc6 hcalm hO.len) rfl ev ⟨?_, _, _, ?_, (hO.sub (List.sublist_append_left [_] _)).len1 (by first | rfl | simp only [List.length_append, List.length_cons, List.length_nil, Nat.zero_add])⟩
 all_goals first | rfl | (simp +decide only [go_sem, Nat.reduceAdd, Zag hla3, hb4, hb9, hb77, hb94]; done) | (simp +decide only [go_sem, Nat.reduceAdd, Vl.cs, Ty.cs, Zag hla3, hb4, hb9, hb77, hb94]; done)
theorem Zfr (w0 : World) : ∀ n : Nat, Zeq w0 (Zdg n)
 | 0 => fun _ _ _ _ _ _ _ _ _ _ _ _ h => (nomatch h)
 | n + 1 => Zhj w0 (Zdg n) (Zfr w0 n) n
def Zeh (n : Nat) (a0 : Ty) (a1 : Ty) : Option ((List (ByteArray × Int)) × Int) :=
 (Zd8 n a0 a1).bind fun y4 =>
 if !(decide (y4 = 0)) then
  some (([], y4))
 else
  (Zdg n a0 a1 ((⟨#[]⟩ : ByteArray)) ([])).bind fun y11 =>
  some ((y11, 0))
theorem ZhZ (w0 : World) (hT : Lib.Utf8Tabs 0 1 w0) (n : Nat) (B : List (List AV)) (Rw : List RowA) (L : List LoopA) (a0 : Ty) (a1 : Ty) (r : (List (ByteArray × Int)) × Int) (h : Zeh n a0 a1 = some r) :
  ACalls Tryz.prog w0 42 [.agg (a0.cs), .agg (a1.cs)] ⟨B, Rw, L⟩ fun x st => x = .tup [.list (r.1.map Ziv) .none, .val (.int .i64 r.2)] ∧ st = ⟨B, Rw, L⟩ := by
 rw [Zeh] at h
 refine hd [.tmp 4, .tmp 5] Tryz.func42 Tryz.ntmps42 fun M0 W0 hN hNR hNL hcalm hu hO hs => ?_
 simp only [Zal]
 refine rg [2, 3] hs ?_
 apply Zac; intro K2 hK2
 obtain ⟨y4, hy4, h⟩ := bind_some h
 refine rc 2 [2, 3, 6] hs ?_; intro K3 hK3
 refine Zad _ (Zgo w0 hT n _ _ _ a0 a1 _ hy4) (hv hs) ?_
 refine ne hs hK3 ?_
 clear hK3
 refine rg [2, 3, 6, 12] hs ?_
 refine cnd h hs (fun hs h => ?_) (fun hs h => ?_)
 ·
  have hb6 := hs.1
  refine rg [4, 5] hs ?_
  exact rt h hs hcalm hO
 have hb6 := hs.1
 refine sk [2, 3] hs hK2 ?_
 clear hK2
 refine rg [2, 3, 7] hs ?_
 apply Zac; intro K9 hK9
 have hO := hO.full 2 0
 obtain ⟨y11, hy11, h⟩ := bind_some h
 apply Zab 2 [7]
 rw [Zaa]; simp +decide only [go_sem, Nat.reduceAdd, hb6]
 (repeat' apply And.intro) <;> first | (refine ZaR _ (Zfr w0 n _ _ _ a0 a1 ((⟨#[]⟩ : ByteArray)) (B.length + 2) ([]) .full (ef hs) hO.enter _ hy11) (hv hs) ?_; rintro _ _ ⟨rfl, Rg12, og13, rfl, hGRg12⟩) | exact cl
 have hO := hO.call hGRg12
 rw [Zaa]; simp +decide only [go_sem, Nat.reduceAdd, hb6]
 (repeat' apply And.intro) <;> first | refine hK9 _ _ ?_ | exact cl
 clear hK9
 refine rg [4, 5] hs ?_
 exact rt h hs hcalm hO
def Zcn (a0 : ByteArray × Vl) (a1 : ByteArray) : Int :=
 Zsx a0.1 a1
theorem Zij (w0 : World) (B : List (List AV)) (Rw : List RowA) (L : List LoopA) (a0 : ByteArray × Vl) (a1 : ByteArray) (r : Int) (h : Zcn a0 a1 = r) :
  ACalls Tryz.prog w0 140 [.agg (.val (.string a0.1) :: (a0.2.cs)), .val (.string a1)] ⟨B, Rw, L⟩ fun x st => x = .val (.int .i64 r) ∧ st = ⟨B, Rw, L⟩ := by
 rw [Zcn] at h
 refine hd [.tmp 4] Tryz.func140 Tryz.ntmps140 fun M0 W0 hN hNR hNL hcalm hu hO hs => ?_
 simp only [Zal]
 refine rg [1, 2] hs ?_
 refine rc 2 [4] hs ?_; intro K2 hK2
 refine Zad _ (ZgH w0 _ _ _ a0.1 a1) (hv hs) ?_
 refine ne hs hK2 ?_
 clear hK2
 apply Zaj; simp +decide only [go_sem, Nat.reduceAdd]
 subst h
 first | refine Zaz hcalm rfl hO.pre ev ⟨?_, rfl⟩ | refine Za5 hcalm rfl hO.pre ev ⟨?_, rfl⟩
 first | rfl | (simp +decide only [go_sem, Nat.reduceAdd]; done) | (simp +decide only [go_sem, Nat.reduceAdd, Vl.cs, Ty.cs]; done)
theorem ZhL (w0 : World) (B : List (List AV)) (Rw : List RowA) (L : List LoopA) (a0 : ByteArray × Vl) (a1 : ByteArray) :
  ACalls Tryz.prog w0 140 [.agg (.val (.string a0.1) :: (a0.2.cs)), .val (.string a1)] ⟨B, Rw, L⟩ fun x st => x = .val (.int .i64 (Zcn a0 a1)) ∧ st = ⟨B, Rw, L⟩ := Zij w0 B Rw L a0 a1 _ rfl
def Zim (a0 : ByteArray) : Option Bool :=
 if a0.size ≤ maxLen then
  some (Lib.validD a0.data.toList)
 else none
theorem Zmx (w0 : World) (hT : Lib.Utf8Tabs 0 1 w0) (B : List (List AV)) (Rw : List RowA) (L : List LoopA) (a0 : ByteArray) (r : Bool) (h : Zim a0 = some r) :
  ACalls Tryz.prog w0 196 [.val (.string a0)] ⟨B, Rw, L⟩ fun x st => x = .val (.bool r) ∧ st = ⟨B, Rw, L⟩ := by
 rw [Zim] at h
 refine hd [.tmp 2] Tryz.func196 Tryz.ntmps196 fun M0 W0 hN hNR hNL hcalm hu hO hs => ?_
 simp only [Zal]
 refine rg [0] hs ?_
 obtain ⟨hg3, h⟩ := Zae h
 refine rc 2 [2] hs ?_; intro K2 hK2
 refine Zad _ (Zkq w0 _ _ _ hT a0 hg3) (hv hs) ?_
 refine ne hs hK2 ?_
 clear hK2
 exact rt h hs hcalm hO
def Za6 (n : Nat)  (b1_k4 : Vl) : Option Bool :=
 some (((((decide (b1_k4.int = 0)) && (decide (b1_k4.scale = 0))) && (sEq b1_k4.text ((⟨#[]⟩ : ByteArray)))) && (decide (((b1_k4.list.length : Int)) = 0))) && (decide (((b1_k4.fields.length : Int)) = 0)))
def Zfd (n : Nat) (a0 : Vl) : Option Bool :=
 Za6 n (Vl.mk a0.kind a0.int a0.scale a0.text a0.list ([]))
def Zd9 (n : Nat) (a0 : Vl) : Nat → Int → Option Bool
 | 0, _ => none
 | m + 1, x4_l40 =>
  if decide (x4_l40 < ((a0.fields.length : Int))) then
   if I64 (x4_l40 - 1) then
    (idx a0.fields (x4_l40 - 1)).bind fun x47 =>
    (idx a0.fields x4_l40).bind fun x48 =>
    if !(sLt x47.1 x48.1) then
     some (false)
    else
     if I64 (x4_l40 + 1) then
      (Zd9 n a0 m) (x4_l40 + 1)
     else none
   else none
  else
   Zfd n a0 
def Zdc (n : Nat) (a0 : Vl) (x19_k14 : Bool) : Option Bool :=
 if x19_k14 then
  Za6 n (Vl.mk a0.kind 0 a0.scale a0.text a0.list a0.fields)
 else
  if decide (a0.kind = 3) then
   Za6 n (Vl.mk a0.kind 0 0 a0.text a0.list a0.fields)
  else
   if decide (a0.kind = 4) then
    (Zim a0.text).bind fun y27 =>
    if !y27 then
     some (false)
    else
     Za6 n (Vl.mk a0.kind a0.int a0.scale ((⟨#[]⟩ : ByteArray)) a0.list a0.fields)
   else
    if decide (a0.kind = 5) then
     Za6 n (Vl.mk a0.kind a0.int a0.scale ((⟨#[]⟩ : ByteArray)) a0.list a0.fields)
    else
     if decide (a0.kind = 8) then
      Za6 n (Vl.mk a0.kind a0.int a0.scale a0.text ([]) a0.fields)
     else
      if decide (a0.kind = 9) then
       Zd9 n a0 n 1
      else
       if decide (a0.kind = 10) then
        if !(decide (((a0.list.length : Int)) = 1)) then
         some (false)
        else
         Za6 n (Vl.mk a0.kind a0.int a0.scale ((⟨#[]⟩ : ByteArray)) ([]) a0.fields)
       else
        Za6 n a0
def Ze9 (n : Nat) (a0 : Vl) : Option Bool :=
 if decide (a0.kind = 1) then
  if (!(decide (a0.int = 0))) && (!(decide (a0.int = 1))) then
   some (false)
  else
   Za6 n (Vl.mk a0.kind 0 a0.scale a0.text a0.list a0.fields)
 else
  if decide (a0.kind = 2) then
   Zdc n a0 true
  else
   if decide (a0.kind = 6) then
    Zdc n a0 true
   else
    Zdc n a0 (decide (a0.kind = 7))
theorem ZhQ (w0 : World) (hT : Lib.Utf8Tabs 0 1 w0) (n : Nat) (B : List (List AV)) (Rw : List RowA) (L : List LoopA) (a0 : Vl) (r : Bool) (h : Ze9 n a0 = some r) :
  ACalls Tryz.prog w0 137 [.agg (a0.cs)] ⟨B, Rw, L⟩ fun x st => x = .val (.bool r) ∧ st = ⟨B, Rw, L⟩ := by
 rw [Ze9] at h
 refine hd [.tmp 2] Tryz.func137 Tryz.ntmps137 fun M0 W0 hN hNR hNL hcalm hu hO hs => ?_
 simp only [Zal]
 refine rg [1] hs ?_
 refine rg [1, 3] hs ?_
 refine Zak (fun e st => ∃ (b1_k4 : Vl) (cb1_k4 : List AV), Ck e st B Rw L [(3, true, .box (B.length + 1) 0)] [a0.cs, cb1_k4] [] (cb1_k4.map AV.pubCell = b1_k4.cs ∧ Za6 n b1_k4 = some r)) ?_ ?_
 ·
  intro K5 hK5
  refine rg [1, 3, 7] hs ?_
  apply Zaf
  refine rg [1, 3, 7, 8] hs ?_
  refine cnd h hs (fun hs h => ?_) (fun hs h => ?_)
  ·
   have hb8 := hs.1
   apply Zac; intro K9 hK9
   refine rg [3, 17] hs ?_
   refine cnd h hs (fun hs h => ?_) (fun hs h => ?_)
   ·
    have hb11 := hs.1
    refine rg [2] hs ?_
    exact rt h hs hcalm hO
   have hb11 := hs.1
   refine sk [3] hs hK9 ?_
   clear hK9
   apply Zab 1 [3]
   rw [Zaa]; simp +decide only [go_sem, Nat.reduceAdd, hb8, hb11, Vl.cs_eqs a0]
   (repeat' apply And.intro) <;> first | refine hK5 _ _ ⟨(Vl.mk a0.kind 0 a0.scale a0.text a0.list a0.fields), ([.val (.int .i64 a0.kind), .val (.int .i64 0), .val (.int .i64 a0.scale), .val (.string a0.text), .list (a0.list.map avV) .none, .list (a0.fields.map avF) .none]), ([]), Rw, by first | rfl | (simp +decide only [go_sem, Nat.reduceAdd, hb8, hb11, Vl.cs_eqs a0, Vl.cs_mks, Ty.cs_mks]; done), by first | rfl | (simp +decide only [go_sem, Nat.reduceAdd, hb8, hb11, Vl.cs_eqs a0, Vl.cs_mks, Ty.cs_mks]; done), hO, by first | rfl | (simp +decide only [go_sem, Nat.reduceAdd, hb8, hb11, Vl.cs_eqs a0, Vl.cs_mks, Ty.cs_mks]; done), h⟩ | exact cl
  have hb8 := hs.1
  refine Zak (fun e st => ∃ (x19_k14 : Bool), Ck e st B Rw L [(1, true, .box B.length 0), (3, true, .box (B.length + 1) 0), (7, true, .val (.int .i64 a0.kind)), (19, true, .val (.bool x19_k14))] [a0.cs, a0.cs] [] (Zdc n a0 x19_k14 = some r)) ?_ ?_
  ·
   intro K15 hK15
   refine rg [1, 3, 7, 19] hs ?_
   refine cnd h hs (fun hs h => ?_) (fun hs h => ?_)
   ·
    refine sk [1, 3, 7, 19] hs hK15 ?_
    exact ⟨true, ([]), Rw, ef hs, ef hs, hO, h⟩
   refine rg [1, 3, 7, 19] hs ?_
   refine cnd h hs (fun hs h => ?_) (fun hs h => ?_)
   ·
    refine sk [1, 3, 7, 19] hs hK15 ?_
    exact ⟨true, ([]), Rw, ef hs, ef hs, hO, h⟩
   refine rl [1, 3, 7, 19] hs hK15 ?_
   exact ⟨(decide (a0.kind = 7)), ([]), Rw, ef hs, ef hs, hO, h⟩
  ·
   clear h; rintro e st ⟨x19_k14, Xk14, Rk14, rfl, rfl, hO, h⟩
   rw [Zdc] at h
   refine td hN hNR hNL hcalm hO ?_
   refine cnd h hs (fun hs h => ?_) (fun hs h => ?_)
   ·
    have hb20 := hs.1
    apply Zab 1 [3]
    rw [Zaa]; simp +decide only [go_sem, Nat.reduceAdd, hb8, hb20, Vl.cs_eqs a0]
    (repeat' apply And.intro) <;> first | refine hK5 _ _ ⟨(Vl.mk a0.kind 0 a0.scale a0.text a0.list a0.fields), ([.val (.int .i64 a0.kind), .val (.int .i64 0), .val (.int .i64 a0.scale), .val (.string a0.text), .list (a0.list.map avV) .none, .list (a0.fields.map avF) .none]), ([]), Rk14, by first | rfl | (simp +decide only [go_sem, Nat.reduceAdd, hb8, hb20, Vl.cs_eqs a0, Vl.cs_mks, Ty.cs_mks]; done), by first | rfl | (simp +decide only [go_sem, Nat.reduceAdd, hb8, hb20, Vl.cs_eqs a0, Vl.cs_mks, Ty.cs_mks]; done), hO, by first | rfl | (simp +decide only [go_sem, Nat.reduceAdd, hb8, hb20, Vl.cs_eqs a0, Vl.cs_mks, Ty.cs_mks]; done), h⟩ | exact cl
   have hb20 := hs.1
   refine rg [1, 3, 7, 24] hs ?_
   refine cnd h hs (fun hs h => ?_) (fun hs h => ?_)
   ·
    have hb22 := hs.1
    apply Zab 1 [3]
    rw [Zaa]; simp +decide only [go_sem, Nat.reduceAdd, hb8, hb20, hb22, Vl.cs_eqs a0]
    (repeat' apply And.intro) <;> first | refine hK5 _ _ ⟨(Vl.mk a0.kind 0 0 a0.text a0.list a0.fields), ([.val (.int .i64 a0.kind), .val (.int .i64 0), .val (.int .i64 0), .val (.string a0.text), .list (a0.list.map avV) .none, .list (a0.fields.map avF) .none]), ([]), Rk14, by first | rfl | (simp +decide only [go_sem, Nat.reduceAdd, hb8, hb20, hb22, Vl.cs_eqs a0, Vl.cs_mks, Ty.cs_mks]; done), by first | rfl | (simp +decide only [go_sem, Nat.reduceAdd, hb8, hb20, hb22, Vl.cs_eqs a0, Vl.cs_mks, Ty.cs_mks]; done), hO, by first | rfl | (simp +decide only [go_sem, Nat.reduceAdd, hb8, hb20, hb22, Vl.cs_eqs a0, Vl.cs_mks, Ty.cs_mks]; done), h⟩ | exact cl
   have hb22 := hs.1
   refine rg [1, 3, 7, 28] hs ?_
   refine cnd h hs (fun hs h => ?_) (fun hs h => ?_)
   ·
    have hb24 := hs.1
    apply Zac; intro K25 hK25
    obtain ⟨y27, hy27, h⟩ := bind_some h
    refine rc 2 [3, 33] hs ?_; intro K26 hK26
    refine Zad _ (Zmx w0 hT _ _ _ a0.text _ hy27) (hv hs) ?_
    refine ne hs hK26 ?_
    clear hK26
    refine cnd h hs (fun hs h => ?_) (fun hs h => ?_)
    ·
     have hb28 := hs.1
     refine rg [2] hs ?_
     exact rt h hs hcalm hO
    have hb28 := hs.1
    refine sk [3] hs hK25 ?_
    clear hK25
    apply Zab 1 [3]
    rw [Zaa]; simp +decide only [go_sem, Nat.reduceAdd, hb8, hb20, hb22, hb24, hb28, Vl.cs_eqs a0]
    (repeat' apply And.intro) <;> first | refine hK5 _ _ ⟨(Vl.mk a0.kind a0.int a0.scale ((⟨#[]⟩ : ByteArray)) a0.list a0.fields), ([.val (.int .i64 a0.kind), .val (.int .i64 a0.int), .val (.int .i64 a0.scale), .val (.string ((⟨#[]⟩ : ByteArray))), .list (a0.list.map avV) .none, .list (a0.fields.map avF) .none]), ([]), Rk14, by first | rfl | (simp +decide only [go_sem, Nat.reduceAdd, hb8, hb20, hb22, hb24, hb28, Vl.cs_eqs a0, Vl.cs_mks, Ty.cs_mks]; done), by first | rfl | (simp +decide only [go_sem, Nat.reduceAdd, hb8, hb20, hb22, hb24, hb28, Vl.cs_eqs a0, Vl.cs_mks, Ty.cs_mks]; done), hO, by first | rfl | (simp +decide only [go_sem, Nat.reduceAdd, hb8, hb20, hb22, hb24, hb28, Vl.cs_eqs a0, Vl.cs_mks, Ty.cs_mks]; done), h⟩ | exact cl
   have hb24 := hs.1
   refine rg [1, 3, 7, 35] hs ?_
   refine cnd h hs (fun hs h => ?_) (fun hs h => ?_)
   ·
    have hb31 := hs.1
    apply Zab 1 [3]
    rw [Zaa]; simp +decide only [go_sem, Nat.reduceAdd, hb8, hb20, hb22, hb24, hb31, Vl.cs_eqs a0]
    (repeat' apply And.intro) <;> first | refine hK5 _ _ ⟨(Vl.mk a0.kind a0.int a0.scale ((⟨#[]⟩ : ByteArray)) a0.list a0.fields), ([.val (.int .i64 a0.kind), .val (.int .i64 a0.int), .val (.int .i64 a0.scale), .val (.string ((⟨#[]⟩ : ByteArray))), .list (a0.list.map avV) .none, .list (a0.fields.map avF) .none]), ([]), Rk14, by first | rfl | (simp +decide only [go_sem, Nat.reduceAdd, hb8, hb20, hb22, hb24, hb31, Vl.cs_eqs a0, Vl.cs_mks, Ty.cs_mks]; done), by first | rfl | (simp +decide only [go_sem, Nat.reduceAdd, hb8, hb20, hb22, hb24, hb31, Vl.cs_eqs a0, Vl.cs_mks, Ty.cs_mks]; done), hO, by first | rfl | (simp +decide only [go_sem, Nat.reduceAdd, hb8, hb20, hb22, hb24, hb31, Vl.cs_eqs a0, Vl.cs_mks, Ty.cs_mks]; done), h⟩ | exact cl
   have hb31 := hs.1
   refine rg [1, 3, 7, 38] hs ?_
   refine cnd h hs (fun hs h => ?_) (fun hs h => ?_)
   ·
    have hb33 := hs.1
    apply Zab 1 [3]
    rw [Zaa]; simp +decide only [go_sem, Nat.reduceAdd, hb8, hb20, hb22, hb24, hb31, hb33, Vl.cs_eqs a0]
    (repeat' apply And.intro) <;> first | refine hK5 _ _ ⟨(Vl.mk a0.kind a0.int a0.scale a0.text ([]) a0.fields), ([.val (.int .i64 a0.kind), .val (.int .i64 a0.int), .val (.int .i64 a0.scale), .val (.string a0.text), .list ([]) .full, .list (a0.fields.map avF) .none]), ([]), Rk14, by first | rfl | (simp +decide only [go_sem, Nat.reduceAdd, hb8, hb20, hb22, hb24, hb31, hb33, Vl.cs_eqs a0, Vl.cs_mks, Ty.cs_mks]; done), by first | rfl | (simp +decide only [go_sem, Nat.reduceAdd, hb8, hb20, hb22, hb24, hb31, hb33, Vl.cs_eqs a0, Vl.cs_mks, Ty.cs_mks]; done), hO, by first | rfl | (simp +decide only [go_sem, Nat.reduceAdd, hb8, hb20, hb22, hb24, hb31, hb33, Vl.cs_eqs a0, Vl.cs_mks, Ty.cs_mks]; done), h⟩ | exact cl
   have hb33 := hs.1
   refine rg [1, 3, 7, 41] hs ?_
   refine cnd h hs (fun hs h => ?_) (fun hs h => ?_)
   ·
    have hb35 := hs.1
    refine Zak (fun e st => Ck e st B Rw L [(3, true, .box (B.length + 1) 0)] [a0.cs, a0.cs] [] (Zfd n a0  = some r)) ?_ ?_
    ·
     intro K38 hK38
     refine rg [1, 3, 4] hs ?_
     apply Zaf
     refine Zap (fun m e st => ∃ (x4_l40 : Int), Ck e st B Rw L [(1, true, .box B.length 0), (3, true, .box (B.length + 1) 0), (4, true, .val (.int .i64 x4_l40))] [a0.cs, a0.cs] [] (Zd9 n a0 m x4_l40 = some r)) n ⟨1, ([]), Rk14, ef hs, ef hs, hO, h⟩ ?_
     rintro ml40 e st ⟨x4_l40, Xl40, Rl40, rfl, rfl, hO, h⟩ Ul40 Vl40
     cases ml40 with
     | zero => cases h
     | succ ml40 =>
     rw [Zd9] at h
     refine td hN hNR hNL hcalm hO ?_
     apply Zac; intro K41 hK41
     refine rg [1, 3, 4, 47] hs ?_
     refine cnd h hs (fun hs h => ?_) (fun hs h => ?_)
     rotate_left
     ·
      refine sx [3] hs hK38 ?_
      exact ⟨([]), Rl40, ef hs, ef hs, hO, h⟩
     refine sk [1, 3, 4] hs hK41 ?_
     clear hK41
     apply Zac; intro K44 hK44
     apply Zaf
     obtain ⟨hg46, h⟩ := Zae h
     obtain ⟨x47, hx47, h⟩ := bind_some h
     obtain ⟨hx47a, hx47b, hx47c⟩ := Zam hx47
     have hx47d := Zao (f := avF) hx47c
     obtain ⟨x48, hx48, h⟩ := bind_some h
     obtain ⟨hx48a, hx48b, hx48c⟩ := Zam hx48
     have hx48d := Zao (f := avF) hx48c
     have hs := And.intro hx47d hs
     have hs := And.intro hx48d hs
     refine dg 14 1 1 [1, 3, 4, 63] hs mix ?_
     refine cnd h hs (fun hs h => ?_) (fun hs h => ?_)
     ·
      refine rg [2] hs ?_
      exact rt h hs hcalm hO
     refine sk [1, 3, 4] hs hK44 ?_
     clear hK44
     obtain ⟨hg51, h⟩ := Zae h
     refine rl [1, 3, 4] hs (fun e s => Vl40 ml40 e s (Nat.lt_succ_self _)) ?_
     exact ⟨(x4_l40 + 1), ([]), Rl40, ef hs, ef hs, hO, h⟩
    ·
     clear h; rintro e st ⟨Xk37, Rk37, rfl, rfl, hO, h⟩
     rw [Zfd] at h
     refine td hN hNR hNL hcalm hO ?_
     apply Zab 1 [3]
     rw [Zaa]; simp +decide only [go_sem, Nat.reduceAdd, hb8, hb20, hb22, hb24, hb31, hb33, hb35, Vl.cs_eqs a0]
     (repeat' apply And.intro) <;> first | refine hK5 _ _ ⟨(Vl.mk a0.kind a0.int a0.scale a0.text a0.list ([])), ([.val (.int .i64 a0.kind), .val (.int .i64 a0.int), .val (.int .i64 a0.scale), .val (.string a0.text), .list (a0.list.map avV) .none, .list ([]) .full]), ([]), Rk37, by first | rfl | (simp +decide only [go_sem, Nat.reduceAdd, hb8, hb20, hb22, hb24, hb31, hb33, hb35, Vl.cs_eqs a0, Vl.cs_mks, Ty.cs_mks]; done), by first | rfl | (simp +decide only [go_sem, Nat.reduceAdd, hb8, hb20, hb22, hb24, hb31, hb33, hb35, Vl.cs_eqs a0, Vl.cs_mks, Ty.cs_mks]; done), hO, by first | rfl | (simp +decide only [go_sem, Nat.reduceAdd, hb8, hb20, hb22, hb24, hb31, hb33, hb35, Vl.cs_eqs a0, Vl.cs_mks, Ty.cs_mks]; done), h⟩ | exact cl
   have hb35 := hs.1
   refine rg [1, 3, 65] hs ?_
   refine cnd h hs (fun hs h => ?_) (fun hs h => ?_)
   ·
    have hb53 := hs.1
    apply Zac; intro K54 hK54
    refine rg [3, 70] hs ?_
    refine cnd h hs (fun hs h => ?_) (fun hs h => ?_)
    ·
     have hb56 := hs.1
     refine rg [2] hs ?_
     exact rt h hs hcalm hO
    have hb56 := hs.1
    refine sk [3] hs hK54 ?_
    clear hK54
    apply Zab 1 [3]
    rw [Zaa]; simp +decide only [go_sem, Nat.reduceAdd, hb8, hb20, hb22, hb24, hb31, hb33, hb35, hb53, hb56, Vl.cs_eqs a0]
    (repeat' apply And.intro) <;> first | refine hK5 _ _ ⟨(Vl.mk a0.kind a0.int a0.scale ((⟨#[]⟩ : ByteArray)) ([]) a0.fields), ([.val (.int .i64 a0.kind), .val (.int .i64 a0.int), .val (.int .i64 a0.scale), .val (.string ((⟨#[]⟩ : ByteArray))), .list ([]) .full, .list (a0.fields.map avF) .none]), ([]), Rk14, by first | rfl | (simp +decide only [go_sem, Nat.reduceAdd, hb8, hb20, hb22, hb24, hb31, hb33, hb35, hb53, hb56, Vl.cs_eqs a0, Vl.cs_mks, Ty.cs_mks]; done), by first | rfl | (simp +decide only [go_sem, Nat.reduceAdd, hb8, hb20, hb22, hb24, hb31, hb33, hb35, hb53, hb56, Vl.cs_eqs a0, Vl.cs_mks, Ty.cs_mks]; done), hO, by first | rfl | (simp +decide only [go_sem, Nat.reduceAdd, hb8, hb20, hb22, hb24, hb31, hb33, hb35, hb53, hb56, Vl.cs_eqs a0, Vl.cs_mks, Ty.cs_mks]; done), h⟩ | exact cl
   have hb53 := hs.1
   refine sk [3] hs hK5 ?_
   exact ⟨a0, _, ([]), Rk14, ef hs, ef hs, hO, ef hs, h⟩
 ·
  clear h; rintro e st ⟨b1_k4, cb1_k4, Xk4, Rk4, rfl, rfl, hO, hr0, h⟩
  rw [Za6] at h
  refine ZfL (B.length + 1) (by first | rfl | (simp only [ZfO, ZeB, ZfD, ZeX]; rfl)) hr0 ?_; simp +decide only [go_sem, Nat.reduceAdd]
  show awp _ _ _ _ _ _ _ _ [(3, true, .box (B.length + 1) 0)] ⟨B ++ ([a0.cs, b1_k4.cs] ++ Xk4), Rk4, L⟩
  refine td hN hNR hNL hcalm hO ?_
  refine rg [2] hs ?_
  exact rt h hs hcalm hO
def Zb0 (a0 : Int × ByteArray × Int × Ty × List Vl) (a1 : ByteArray) : Bool :=
 sEq a0.2.1 a1
theorem ZhR (w0 : World) (B : List (List AV)) (Rw : List RowA) (L : List LoopA) (a0 : Int × ByteArray × Int × Ty × List Vl) (la1 : Nat) (a1 : ByteArray) (hla1 : B[la1]? = some ([.val (.string a1)])) (r : Bool) (h : Zb0 a0 a1 = r) :
  ACalls Tryz.prog w0 203 [.agg (.val (.int .i64 a0.1) :: (.val (.string a0.2.1) :: (.val (.int .i64 a0.2.2.1) :: ((a0.2.2.2.1.cs) ++ ([.list (a0.2.2.2.2.map avV) .none]))))), .box la1 0] ⟨B, Rw, L⟩ fun x st => x = .val (.bool r) ∧ st = ⟨B, Rw, L⟩ := by
 rw [Zb0] at h
 refine hd [.tmp 3] Tryz.func203 Tryz.ntmps203 fun M0 W0 hN hNR hNL hcalm hu hO hs => ?_
 simp only [Zal]
 have hltla1 := (List.getElem?_eq_some_iff.1 hla1).1
 have hs := And.intro (Zag hla1) hs
 refine rg [1, 2] hs ?_
 refine rg [3] hs ?_
 apply Zaj; simp +decide only [go_sem, Nat.reduceAdd, Zag hla1]
 subst h
 first | refine Zaz hcalm rfl hO.pre ev ⟨?_, rfl⟩ | refine Za5 hcalm rfl hO.pre ev ⟨?_, rfl⟩
 first | rfl | (simp +decide only [go_sem, Nat.reduceAdd, Zag hla1]; done) | (simp +decide only [go_sem, Nat.reduceAdd, Vl.cs, Ty.cs, Zag hla1]; done)
theorem Zhr (w0 : World) (B : List (List AV)) (Rw : List RowA) (L : List LoopA) (a0 : Int × ByteArray × Int × Ty × List Vl) (la1 : Nat) (a1 : ByteArray) (hla1 : B[la1]? = some ([.val (.string a1)])) :
  ACalls Tryz.prog w0 203 [.agg (.val (.int .i64 a0.1) :: (.val (.string a0.2.1) :: (.val (.int .i64 a0.2.2.1) :: ((a0.2.2.2.1.cs) ++ ([.list (a0.2.2.2.2.map avV) .none]))))), .box la1 0] ⟨B, Rw, L⟩ fun x st => x = .val (.bool (Zb0 a0 a1)) ∧ st = ⟨B, Rw, L⟩ := ZhR w0 B Rw L a0 la1 a1 hla1 _ rfl
def Zbz (n : Nat) (a0 : Ty) (a1 : ByteArray) : Option ((Int × ByteArray × Int × Ty × List Vl) × Bool) :=
 (ZaQ n a0.fields (fun (x0 : Int × ByteArray × Int × Ty × List Vl) => some (Zb0 x0 a1))).bind fun y3 =>
 if decide (y3 < 0) then
  some (((0, (⟨#[]⟩ : ByteArray), 0, Ty.mk 0 0 0 0 ([]) ([]) ([]), []), false))
 else
  (idx a0.fields y3).bind fun x9 =>
  some ((x9, true))
theorem Zcl (w0 : World) (n : Nat) (B : List (List AV)) (Rw : List RowA) (L : List LoopA) (a0 : Ty) (a1 : ByteArray) (r : (Int × ByteArray × Int × Ty × List Vl) × Bool) (h : Zbz n a0 a1 = some r) :
  ACalls Tryz.prog w0 159 [.agg (a0.cs), .val (.string a1)] ⟨B, Rw, L⟩ fun x st => x = .tup [.agg (.val (.int .i64 r.1.1) :: (.val (.string r.1.2.1) :: (.val (.int .i64 r.1.2.2.1) :: ((r.1.2.2.2.1.cs) ++ ([.list (r.1.2.2.2.2.map avV) .none]))))), .val (.bool r.2)] ∧ st = ⟨B, Rw, L⟩ := by
 rw [Zbz] at h
 refine hd [.cell 4 54, .tmp 5] Tryz.func159 Tryz.ntmps159 fun M0 W0 hN hNR hNL hcalm hu hO hs => ?_
 simp only [Zal]
 refine rg [2, 3, 4] hs ?_
 obtain ⟨y3, hy3, h⟩ := bind_some h
 refine rc 2 [2, 4, 6] hs ?_; intro K2 hK2
 refine Zad _ (Zbd w0 n _ _ _ a0.fields 203 [.box (B.length + 1) 0] (fun (x0 : Int × ByteArray × Int × Ty × List Vl) => some (Zb0 x0 a1)) (fun x0 r hx B' rows' hB' hR' => by cases hx; exact Zhr w0 _ _ _ x0 _ a1 (ZbC hB' ev)) _ hy3) (hv hs) ?_
 refine ne hs hK2 ?_
 clear hK2
 apply Zac; intro K4 hK4
 refine rg [2, 4, 6, 12] hs ?_
 refine cnd h hs (fun hs h => ?_) (fun hs h => ?_)
 ·
  have hb6 := hs.1
  apply Zac; intro K7 hK7
  apply Zab 1 [4, 5]
  rw [Zaa]; simp +decide only [go_sem, Nat.reduceAdd, hb6, ZaW, Zat, Zar]
  (repeat' apply And.intro) <;> first | refine hK7 _ _ ?_ | exact cl
  clear hK7
  exact rt h hs hcalm hO
 have hb6 := hs.1
 refine sk [2, 4, 6] hs hK4 ?_
 clear hK4
 obtain ⟨x9, hx9, h⟩ := bind_some h
 obtain ⟨hx9a, hx9b, hx9c⟩ := Zam hx9
 have hx9d := Zao (f := Zdz) hx9c
 have hs := And.intro hx9d hs
 refine rg [4, 5] hs ?_
 exact rt h hs hcalm hO
def ZeD (n : Nat) (again_l29 : Int → (List (ByteArray × Vl)) → Option Vl) (x56_l29 : Int) (b3_k37_5 : List (ByteArray × Vl)) (b4_k37 : ByteArray × Vl) : Option Vl :=
 if (b3_k37_5.length + 1) * 104 ≤ 140737488355328 ∧ b3_k37_5.length + 1 ≤ 4611686018427387904 then
  if I64 (x56_l29 + 1) then
   again_l29 (x56_l29 + 1) (b3_k37_5 ++ ([b4_k37]))
  else none
 else none
def ZcK (n : Nat) (a1 : Vl) (b3_k4_4 : List Vl) (b3_k4_5 : List (ByteArray × Vl)) : Option Vl :=
 some (Vl.mk a1.kind a1.int a1.scale a1.text b3_k4_4 b3_k4_5)
def ZeG (n : Nat) (a0 : Ty) (a1 : Vl) (a2 : Ty → Vl → Option Vl) : Nat → Int → (List Vl) → Option Vl
 | 0, _, _ => none
 | m + 1, x31_l10, b3_l10_4 =>
  if decide (x31_l10 < ((a1.list.length : Int))) then
   (idx a1.list x31_l10).bind fun x16 =>
   (idx a0.elem 0).bind fun x17 =>
   (a2 x17 x16).bind fun y18 =>
   if (b3_l10_4.length + 1) * 88 ≤ 140737488355328 ∧ b3_l10_4.length + 1 ≤ 4611686018427387904 then
    if I64 (x31_l10 + 1) then
     (ZeG n a0 a1 a2 m) (x31_l10 + 1) (b3_l10_4 ++ ([y18]))
    else none
   else none
  else
   ZcK n a1 b3_l10_4 a1.fields
def ZcW (n : Nat) (a0 : Ty) (a1 : Vl) (a2 : Ty → Vl → Option Vl) : Nat → Int → (List (ByteArray × Vl)) → Option Vl
 | 0, _, _ => none
 | m + 1, x56_l29, b3_l29_5 =>
  if decide (x56_l29 < ((a1.fields.length : Int))) then
   (idx a1.fields x56_l29).bind fun x35 =>
   (Zbz n a0 x35.1).bind fun y40 =>
   if y40.2 then
    (a2 y40.1.2.2.2.1 x35.2).bind fun y43 =>
    ZeD n (ZcW n a0 a1 a2 m) x56_l29 b3_l29_5 ((x35.1, y43))
   else
    ZeD n (ZcW n a0 a1 a2 m) x56_l29 b3_l29_5 x35
  else
   ZcK n a1 a1.list b3_l29_5
def Zhd (n : Nat) (a0 : Ty) (a1 : Vl) (a2 : Ty → Vl → Option Vl) : Option Vl :=
 if (decide (a0.kind = 8)) && (decide (((a0.elem.length : Int)) = 1)) then
  ZeG n a0 a1 a2 n 0 ([])
 else
  if decide (a0.kind = 9) then
   ZcW n a0 a1 a2 n 0 ([])
  else
   if decide (a0.kind = 10) then
    (Zbz n a0 a1.text).bind fun y52 =>
    if y52.2 then
     (idx a1.list 0).bind fun x55 =>
     (a2 y52.1.2.2.2.1 x55).bind fun y56 =>
     ZcK n a1 ([y56]) a1.fields
    else
     ZcK n a1 a1.list a1.fields
   else
    ZcK n a1 a1.list a1.fields
theorem Zl3 (w0 : World) (n : Nat) (B : List (List AV)) (Rw : List RowA) (L : List LoopA) (a0 : Ty) (a1 : Vl) (fa2 : FuncId) (ca2 : List AV) (a2 : Ty → Vl → Option Vl) (ha2 : ∀ (x0 : Ty) (x1 : Vl) r, a2 x0 x1 = some r → ∀ B' rows, B <+: B' → Rw <+: rows → ACalls Tryz.prog w0 fa2 ([.agg (x0.cs), .agg (x1.cs)] ++ ca2) ⟨B', rows, L⟩ fun v s => v = .agg (r.cs) ∧ s = ⟨B', rows, L⟩) (r : Vl) (h : Zhd n a0 a1 a2 = some r) :
  ACalls Tryz.prog w0 138 [.agg (a0.cs), .agg (a1.cs), .clo fa2 ca2] ⟨B, Rw, L⟩ fun x st => x = .agg (r.cs) ∧ st = ⟨B, Rw, L⟩ := by
 rw [Zhd] at h
 refine hd [.cell 6 46] Tryz.func138 Tryz.ntmps138 fun M0 W0 hN hNR hNL hcalm hu hO hs => ?_
 simp only [Zal]
 have hU_a2 := Za0 (hu (.clo fa2 ca2) (by simp))
 refine rg [2, 3, 4, 6] hs ?_
 refine rg [2, 3, 4, 6, 7] hs ?_
 refine Zak (fun e st => ∃ (b3_k4_4 : List Vl) (b3_k4_5 : List (ByteArray × Vl)) (ab3_k4_4 : AV) (ab3_k4_5 : AV), Ck e st B Rw L [(6, true, .box (B.length + 2) 0), (7, true, .box (B.length + 3) 0)] [a0.cs, a1.cs, [.val (.int .i64 0), .val (.int .i64 0), .val (.int .i64 0), .val (.string ((⟨#[]⟩ : ByteArray))), .list ([]) .full, .list ([]) .full], [.val (.int .i64 a1.kind), .val (.int .i64 a1.int), .val (.int .i64 a1.scale), .val (.string a1.text), ab3_k4_4, ab3_k4_5]] [] (ab3_k4_4.pub = .list (b3_k4_4.map avV) .none ∧ ab3_k4_5.pub = .list (b3_k4_5.map avF) .none ∧ ZcK n a1 b3_k4_4 b3_k4_5 = some r)) ?_ ?_
 ·
  intro K5 hK5
  apply Zaf
  refine rg [2, 3, 4, 6, 7, 17] hs ?_
  refine cnd h hs (fun hs h => ?_) (fun hs h => ?_)
  ·
   have hb7 := hs.1
   apply Zac; intro K8 hK8
   apply Zab 1 [2, 3, 4, 6, 7]
   rw [Zaa]; simp +decide only [go_sem, Nat.reduceAdd, hb7, Vl.cs_eqs a1]
   (repeat' apply And.intro) <;> first | refine hK8 _ _ ?_ | exact cl
   clear hK8
   apply Zac; intro K9 hK9
   apply Zab 1 [2, 3, 6, 7, 29, 30, 31]
   rw [Zaa]; simp +decide only [go_sem, Nat.reduceAdd, hb7, Vl.cs_eqs a1]
   (repeat' apply And.intro) <;> first | refine hK9 _ _ ?_ | exact cl
   clear hK9
   apply Zaf
   refine Zap (fun m e st => ∃ (x31_l10 : Int) (b3_l10_4 : List Vl) (ob3_l10_4 : Ev.Own), Ck e st B Rw L [(2, true, .clo fa2 ca2), (3, true, .box B.length 0), (6, true, .box (B.length + 2) 0), (7, true, .box (B.length + 3) 0), (29, true, .list (a1.list.map avV) .none), (30, true, .val (.int .i64 ((a1.list.length : Int)))), (31, true, .val (.int .i64 x31_l10))] [a0.cs, a1.cs, [.val (.int .i64 0), .val (.int .i64 0), .val (.int .i64 0), .val (.string ((⟨#[]⟩ : ByteArray))), .list ([]) .full, .list ([]) .full], [.val (.int .i64 a1.kind), .val (.int .i64 a1.int), .val (.int .i64 a1.scale), .val (.string a1.text), .list (b3_l10_4.map avV) ob3_l10_4, .list (a1.fields.map avF) .none]] [(6, b3_l10_4.length, ob3_l10_4)] (ZeG n a0 a1 a2 m x31_l10 b3_l10_4 = some r)) n ⟨0, ([]), .full, ([]), Rw, by first | rfl | (simp +decide only [go_sem, Nat.reduceAdd, hb7, Vl.cs_eqs a1]; done), by first | rfl | (simp +decide only [go_sem, Nat.reduceAdd, hb7, Vl.cs_eqs a1]; done), Owns.of_eq ((hO).full 6 0) (by first | rfl | simp only [List.length_append, List.length_cons, List.length_nil, List.length_map, Nat.zero_add, Nat.add_zero]), h⟩ ?_
   rintro ml10 e st ⟨x31_l10, b3_l10_4, ob3_l10_4, Xl10, Rl10, rfl, rfl, hO, h⟩ Ul10 Vl10
   cases ml10 with
   | zero => cases h
   | succ ml10 =>
   rw [ZeG] at h
   have hU := hO.unders
   simp only [List.mem_cons, List.not_mem_nil, or_false, forall_eq_or_imp, forall_eq] at hU
   refine Zas hN hNR hNL rfl hcalm hO (by (simp +decide only [go_sem, Nat.reduceAdd]) <;> (try (repeat' apply And.intro)) <;> first | omega | assumption | exact hU_a2 _ _ _ (by omega) (by have := hO.len; omega) (by omega)) (by (simp +decide only [go_sem, Nat.reduceAdd, Za2]) <;> (try (repeat' apply And.intro)) <;> first | omega | assumption | exact hU_a2 _ _ _ (by omega) (by have := hO.len; omega) (by omega)) ?_
   apply Zac; intro K11 hK11
   apply Zab 1 [2, 3, 6, 7, 29, 30, 31, 32]
   rw [Zaa]; simp +decide only [go_sem, Nat.reduceAdd, hb7, Vl.cs_eqs a1]
   (repeat' apply And.intro) <;> first | refine hK11 _ _ ?_ | exact cl
   clear hK11
   apply Zac; intro K12 hK12
   refine Zav (decide (x31_l10 < ((a1.list.length : Int)))) ev (by first | (simp +decide only [go_sem, Nat.reduceAdd, hb7, Vl.cs_eqs a1]; done) | (simp +decide only [go_sem, Nat.reduceAdd, hb7, Vl.cs_eqs a1]; rfl)) (fun hb13 => ?_) (fun hb13 => ?_)
   rotate_left
   ·
    replace h := ZaD h hb13
    refine sx [6, 7] hs hK5 ?_
    exact ⟨b3_l10_4, a1.fields, (.list (b3_l10_4.map avV) ob3_l10_4), (.list (a1.fields.map avF) .none), ([]), Rl10, by first | rfl | (simp +decide only [go_sem, Nat.reduceAdd, hb7, Vl.cs_eqs a1, hb13]; done), by first | rfl | (simp +decide only [go_sem, Nat.reduceAdd, hb7, Vl.cs_eqs a1, hb13]; done), (hO).sub (List.sublist_append_left [] [(6, b3_l10_4.length, ob3_l10_4)]), by first | rfl | (simp +decide only [go_sem, Nat.reduceAdd, hb7, Vl.cs_eqs a1, hb13]; done), by first | rfl | (simp +decide only [go_sem, Nat.reduceAdd, hb7, Vl.cs_eqs a1, hb13]; done), h⟩
   replace h := ZaC h hb13
   refine sk [2, 3, 6, 7, 29, 30, 31] hs hK12 ?_
   clear hK12
   apply Zac; intro K14 hK14
   apply Zaf
   apply Zac; intro K15 hK15
   obtain ⟨x16, hx16a, hx16b, hx16d, h⟩ := ix avV h
   apply Zab 1 [2, 3, 6, 7, 9, 29, 30, 31]
   rw [Zaa]; simp +decide only [go_sem, Nat.reduceAdd, hb7, Vl.cs_eqs a1, hb13, hx16d]
   (repeat' apply And.intro) <;> first | refine hK15 _ _ ?_ | exact cl
   clear hK15
   obtain ⟨x17, hx17a, hx17b, hx17d, h⟩ := ix avT h
   have hx17e : (a0.elem.map avT).getD 0 .junk = _ := hx17d
   obtain ⟨y18, hy18, h⟩ := bind_some h
   have hpr19 := hO.pre
   obtain ⟨hg20, h⟩ := Zae h
   obtain ⟨o21, rows22, hO, hap23⟩ := hO.append (P := Tryz.prog) Zlx (by rw [ZhE]; rfl) (by decide) 1 hg20.1 hg20.2
   replace hap23 := fun (ys : List AV) B L o2 => hap23 (b3_l10_4.map avV) ys B L o2 (by first | rfl | simp only [List.length_map, List.length_nil, List.length_append, List.length_cons, Nat.zero_add])
   replace hap23 := fun (y : AV) B L o2 => hap23 [y] B L o2 (by first | rfl | simp only [List.length_map, List.length_nil, List.length_cons]) ev
   try simp only [List.mem_singleton, List.mem_cons, List.not_mem_nil, or_false, forall_eq_or_imp, forall_eq, List.map_append, List.map_cons, List.map_nil, Zeu, Zez, Zey, Zex, Zev, Zed, Zc4, Zc8, Zew, ZbJ, ZbM, Zc7, Zc3, Zc2] at hap23
   apply Zaw mix 10 2 1 [2, 3, 6, 7, 29, 30, 31] (by kernel_rfl)
   rw [Zaa]; simp +decide only [go_sem, Nat.reduceAdd, hb7, Vl.cs_eqs a1, hb13, hx16d, hx17d, hx17e, hap23]
   (repeat' apply And.intro) <;> first | refine Zdl _ (ha2 x17 x16 _ hy18 _ _ (by first | exact List.prefix_append _ _ | exact List.prefix_refl _) hpr19) (by first | rfl | (simp +decide only [go_sem, Nat.reduceAdd, hb7, Vl.cs_eqs a1, hb13, hx16d, hx17d, hx17e, hap23]; done) | (simp +decide only [go_sem, Nat.reduceAdd, Vl.cs, Ty.cs, hb7, Vl.cs_eqs a1, hb13, hx16d, hx17d, hx17e, hap23]; done)) ?_ | exact cl
   rw [Zaa]; simp +decide only [go_sem, Nat.reduceAdd, hb7, Vl.cs_eqs a1, hb13, hx16d, hx17d, hx17e, hap23]
   (repeat' with_reducible apply And.intro) <;> first | (rw [Zaa]; simp +decide only [go_sem, Nat.reduceAdd, hb7, Vl.cs_eqs a1, hb13, hx16d, hx17d, hx17e, hap23]) | exact cl
   (repeat' apply And.intro) <;> first | refine hK14 _ _ ?_ | exact cl
   clear hK14
   obtain ⟨hg24, h⟩ := Zae h
   apply Zab 1 [2, 3, 6, 7, 29, 30, 31]
   rw [Zaa]; simp +decide only [go_sem, Nat.reduceAdd, hb7, Vl.cs_eqs a1, hb13, hx16d, hx17d, hx17e, hap23]
   (repeat' apply And.intro) <;> first | refine Vl10 ml10 _ _ (Nat.lt_succ_self ml10) ⟨(x31_l10 + 1), (b3_l10_4 ++ ([y18])), o21, ([x16.cs]), rows22, by first | rfl | (simp +decide only [go_sem, Nat.reduceAdd, hb7, Vl.cs_eqs a1, hb13, hx16d, hx17d, hx17e, hap23]; done), by first | rfl | (simp +decide only [go_sem, Nat.reduceAdd, hb7, Vl.cs_eqs a1, hb13, hx16d, hx17d, hx17e, hap23]; done), Owns.of_eq (hO) (by first | rfl | simp only [List.length_append, List.length_cons, List.length_nil, List.length_map, Nat.zero_add, Nat.add_zero]), h⟩ | exact cl
  have hb7 := hs.1
  refine rg [2, 3, 4, 6, 7, 48] hs ?_
  refine cnd h hs (fun hs h => ?_) (fun hs h => ?_)
  ·
   have hb26 := hs.1
   apply Zac; intro K27 hK27
   apply Zab 1 [2, 3, 4, 6, 7]
   rw [Zaa]; simp +decide only [go_sem, Nat.reduceAdd, hb7, hb26, Vl.cs_eqs a1]
   (repeat' apply And.intro) <;> first | refine hK27 _ _ ?_ | exact cl
   clear hK27
   apply Zac; intro K28 hK28
   apply Zab 1 [2, 3, 6, 7, 54, 55, 56]
   rw [Zaa]; simp +decide only [go_sem, Nat.reduceAdd, hb7, hb26, Vl.cs_eqs a1]
   (repeat' apply And.intro) <;> first | refine hK28 _ _ ?_ | exact cl
   clear hK28
   apply Zaf
   refine Zap (fun m e st => ∃ (x56_l29 : Int) (b3_l29_5 : List (ByteArray × Vl)) (ob3_l29_5 : Ev.Own), Ck e st B Rw L [(2, true, .clo fa2 ca2), (3, true, .box B.length 0), (6, true, .box (B.length + 2) 0), (7, true, .box (B.length + 3) 0), (54, true, .list (a1.fields.map avF) .none), (55, true, .val (.int .i64 ((a1.fields.length : Int)))), (56, true, .val (.int .i64 x56_l29))] [a0.cs, a1.cs, [.val (.int .i64 0), .val (.int .i64 0), .val (.int .i64 0), .val (.string ((⟨#[]⟩ : ByteArray))), .list ([]) .full, .list ([]) .full], [.val (.int .i64 a1.kind), .val (.int .i64 a1.int), .val (.int .i64 a1.scale), .val (.string a1.text), .list (a1.list.map avV) .none, .list (b3_l29_5.map avF) ob3_l29_5]] [(7, b3_l29_5.length, ob3_l29_5)] (ZcW n a0 a1 a2 m x56_l29 b3_l29_5 = some r)) n ⟨0, ([]), .full, ([]), Rw, by first | rfl | (simp +decide only [go_sem, Nat.reduceAdd, hb7, hb26, Vl.cs_eqs a1]; done), by first | rfl | (simp +decide only [go_sem, Nat.reduceAdd, hb7, hb26, Vl.cs_eqs a1]; done), Owns.of_eq ((hO).full 7 0) (by first | rfl | simp only [List.length_append, List.length_cons, List.length_nil, List.length_map, Nat.zero_add, Nat.add_zero]), h⟩ ?_
   rintro ml29 e st ⟨x56_l29, b3_l29_5, ob3_l29_5, Xl29, Rl29, rfl, rfl, hO, h⟩ Ul29 Vl29
   cases ml29 with
   | zero => cases h
   | succ ml29 =>
   rw [ZcW] at h
   have hU := hO.unders
   simp only [List.mem_cons, List.not_mem_nil, or_false, forall_eq_or_imp, forall_eq] at hU
   refine Zas hN hNR hNL rfl hcalm hO (by (simp +decide only [go_sem, Nat.reduceAdd]) <;> (try (repeat' apply And.intro)) <;> first | omega | assumption | exact hU_a2 _ _ _ (by omega) (by have := hO.len; omega) (by omega)) (by (simp +decide only [go_sem, Nat.reduceAdd, Za2]) <;> (try (repeat' apply And.intro)) <;> first | omega | assumption | exact hU_a2 _ _ _ (by omega) (by have := hO.len; omega) (by omega)) ?_
   apply Zac; intro K30 hK30
   apply Zab 1 [2, 3, 6, 7, 54, 55, 56, 57]
   rw [Zaa]; simp +decide only [go_sem, Nat.reduceAdd, hb7, hb26, Vl.cs_eqs a1]
   (repeat' apply And.intro) <;> first | refine hK30 _ _ ?_ | exact cl
   clear hK30
   apply Zac; intro K31 hK31
   refine Zav (decide (x56_l29 < ((a1.fields.length : Int)))) ev (by first | (simp +decide only [go_sem, Nat.reduceAdd, hb7, hb26, Vl.cs_eqs a1]; done) | (simp +decide only [go_sem, Nat.reduceAdd, hb7, hb26, Vl.cs_eqs a1]; rfl)) (fun hb32 => ?_) (fun hb32 => ?_)
   rotate_left
   ·
    replace h := ZaD h hb32
    refine sx [6, 7] hs hK5 ?_
    exact ⟨a1.list, b3_l29_5, (.list (a1.list.map avV) .none), (.list (b3_l29_5.map avF) ob3_l29_5), ([]), Rl29, by first | rfl | (simp +decide only [go_sem, Nat.reduceAdd, hb7, hb26, Vl.cs_eqs a1, hb32]; done), by first | rfl | (simp +decide only [go_sem, Nat.reduceAdd, hb7, hb26, Vl.cs_eqs a1, hb32]; done), (hO).sub (List.sublist_append_left [] [(7, b3_l29_5.length, ob3_l29_5)]), by first | rfl | (simp +decide only [go_sem, Nat.reduceAdd, hb7, hb26, Vl.cs_eqs a1, hb32]; done), by first | rfl | (simp +decide only [go_sem, Nat.reduceAdd, hb7, hb26, Vl.cs_eqs a1, hb32]; done), h⟩
   replace h := ZaC h hb32
   refine sk [2, 3, 6, 7, 54, 55, 56] hs hK31 ?_
   clear hK31
   apply Zac; intro K33 hK33
   apply Zaf
   apply Zac; intro K34 hK34
   obtain ⟨x35, hx35a, hx35b, hx35d, h⟩ := ix avF h
   apply Zab 1 [2, 3, 6, 7, 11, 54, 55, 56]
   rw [Zaa]; simp +decide only [go_sem, Nat.reduceAdd, hb7, hb26, Vl.cs_eqs a1, hb32, hx35d]
   (repeat' apply And.intro) <;> first | refine hK34 _ _ ?_ | exact cl
   clear hK34
   refine Zak (fun e st => ∃ (b3_k37_5 : List (ByteArray × Vl)) (b4_k37 : ByteArray × Vl) (ob3_k37_5 : Ev.Own) (cb4_k37 : List AV), Ck e st B Rw L [(2, true, .clo fa2 ca2), (3, true, .box B.length 0), (6, true, .box (B.length + 2) 0), (7, true, .box (B.length + 3) 0), (11, true, .box (B.length + 4) 0), (54, true, .list (a1.fields.map avF) .none), (55, true, .val (.int .i64 ((a1.fields.length : Int)))), (56, true, .val (.int .i64 x56_l29))] [a0.cs, a1.cs, [.val (.int .i64 0), .val (.int .i64 0), .val (.int .i64 0), .val (.string ((⟨#[]⟩ : ByteArray))), .list ([]) .full, .list ([]) .full], [.val (.int .i64 a1.kind), .val (.int .i64 a1.int), .val (.int .i64 a1.scale), .val (.string a1.text), .list (a1.list.map avV) .none, .list (b3_k37_5.map avF) ob3_k37_5], cb4_k37] [(7, b3_k37_5.length, ob3_k37_5)] (cb4_k37.map AV.pubCell = .val (.string b4_k37.1) :: (b4_k37.2.cs) ∧ ZeD n (ZcW n a0 a1 a2 ml29) x56_l29 b3_k37_5 b4_k37 = some r)) ?_ ?_
   ·
    intro K38 hK38
    apply Zac; intro K39 hK39
    obtain ⟨y40, hy40, h⟩ := bind_some h
    apply Zab 2 [2, 3, 6, 7, 11, 12, 13, 54, 55, 56]
    rw [Zaa]; simp +decide only [go_sem, Nat.reduceAdd, hb7, hb26, Vl.cs_eqs a1, hb32, hx35d]
    (repeat' apply And.intro) <;> first | refine Zad _ (Zcl w0 n _ _ _ a0 x35.1 _ hy40) (by first | rfl | (simp +decide only [go_sem, Nat.reduceAdd, hb7, hb26, Vl.cs_eqs a1, hb32, hx35d]; done) | (simp +decide only [go_sem, Nat.reduceAdd, Vl.cs, Ty.cs, hb7, hb26, Vl.cs_eqs a1, hb32, hx35d]; done)) ?_ | exact cl
    rw [Zaa]; simp +decide only [go_sem, Nat.reduceAdd, hb7, hb26, Vl.cs_eqs a1, hb32, hx35d]
    (repeat' apply And.intro) <;> first | refine hK39 _ _ ?_ | exact cl
    clear hK39
    apply Zac; intro K41 hK41
    apply Zab 1 [2, 3, 6, 7, 11, 12, 54, 55, 56, 67]
    rw [Zaa]; simp +decide only [go_sem, Nat.reduceAdd, hb7, hb26, Vl.cs_eqs a1, hb32, hx35d]
    (repeat' apply And.intro) <;> first | refine hK41 _ _ ?_ | exact cl
    clear hK41
    refine Zav (y40.2) ev (by first | (simp +decide only [go_sem, Nat.reduceAdd, hb7, hb26, Vl.cs_eqs a1, hb32, hx35d]; done) | (simp +decide only [go_sem, Nat.reduceAdd, hb7, hb26, Vl.cs_eqs a1, hb32, hx35d]; rfl)) (fun hb42 => ?_) (fun hb42 => ?_)
    ·
     replace h := ZaC h hb42
     obtain ⟨y43, hy43, h⟩ := bind_some h
     apply Zab 2 [2, 3, 6, 7, 11, 54, 55, 56]
     rw [Zaa]; simp +decide only [go_sem, Nat.reduceAdd, hb7, hb26, Vl.cs_eqs a1, hb32, hx35d, hb42, Vl.cs_eqs x35.2, Vl.cs_eqs y43]
     (repeat' apply And.intro) <;> first | refine Zdl _ (ha2 y40.1.2.2.2.1 x35.2 _ hy43 _ _ (by first | exact List.prefix_append _ _ | exact List.prefix_refl _) hO.pre) (by first | rfl | (simp +decide only [go_sem, Nat.reduceAdd, hb7, hb26, Vl.cs_eqs a1, hb32, hx35d, hb42, Vl.cs_eqs x35.2, Vl.cs_eqs y43]; done) | (simp +decide only [go_sem, Nat.reduceAdd, Vl.cs, Ty.cs, hb7, hb26, Vl.cs_eqs a1, hb32, hx35d, hb42, Vl.cs_eqs x35.2, Vl.cs_eqs y43]; done)) ?_ | exact cl
     rw [Zaa]; simp +decide only [go_sem, Nat.reduceAdd, hb7, hb26, Vl.cs_eqs a1, hb32, hx35d, hb42, Vl.cs_eqs x35.2, Vl.cs_eqs y43]
     (repeat' apply And.intro) <;> first | refine hK38 _ _ ⟨b3_l29_5, ((x35.1, y43)), ob3_l29_5, ([.val (.string x35.1), .val (.int .i64 y43.kind), .val (.int .i64 y43.int), .val (.int .i64 y43.scale), .val (.string y43.text), .list (y43.list.map avV) .none, .list (y43.fields.map avF) .none]), ([.val (.int .i64 y40.1.1) :: (.val (.string y40.1.2.1) :: (.val (.int .i64 y40.1.2.2.1) :: ((y40.1.2.2.2.1.cs) ++ ([.list (y40.1.2.2.2.2.map avV) .none]))))]), Rl29, by first | rfl | (simp +decide only [go_sem, Nat.reduceAdd, hb7, hb26, Vl.cs_eqs a1, hb32, hx35d, hb42, Vl.cs_eqs x35.2, Vl.cs_eqs y43, Vl.cs_mks, Ty.cs_mks]; done), by first | rfl | (simp +decide only [go_sem, Nat.reduceAdd, hb7, hb26, Vl.cs_eqs a1, hb32, hx35d, hb42, Vl.cs_eqs x35.2, Vl.cs_eqs y43, Vl.cs_mks, Ty.cs_mks]; done), Owns.of_eq (hO) (by first | rfl | simp only [List.length_append, List.length_cons, List.length_nil, List.length_map, Nat.zero_add, Nat.add_zero]), by first | rfl | (simp +decide only [go_sem, Nat.reduceAdd, hb7, hb26, Vl.cs_eqs a1, hb32, hx35d, hb42, Vl.cs_eqs x35.2, Vl.cs_eqs y43, Vl.cs_mks, Ty.cs_mks]; done), h⟩ | exact cl
    replace h := ZaD h hb42
    refine sk [2, 3, 6, 7, 11, 54, 55, 56] hs hK38 ?_
    exact ⟨b3_l29_5, x35, ob3_l29_5, (.val (.string x35.1) :: (x35.2.cs)), ([.val (.int .i64 y40.1.1) :: (.val (.string y40.1.2.1) :: (.val (.int .i64 y40.1.2.2.1) :: ((y40.1.2.2.2.1.cs) ++ ([.list (y40.1.2.2.2.2.map avV) .none]))))]), Rl29, by first | rfl | (simp +decide only [go_sem, Nat.reduceAdd, hb7, hb26, Vl.cs_eqs a1, hb32, hx35d, hb42, Vl.cs_mks, Ty.cs_mks]; done), by first | rfl | (simp +decide only [go_sem, Nat.reduceAdd, hb7, hb26, Vl.cs_eqs a1, hb32, hx35d, hb42, Vl.cs_mks, Ty.cs_mks]; done), Owns.of_eq (hO) (by first | rfl | simp only [List.length_append, List.length_cons, List.length_nil, List.length_map, Nat.zero_add, Nat.add_zero]), by first | rfl | (simp +decide only [go_sem, Nat.reduceAdd, hb7, hb26, Vl.cs_eqs a1, hb32, hx35d, hb42, Vl.cs_mks, Ty.cs_mks]; done), h⟩
   ·
    clear h; rintro e st ⟨b3_k37_5, b4_k37, ob3_k37_5, cb4_k37, Xk37, Rk37, rfl, rfl, hO, hr0, h⟩
    rw [ZeD] at h
    refine ZfL (B.length + 4) (by first | rfl | (simp only [ZfO, ZeB, ZfD, ZeX]; rfl)) hr0 ?_; simp +decide only [go_sem, Nat.reduceAdd]
    show awp _ _ _ _ _ _ _ _ [(2, true, .clo fa2 ca2), (3, true, .box B.length 0), (6, true, .box (B.length + 2) 0), (7, true, .box (B.length + 3) 0), (11, true, .box (B.length + 4) 0), (54, true, .list (a1.fields.map avF) .none), (55, true, .val (.int .i64 ((a1.fields.length : Int)))), (56, true, .val (.int .i64 x56_l29))] ⟨B ++ ([a0.cs, a1.cs, [.val (.int .i64 0), .val (.int .i64 0), .val (.int .i64 0), .val (.string ((⟨#[]⟩ : ByteArray))), .list ([]) .full, .list ([]) .full], [.val (.int .i64 a1.kind), .val (.int .i64 a1.int), .val (.int .i64 a1.scale), .val (.string a1.text), .list (a1.list.map avV) .none, .list (b3_k37_5.map avF) ob3_k37_5], .val (.string b4_k37.1) :: (b4_k37.2.cs)] ++ Xk37), Rk37, L⟩
    have hU := hO.unders
    simp only [List.mem_cons, List.not_mem_nil, or_false, forall_eq_or_imp, forall_eq] at hU
    refine Zas hN hNR hNL rfl hcalm hO (by (simp +decide only [go_sem, Nat.reduceAdd]) <;> (try (repeat' apply And.intro)) <;> first | omega | assumption | exact hU_a2 _ _ _ (by omega) (by have := hO.len; omega) (by omega)) (by (simp +decide only [go_sem, Nat.reduceAdd, Za2]) <;> (try (repeat' apply And.intro)) <;> first | omega | assumption | exact hU_a2 _ _ _ (by omega) (by have := hO.len; omega) (by omega)) ?_
    obtain ⟨hg44, h⟩ := Zae h
    obtain ⟨o45, rows46, hO, hap47⟩ := hO.append (P := Tryz.prog) ZjB (by rw [Zf6]; rfl) (by decide) 1 hg44.1 hg44.2
    replace hap47 := fun (ys : List AV) B L o2 => hap47 (b3_k37_5.map avF) ys B L o2 (by first | rfl | simp only [List.length_map, List.length_nil, List.length_append, List.length_cons, Nat.zero_add])
    replace hap47 := fun (y : AV) B L o2 => hap47 [y] B L o2 (by first | rfl | simp only [List.length_map, List.length_nil, List.length_cons]) ev
    try simp only [List.mem_singleton, List.mem_cons, List.not_mem_nil, or_false, forall_eq_or_imp, forall_eq, List.map_append, List.map_cons, List.map_nil, Zeu, Zez, Zey, Zex, Zev, Zed, Zc4, Zc8, Zew, ZbJ, ZbM, Zc7, Zc3, Zc2] at hap47
    apply Zab 1 [2, 3, 6, 7, 54, 55, 56]
    rw [Zaa]; simp +decide only [go_sem, Nat.reduceAdd, hb7, hb26, Vl.cs_eqs a1, hb32, hx35d, hap47]
    (repeat' apply And.intro) <;> first | refine hK33 _ _ ?_ | exact cl
    clear hK33
    obtain ⟨hg48, h⟩ := Zae h
    apply Zab 1 [2, 3, 6, 7, 54, 55, 56]
    rw [Zaa]; simp +decide only [go_sem, Nat.reduceAdd, hb7, hb26, Vl.cs_eqs a1, hb32, hx35d, hap47]
    (repeat' apply And.intro) <;> first | refine Vl29 ml29 _ _ (Nat.lt_succ_self ml29) ⟨(x56_l29 + 1), (b3_k37_5 ++ ([b4_k37])), o45, ([.val (.string b4_k37.1) :: (b4_k37.2.cs)]), rows46, by first | rfl | (simp +decide only [go_sem, Nat.reduceAdd, hb7, hb26, Vl.cs_eqs a1, hb32, hx35d, hap47]; done), by first | rfl | (simp +decide only [go_sem, Nat.reduceAdd, hb7, hb26, Vl.cs_eqs a1, hb32, hx35d, hap47]; done), Owns.of_eq (hO) (by first | rfl | simp only [List.length_append, List.length_cons, List.length_nil, List.length_map, Nat.zero_add, Nat.add_zero]), h⟩ | exact cl
  have hb26 := hs.1
  refine rg [2, 3, 4, 6, 7, 82] hs ?_
  refine cnd h hs (fun hs h => ?_) (fun hs h => ?_)
  ·
   have hb50 := hs.1
   obtain ⟨y52, hy52, h⟩ := bind_some h
   refine rc 2 [2, 4, 6, 7, 14, 15] hs ?_; intro K51 hK51
   refine Zad _ (Zcl w0 n _ _ _ a0 a1.text _ hy52) (hv hs) ?_
   refine ne hs hK51 ?_
   clear hK51
   refine rg [2, 4, 6, 7, 14, 93] hs ?_
   refine cnd h hs (fun hs h => ?_) (fun hs h => ?_)
   ·
    have hb54 := hs.1
    obtain ⟨x55, hx55a, hx55b, hx55d, h⟩ := ix avV h
    have hx55e : (a1.list.map avV).getD 0 .junk = _ := hx55d
    obtain ⟨y56, hy56, h⟩ := bind_some h
    apply Zaw mix 10 2 1 [6, 7] (by kernel_rfl)
    rw [Zaa]; simp +decide only [go_sem, Nat.reduceAdd, hb7, hb26, hb50, hb54, hx55d, hx55e, Vl.cs_eqs a1]
    (repeat' apply And.intro) <;> first | refine Zdl _ (ha2 y52.1.2.2.2.1 x55 _ hy56 _ _ (by first | exact List.prefix_append _ _ | exact List.prefix_refl _) hO.pre) (by first | rfl | (simp +decide only [go_sem, Nat.reduceAdd, hb7, hb26, hb50, hb54, hx55d, hx55e, Vl.cs_eqs a1]; done) | (simp +decide only [go_sem, Nat.reduceAdd, Vl.cs, Ty.cs, hb7, hb26, hb50, hb54, hx55d, hx55e, Vl.cs_eqs a1]; done)) ?_ | exact cl
    rw [Zaa]; simp +decide only [go_sem, Nat.reduceAdd, hb7, hb26, hb50, hb54, hx55d, hx55e, Vl.cs_eqs a1]
    (repeat' with_reducible apply And.intro) <;> first | (rw [Zaa]; simp +decide only [go_sem, Nat.reduceAdd, hb7, hb26, hb50, hb54, hx55d, hx55e, Vl.cs_eqs a1]) | exact cl
    (repeat' apply And.intro) <;> first | refine hK5 _ _ ⟨([y56]), a1.fields, (.list (([y56]).map avV) .full), (.list (a1.fields.map avF) .none), ([.val (.int .i64 y52.1.1) :: (.val (.string y52.1.2.1) :: (.val (.int .i64 y52.1.2.2.1) :: ((y52.1.2.2.2.1.cs) ++ ([.list (y52.1.2.2.2.2.map avV) .none]))))]), Rw, by first | rfl | (simp +decide only [go_sem, Nat.reduceAdd, hb7, hb26, hb50, hb54, hx55d, hx55e, Vl.cs_eqs a1]; done), by first | rfl | (simp +decide only [go_sem, Nat.reduceAdd, hb7, hb26, hb50, hb54, hx55d, hx55e, Vl.cs_eqs a1]; done), hO, by first | rfl | (simp +decide only [go_sem, Nat.reduceAdd, hb7, hb26, hb50, hb54, hx55d, hx55e, Vl.cs_eqs a1]; done), by first | rfl | (simp +decide only [go_sem, Nat.reduceAdd, hb7, hb26, hb50, hb54, hx55d, hx55e, Vl.cs_eqs a1]; done), h⟩ | exact cl
   have hb54 := hs.1
   refine sk [6, 7] hs hK5 ?_
   exact ⟨a1.list, a1.fields, (.list (a1.list.map avV) .none), (.list (a1.fields.map avF) .none), ([.val (.int .i64 y52.1.1) :: (.val (.string y52.1.2.1) :: (.val (.int .i64 y52.1.2.2.1) :: ((y52.1.2.2.2.1.cs) ++ ([.list (y52.1.2.2.2.2.map avV) .none]))))]), Rw, by first | rfl | (simp +decide only [go_sem, Nat.reduceAdd, hb7, hb26, hb50, hb54, Vl.cs_eqs a1]; done), by first | rfl | (simp +decide only [go_sem, Nat.reduceAdd, hb7, hb26, hb50, hb54, Vl.cs_eqs a1]; done), hO, by first | rfl | (simp +decide only [go_sem, Nat.reduceAdd, hb7, hb26, hb50, hb54, Vl.cs_eqs a1]; done), by first | rfl | (simp +decide only [go_sem, Nat.reduceAdd, hb7, hb26, hb50, hb54, Vl.cs_eqs a1]; done), h⟩
  have hb50 := hs.1
  refine sk [6, 7] hs hK5 ?_
  exact ⟨a1.list, a1.fields, (.list (a1.list.map avV) .none), (.list (a1.fields.map avF) .none), ([]), Rw, by first | rfl | (simp +decide only [go_sem, Nat.reduceAdd, hb7, hb26, hb50, Vl.cs_eqs a1]; done), by first | rfl | (simp +decide only [go_sem, Nat.reduceAdd, hb7, hb26, hb50, Vl.cs_eqs a1]; done), hO, by first | rfl | (simp +decide only [go_sem, Nat.reduceAdd, hb7, hb26, hb50, Vl.cs_eqs a1]; done), by first | rfl | (simp +decide only [go_sem, Nat.reduceAdd, hb7, hb26, hb50, Vl.cs_eqs a1]; done), h⟩
 ·
  clear h; rintro e st ⟨b3_k4_4, b3_k4_5, ab3_k4_4, ab3_k4_5, Xk4, Rk4, rfl, rfl, hO, hr0, hr1, h⟩
  rw [ZcK] at h
  refine Ziu (B.length + 3) 4 (by first | rfl | (simp only [ZfO, ZeB, ZfD, ZeX]; rfl)) rfl hr0 ?_; simp +decide only [go_sem, Nat.reduceAdd]
  refine Ziu (B.length + 3) 5 (by first | rfl | (simp only [ZfO, ZeB, ZfD, ZeX]; rfl)) rfl hr1 ?_; simp +decide only [go_sem, Nat.reduceAdd]
  show awp _ _ _ _ _ _ _ _ [(6, true, .box (B.length + 2) 0), (7, true, .box (B.length + 3) 0)] ⟨B ++ ([a0.cs, a1.cs, [.val (.int .i64 0), .val (.int .i64 0), .val (.int .i64 0), .val (.string ((⟨#[]⟩ : ByteArray))), .list ([]) .full, .list ([]) .full], [.val (.int .i64 a1.kind), .val (.int .i64 a1.int), .val (.int .i64 a1.scale), .val (.string a1.text), .list (b3_k4_4.map avV) .none, .list (b3_k4_5.map avF) .none]] ++ Xk4), Rk4, L⟩
  refine Zas hN hNR hNL rfl hcalm hO (by (simp +decide only [go_sem, Nat.reduceAdd]) <;> (try (repeat' apply And.intro)) <;> first | omega | assumption | exact hU_a2 _ _ _ (by omega) (by have := hO.len; omega) (by omega)) (by (simp +decide only [go_sem, Nat.reduceAdd, Za2]) <;> (try (repeat' apply And.intro)) <;> first | omega | assumption | exact hU_a2 _ _ _ (by omega) (by have := hO.len; omega) (by omega)) ?_
  refine rg [6] hs ?_
  exact rt h hs hcalm hO
def Zd7 (n : Nat) (again_l15 : Int → (List (ByteArray × Vl)) → Option Vl) (x56_l15 : Int) (b3_k24_5 : List (ByteArray × Vl)) (b4_k24 : ByteArray × Vl) : Option Vl :=
 if (b3_k24_5.length + 1) * 104 ≤ 140737488355328 ∧ b3_k24_5.length + 1 ≤ 4611686018427387904 then
  if I64 (x56_l15 + 1) then
   again_l15 (x56_l15 + 1) (b3_k24_5 ++ [b4_k24])
  else none
 else none
def ZfR (n : Nat) (a1 : Vl) (b3_k7_5 : List (ByteArray × Vl)) : Option Vl :=
 some (Vl.mk a1.kind a1.int a1.scale a1.text a1.list b3_k7_5)
def Zcp (n : Nat) (a0 : Ty) (a1 : Vl) (a2 : Ty → Vl → Option Vl) : Nat → Int → (List (ByteArray × Vl)) → Option Vl
 | 0, _, _ => none
 | m + 1, x56_l15, b3_l15_5 =>
  if decide (x56_l15 < ((a1.fields.length : Int))) then
   (idx a1.fields x56_l15).bind fun x22 =>
   (Zbz n a0 x22.1).bind fun y27 =>
   if y27.2 then
    (a2 y27.1.2.2.2.1 x22.2).bind fun y30 =>
    Zd7 n (Zcp n a0 a1 a2 m) x56_l15 b3_l15_5 ((x22.1, y30))
   else
    Zd7 n (Zcp n a0 a1 a2 m) x56_l15 b3_l15_5 x22
  else
   ZfR n a1 b3_l15_5
def Zgn (n : Nat) (a0 : Ty) (a1 : Vl) (a2 : Ty → Vl → Option Vl) : Option Vl :=
 if a0.kind = 9 then
  Zcp n a0 a1 a2 n 0 ([])
 else none
theorem Zk7 (w0 : World) (n : Nat) (B : List (List AV)) (Rw : List RowA) (L : List LoopA) (a0 : Ty) (a1 : Vl) (fa2 : FuncId) (ca2 : List AV) (a2 : Ty → Vl → Option Vl) (ha2 : ∀ (x0 : Ty) (x1 : Vl) r, a2 x0 x1 = some r → ∀ B' rows, B <+: B' → Rw <+: rows → ACalls Tryz.prog w0 fa2 ([.agg (x0.cs), .agg (x1.cs)] ++ ca2) ⟨B', rows, L⟩ fun v s => v = .agg (r.cs) ∧ s = ⟨B', rows, L⟩) (r : Vl) (h : Zgn n a0 a1 a2 = some r) :
  ACalls Tryz.prog w0 138 [.agg (a0.cs), .agg (a1.cs), .clo fa2 ca2] ⟨B, Rw, L⟩ fun x st => ∃ (o0 : VO) (rows : List RowA), x = .agg ([.val (.int .i64 r.kind), .val (.int .i64 r.int), .val (.int .i64 r.scale), .val (.string r.text), .list (r.list.map avV) .none, hdr o0 r.fields.length]) ∧ st = ⟨B, rows, L⟩ ∧ Owns Rw rows [] .none [(o0, 7, (r.fields).flatMap fun x => (avF x).cells)] := by
 rw [Zgn] at h
 refine ACalls.finV (ZnV [true, true, true, true, true, false] (rs := [.cell 6 46]) Tryz.func138 rfl rfl Tryz.ntmps138 (Zax Tryz.func138 rfl (by decide)) (Nat.le_of_ble_eq_true rfl) ?_)
 intro M0 W0 hN hNR hNL hcalm hu
 dsimp only at hN hNR hNL hcalm hu
 simp only [Zal]
 have hO := Owns.none Rw
 have hs := ZqH
 have hU_a2 := Za0 (hu (.clo fa2 ca2) (by simp))
 obtain ⟨hg1, h⟩ := Zae h
 have hb2 : (decide (a0.kind = 9)) = true := decide_eq_true hg1
 have hb3 : (decide (a0.kind = 8)) = false := decide_eq_false (by omega)
 have hs := And.intro hb2 hs
 have hs := And.intro hb3 hs
 refine rg [2, 3, 4, 6] hs ?_
 refine rg [2, 3, 4, 6, 7] hs ?_
 refine Zak (fun e st => ∃ (b3_k7_5 : List (ByteArray × Vl)) (ob3_k7_5 : VO) (Xk7 : List (List AV)) (Rk7 : List RowA), e = [(6, true, .box (B.length + 2) 0), (7, true, .box (B.length + 3) 0)] ∧ st = ⟨B ++ ([a0.cs, a1.cs, [.val (.int .i64 0), .val (.int .i64 0), .val (.int .i64 0), .val (.string ((⟨#[]⟩ : ByteArray))), .list ([]) .full, .list ([]) .full], [.val (.int .i64 a1.kind), .val (.int .i64 a1.int), .val (.int .i64 a1.scale), .val (.string a1.text), .list (a1.list.map avV) .none, hdr ob3_k7_5 b3_k7_5.length]] ++ Xk7), Rk7, L⟩ ∧ Owns Rw Rk7 [] .none [(ob3_k7_5, 7, b3_k7_5.flatMap fun x => (avF x).cells)] ∧ ZfR n a1 b3_k7_5 = some r) ?_ ?_
 ·
  intro K8 hK8
  apply Zaf
  refine rg [2, 3, 4, 6, 7, 17] hs ?_
  refine Zav false ev (ef hs) (fun hb10 => by cases hb10) (fun hb10 => ?_)
  refine rg [2, 3, 4, 6, 7, 48] hs ?_
  refine Zav true ev (ef hs) (fun hb12 => ?_) (fun hb12 => by cases hb12)
  apply Zac; intro K13 hK13
  apply Zab 1 [2, 3, 4, 6, 7]
  rw [Zaa]; simp +decide only [go_sem, Nat.reduceAdd, hb2, hb3, Vl.cs_eqs a1]
  (repeat' apply And.intro) <;> first | refine hK13 _ _ ?_ | exact cl
  clear hK13
  apply Zac; intro K14 hK14
  apply Zab 1 [2, 3, 6, 7, 54, 55, 56]
  rw [Zaa]; simp +decide only [go_sem, Nat.reduceAdd, hb2, hb3, Vl.cs_eqs a1]
  (repeat' apply And.intro) <;> first | refine hK14 _ _ ?_ | exact cl
  clear hK14
  apply Zaf
  refine Ziy (B.length + 3) 5 (by simp only [ZfO, ZeB, ZfD, ZeX]; rfl) rfl ?_; simp +decide only [go_sem, Nat.reduceAdd, List.set_cons_zero, List.set_cons_succ]
  have hO := hO.nilV 7
  refine Zap (fun m e st => ∃ (x56_l15 : Int) (b3_l15_5 : List (ByteArray × Vl)) (ob3_l15_5 : VO) (Xl15 : List (List AV)) (Rl15 : List RowA), e = [(2, true, .clo fa2 ca2), (3, true, .box B.length 0), (6, true, .box (B.length + 2) 0), (7, true, .box (B.length + 3) 0), (54, true, .list (a1.fields.map avF) .none), (55, true, .val (.int .i64 ((a1.fields.length : Int)))), (56, true, .val (.int .i64 x56_l15))] ∧ st = ⟨B ++ ([a0.cs, a1.cs, [.val (.int .i64 0), .val (.int .i64 0), .val (.int .i64 0), .val (.string ((⟨#[]⟩ : ByteArray))), .list ([]) .full, .list ([]) .full], [.val (.int .i64 a1.kind), .val (.int .i64 a1.int), .val (.int .i64 a1.scale), .val (.string a1.text), .list (a1.list.map avV) .none, hdr ob3_l15_5 b3_l15_5.length]] ++ Xl15), Rl15, L⟩ ∧ Owns Rw Rl15 [] .none [(ob3_l15_5, 7, b3_l15_5.flatMap fun x => (avF x).cells)] ∧ Zcp n a0 a1 a2 m x56_l15 b3_l15_5 = some r) n ⟨0, ([]), .nil, ([]), Rw, by first | rfl | (simp +decide only [go_sem, Nat.reduceAdd, hb2, hb3, Vl.cs_eqs a1]; done), by first | rfl | (simp +decide only [go_sem, Nat.reduceAdd, hb2, hb3, Vl.cs_eqs a1]; done), Owns.eqV (hO) (by first | rfl | simp only [List.flatMap_nil]), h⟩ ?_
  rintro ml15 e st ⟨x56_l15, b3_l15_5, ob3_l15_5, Xl15, Rl15, rfl, rfl, hO, h⟩ Ul15 Vl15
  cases ml15 with
  | zero => cases h
  | succ ml15 =>
  rw [Zcp] at h
  have hUv := hO.underV
  simp only [List.mem_cons, List.not_mem_nil, or_false, forall_eq_or_imp, forall_eq] at hUv
  refine Zas hN hNR hNL rfl hcalm hO (by (simp +decide only [go_sem, Nat.reduceAdd]) <;> (try (repeat' apply And.intro)) <;> first | omega | assumption | exact hU_a2 _ _ _ (by omega) (by have := hO.len; omega) (by omega)) (by (simp +decide only [go_sem, Nat.reduceAdd, Za2]) <;> (try (repeat' apply And.intro)) <;> first | omega | assumption | exact hU_a2 _ _ _ (by omega) (by have := hO.len; omega) (by omega)) ?_ (by simp only [List.mem_cons, List.not_mem_nil, or_false, forall_eq_or_imp, forall_eq]; exact Zji _ _ _ _)
  apply Zac; intro K17 hK17
  apply Zab 1 [2, 3, 6, 7, 54, 55, 56, 57]
  rw [Zaa]; simp +decide only [go_sem, Nat.reduceAdd, hb2, hb3, Vl.cs_eqs a1]
  (repeat' apply And.intro) <;> first | refine hK17 _ _ ?_ | exact cl
  clear hK17
  apply Zac; intro K18 hK18
  refine Zav (decide (x56_l15 < ((a1.fields.length : Int)))) ev (by first | (simp +decide only [go_sem, Nat.reduceAdd, hb2, hb3, Vl.cs_eqs a1]; done) | (simp +decide only [go_sem, Nat.reduceAdd, hb2, hb3, Vl.cs_eqs a1]; rfl)) (fun hb19 => ?_) (fun hb19 => ?_)
  rotate_left
  ·
   replace h := ZaD h hb19
   refine sx [6, 7] hs hK8 ?_
   exact ⟨b3_l15_5, ob3_l15_5, ([]), Rl15, by first | rfl | (simp +decide only [go_sem, Nat.reduceAdd, hb2, hb3, Vl.cs_eqs a1, hb19]; done), by first | rfl | (simp +decide only [go_sem, Nat.reduceAdd, hb2, hb3, Vl.cs_eqs a1, hb19]; done), Owns.eqV (hO) (by first | rfl | simp only [List.flatMap_nil]), h⟩
  replace h := ZaC h hb19
  refine sk [2, 3, 6, 7, 54, 55, 56] hs hK18 ?_
  clear hK18
  apply Zac; intro K20 hK20
  apply Zaf
  apply Zac; intro K21 hK21
  obtain ⟨x22, hx22a, hx22b, hx22d, h⟩ := ix avF h
  apply Zab 1 [2, 3, 6, 7, 11, 54, 55, 56]
  rw [Zaa]; simp +decide only [go_sem, Nat.reduceAdd, hb2, hb3, Vl.cs_eqs a1, hb19, hx22d]
  (repeat' apply And.intro) <;> first | refine hK21 _ _ ?_ | exact cl
  clear hK21
  refine Zak (fun e st => ∃ (b3_k24_5 : List (ByteArray × Vl)) (b4_k24 : ByteArray × Vl) (ob3_k24_5 : VO) (cb4_k24 : List AV) (Xk24 : List (List AV)) (Rk24 : List RowA), e = [(2, true, .clo fa2 ca2), (3, true, .box B.length 0), (6, true, .box (B.length + 2) 0), (7, true, .box (B.length + 3) 0), (11, true, .box (B.length + 4) 0), (54, true, .list (a1.fields.map avF) .none), (55, true, .val (.int .i64 ((a1.fields.length : Int)))), (56, true, .val (.int .i64 x56_l15))] ∧ st = ⟨B ++ ([a0.cs, a1.cs, [.val (.int .i64 0), .val (.int .i64 0), .val (.int .i64 0), .val (.string ((⟨#[]⟩ : ByteArray))), .list ([]) .full, .list ([]) .full], [.val (.int .i64 a1.kind), .val (.int .i64 a1.int), .val (.int .i64 a1.scale), .val (.string a1.text), .list (a1.list.map avV) .none, hdr ob3_k24_5 b3_k24_5.length], cb4_k24] ++ Xk24), Rk24, L⟩ ∧ Owns Rw Rk24 [] .none [(ob3_k24_5, 7, b3_k24_5.flatMap fun x => (avF x).cells)] ∧ cb4_k24.map AV.pubCell = .val (.string b4_k24.1) :: (b4_k24.2.cs) ∧ Zd7 n (Zcp n a0 a1 a2 ml15) x56_l15 b3_k24_5 b4_k24 = some r) ?_ ?_
  ·
   intro K25 hK25
   apply Zac; intro K26 hK26
   obtain ⟨y27, hy27, h⟩ := bind_some h
   apply Zab 2 [2, 3, 6, 7, 11, 12, 13, 54, 55, 56]
   rw [Zaa]; simp +decide only [go_sem, Nat.reduceAdd, hb2, hb3, Vl.cs_eqs a1, hb19, hx22d]
   (repeat' apply And.intro) <;> first | refine Zad _ (Zcl w0 n _ _ _ a0 x22.1 _ hy27) (by first | rfl | (simp +decide only [go_sem, Nat.reduceAdd, hb2, hb3, Vl.cs_eqs a1, hb19, hx22d]; done) | (simp +decide only [go_sem, Nat.reduceAdd, Vl.cs, Ty.cs, hb2, hb3, Vl.cs_eqs a1, hb19, hx22d]; done)) ?_ | exact cl
   rw [Zaa]; simp +decide only [go_sem, Nat.reduceAdd, hb2, hb3, Vl.cs_eqs a1, hb19, hx22d]
   (repeat' apply And.intro) <;> first | refine hK26 _ _ ?_ | exact cl
   clear hK26
   apply Zac; intro K28 hK28
   apply Zab 1 [2, 3, 6, 7, 11, 12, 54, 55, 56, 67]
   rw [Zaa]; simp +decide only [go_sem, Nat.reduceAdd, hb2, hb3, Vl.cs_eqs a1, hb19, hx22d]
   (repeat' apply And.intro) <;> first | refine hK28 _ _ ?_ | exact cl
   clear hK28
   refine Zav (y27.2) ev (by first | (simp +decide only [go_sem, Nat.reduceAdd, hb2, hb3, Vl.cs_eqs a1, hb19, hx22d]; done) | (simp +decide only [go_sem, Nat.reduceAdd, hb2, hb3, Vl.cs_eqs a1, hb19, hx22d]; rfl)) (fun hb29 => ?_) (fun hb29 => ?_)
   ·
    replace h := ZaC h hb29
    obtain ⟨y30, hy30, h⟩ := bind_some h
    apply Zab 2 [2, 3, 6, 7, 11, 54, 55, 56]
    rw [Zaa]; simp +decide only [go_sem, Nat.reduceAdd, hb2, hb3, Vl.cs_eqs a1, hb19, hx22d, hb29, Vl.cs_eqs x22.2, Vl.cs_eqs y30]
    (repeat' apply And.intro) <;> first | refine Zdl _ (ha2 y27.1.2.2.2.1 x22.2 _ hy30 _ _ (by first | exact List.prefix_append _ _ | exact List.prefix_refl _) hO.pre) (by first | rfl | (simp +decide only [go_sem, Nat.reduceAdd, hb2, hb3, Vl.cs_eqs a1, hb19, hx22d, hb29, Vl.cs_eqs x22.2, Vl.cs_eqs y30]; done) | (simp +decide only [go_sem, Nat.reduceAdd, Vl.cs, Ty.cs, hb2, hb3, Vl.cs_eqs a1, hb19, hx22d, hb29, Vl.cs_eqs x22.2, Vl.cs_eqs y30]; done)) ?_ | exact cl
    rw [Zaa]; simp +decide only [go_sem, Nat.reduceAdd, hb2, hb3, Vl.cs_eqs a1, hb19, hx22d, hb29, Vl.cs_eqs x22.2, Vl.cs_eqs y30]
    (repeat' apply And.intro) <;> first | refine hK25 _ _ ⟨b3_l15_5, ((x22.1, y30)), ob3_l15_5, ([.val (.string x22.1), .val (.int .i64 y30.kind), .val (.int .i64 y30.int), .val (.int .i64 y30.scale), .val (.string y30.text), .list (y30.list.map avV) .none, .list (y30.fields.map avF) .none]), ([.val (.int .i64 y27.1.1) :: (.val (.string y27.1.2.1) :: (.val (.int .i64 y27.1.2.2.1) :: ((y27.1.2.2.2.1.cs) ++ ([.list (y27.1.2.2.2.2.map avV) .none]))))]), Rl15, by first | rfl | (simp +decide only [go_sem, Nat.reduceAdd, hb2, hb3, Vl.cs_eqs a1, hb19, hx22d, hb29, Vl.cs_eqs x22.2, Vl.cs_eqs y30, Vl.cs_mks, Ty.cs_mks]; done), by first | rfl | (simp +decide only [go_sem, Nat.reduceAdd, hb2, hb3, Vl.cs_eqs a1, hb19, hx22d, hb29, Vl.cs_eqs x22.2, Vl.cs_eqs y30, Vl.cs_mks, Ty.cs_mks]; done), Owns.eqV (hO) (by first | rfl | simp only [List.flatMap_nil]), by first | rfl | (simp +decide only [go_sem, Nat.reduceAdd, hb2, hb3, Vl.cs_eqs a1, hb19, hx22d, hb29, Vl.cs_eqs x22.2, Vl.cs_eqs y30, Vl.cs_mks, Ty.cs_mks]; done), h⟩ | exact cl
   replace h := ZaD h hb29
   refine sk [2, 3, 6, 7, 11, 54, 55, 56] hs hK25 ?_
   exact ⟨b3_l15_5, x22, ob3_l15_5, (.val (.string x22.1) :: (x22.2.cs)), ([.val (.int .i64 y27.1.1) :: (.val (.string y27.1.2.1) :: (.val (.int .i64 y27.1.2.2.1) :: ((y27.1.2.2.2.1.cs) ++ ([.list (y27.1.2.2.2.2.map avV) .none]))))]), Rl15, by first | rfl | (simp +decide only [go_sem, Nat.reduceAdd, hb2, hb3, Vl.cs_eqs a1, hb19, hx22d, hb29, Vl.cs_mks, Ty.cs_mks]; done), by first | rfl | (simp +decide only [go_sem, Nat.reduceAdd, hb2, hb3, Vl.cs_eqs a1, hb19, hx22d, hb29, Vl.cs_mks, Ty.cs_mks]; done), Owns.eqV (hO) (by first | rfl | simp only [List.flatMap_nil]), by first | rfl | (simp +decide only [go_sem, Nat.reduceAdd, hb2, hb3, Vl.cs_eqs a1, hb19, hx22d, hb29, Vl.cs_mks, Ty.cs_mks]; done), h⟩
  ·
   clear h; rintro e st ⟨b3_k24_5, b4_k24, ob3_k24_5, cb4_k24, Xk24, Rk24, rfl, rfl, hO, hr0, h⟩
   rw [Zd7] at h
   refine ZfL (B.length + 4) (by first | rfl | (simp only [ZfO, ZeB, ZfD, ZeX]; rfl)) hr0 ?_; simp +decide only [go_sem, Nat.reduceAdd]
   show awp _ _ _ _ _ _ _ _ [(2, true, .clo fa2 ca2), (3, true, .box B.length 0), (6, true, .box (B.length + 2) 0), (7, true, .box (B.length + 3) 0), (11, true, .box (B.length + 4) 0), (54, true, .list (a1.fields.map avF) .none), (55, true, .val (.int .i64 ((a1.fields.length : Int)))), (56, true, .val (.int .i64 x56_l15))] ⟨B ++ ([a0.cs, a1.cs, [.val (.int .i64 0), .val (.int .i64 0), .val (.int .i64 0), .val (.string ((⟨#[]⟩ : ByteArray))), .list ([]) .full, .list ([]) .full], [.val (.int .i64 a1.kind), .val (.int .i64 a1.int), .val (.int .i64 a1.scale), .val (.string a1.text), .list (a1.list.map avV) .none, hdr ob3_k24_5 b3_k24_5.length], .val (.string b4_k24.1) :: (b4_k24.2.cs)] ++ Xk24), Rk24, L⟩
   have hUv := hO.underV
   simp only [List.mem_cons, List.not_mem_nil, or_false, forall_eq_or_imp, forall_eq] at hUv
   refine Zas hN hNR hNL rfl hcalm hO (by (simp +decide only [go_sem, Nat.reduceAdd]) <;> (try (repeat' apply And.intro)) <;> first | omega | assumption | exact hU_a2 _ _ _ (by omega) (by have := hO.len; omega) (by omega)) (by (simp +decide only [go_sem, Nat.reduceAdd, Za2]) <;> (try (repeat' apply And.intro)) <;> first | omega | assumption | exact hU_a2 _ _ _ (by omega) (by have := hO.len; omega) (by omega)) ?_ (by simp only [List.mem_cons, List.not_mem_nil, or_false, forall_eq_or_imp, forall_eq]; exact Zji _ _ _ _)
   obtain ⟨hg31, h⟩ := Zae h
   obtain ⟨o32, rows33, hO, hap34⟩ := hO.appendV (P := Tryz.prog) (n := b3_k24_5.length) (m := 1) ZjB (by rw [Zf6]; rfl) (by decide) ((Ze5 (f := avF) (sz := 7) (fun _ => by simp +decide only [go_sem]) _)) (by decide) hg31.1 hg31.2 [avF b4_k24] rfl ((b3_k24_5 ++ [b4_k24]).flatMap fun x => (avF x).cells) (by simp only [List.flatMap_append, List.flatMap_cons, List.flatMap_nil, List.append_nil, List.nil_append, Zm8])
   simp only [List.mem_singleton, forall_eq, Zeu, Zez, Zey, Zex, Zev, Zed, Zc4, Zc8, Zew, ZbJ, ZbM, Zc7, Zc3, Zc2] at hap34
   apply Zab 1 [2, 3, 6, 7, 54, 55, 56]
   rw [Zaa]; simp +decide only [go_sem, Nat.reduceAdd, hb2, hb3, Vl.cs_eqs a1, hb19, hx22d, hap34]
   (repeat' apply And.intro) <;> first | refine hK20 _ _ ?_ | exact cl
   clear hK20
   obtain ⟨hg35, h⟩ := Zae h
   apply Zab 1 [2, 3, 6, 7, 54, 55, 56]
   rw [Zaa]; simp +decide only [go_sem, Nat.reduceAdd, hb2, hb3, Vl.cs_eqs a1, hb19, hx22d, hap34]
   (repeat' apply And.intro) <;> first | refine Vl15 ml15 _ _ (Nat.lt_succ_self ml15) ⟨(x56_l15 + 1), (b3_k24_5 ++ [b4_k24]), o32, ([.val (.string b4_k24.1) :: (b4_k24.2.cs)]), rows33, by first | rfl | (simp +decide only [go_sem, Nat.reduceAdd, hb2, hb3, Vl.cs_eqs a1, hb19, hx22d, hap34]; done), by first | rfl | (simp +decide only [go_sem, Nat.reduceAdd, hb2, hb3, Vl.cs_eqs a1, hb19, hx22d, hap34]; done), Owns.eqV (hO) (by first | rfl | simp only [List.flatMap_nil]), h⟩ | exact cl
 ·
  clear h; rintro e st ⟨b3_k7_5, ob3_k7_5, Xk7, Rk7, rfl, rfl, hO, h⟩
  rw [ZfR] at h
  have hUv := hO.underV
  simp only [List.mem_cons, List.not_mem_nil, or_false, forall_eq_or_imp, forall_eq] at hUv
  refine Zas hN hNR hNL rfl hcalm hO (by (simp +decide only [go_sem, Nat.reduceAdd]) <;> (try (repeat' apply And.intro)) <;> first | omega | assumption | exact hU_a2 _ _ _ (by omega) (by have := hO.len; omega) (by omega)) (by (simp +decide only [go_sem, Nat.reduceAdd, Za2]) <;> (try (repeat' apply And.intro)) <;> first | omega | assumption | exact hU_a2 _ _ _ (by omega) (by have := hO.len; omega) (by omega)) ?_ (by simp only [List.mem_cons, List.not_mem_nil, or_false, forall_eq_or_imp, forall_eq]; exact Zji _ _ _ _)
  refine rg [6] hs ?_
  apply Zaj; simp +decide only [go_sem, Nat.reduceAdd, hb2, hb3]
  have hgt := Option.some.inj h; subst hgt
  have hUv := hO.underV
  simp only [List.mem_cons, List.not_mem_nil, or_false, forall_eq_or_imp, forall_eq] at hUv
  refine Zt0 hO hcalm rfl (by (simp +decide only [go_sem, Nat.reduceAdd, hb2, hb3]) <;> (try (repeat' apply And.intro)) <;> first | omega | assumption) (by simp only [List.mem_cons, List.not_mem_nil, or_false, forall_eq_or_imp, forall_eq]; exact Zji _ _ _ _) ⟨_, _, ?_, rfl, hO.sub (List.nil_sublist _)⟩
  first | rfl | (simp +decide only [go_sem, Nat.reduceAdd, hb2, hb3]; done) | (simp +decide only [go_sem, Nat.reduceAdd, Vl.cs, Ty.cs, hb2, hb3]; done)
def Zbm (n : Nat) (a0 : List (ByteArray × Vl)) (a1 : ByteArray) (a2 : (ByteArray × Vl) → ByteArray → Option Int) (x9_k6 : Int) : Option (Int × Bool) :=
 if decide (x9_k6 < ((a0.length : Int))) then
  (idx a0 x9_k6).bind fun x26 =>
  (a2 x26 a1).bind fun y29 =>
  some ((x9_k6, decide (y29 = 0)))
 else
  some ((x9_k6, false))
def ZaL (n : Nat) (a0 : List (ByteArray × Vl)) (a1 : ByteArray) (a2 : (ByteArray × Vl) → ByteArray → Option Int) : Nat → Int → Int → Option (Int × Bool)
 | 0, _, _ => none
 | m + 1, x9_l8, x10_l8 =>
  if decide (x9_l8 < x10_l8) then
   if I64 (x9_l8 + x10_l8) then
    if 0 ≤ (x9_l8 + x10_l8) ∧ (x9_l8 + x10_l8) ≤ 18446744073709551615 then
     if 0 ≤ (x9_l8 + x10_l8) then
      if I64 ((x9_l8 + x10_l8) / 2) then
       (idx a0 ((x9_l8 + x10_l8) / 2)).bind fun x18 =>
       (a2 x18 a1).bind fun y21 =>
       if decide (y21 < 0) then
        if I64 (((x9_l8 + x10_l8) / 2) + 1) then
         (ZaL n a0 a1 a2 m) (((x9_l8 + x10_l8) / 2) + 1) x10_l8
        else none
       else
        (ZaL n a0 a1 a2 m) x9_l8 ((x9_l8 + x10_l8) / 2)
      else none
     else none
    else none
   else none
  else
   Zbm n a0 a1 a2 x9_l8
def Zbr (n : Nat) (a0 : List (ByteArray × Vl)) (a1 : ByteArray) (a2 : (ByteArray × Vl) → ByteArray → Option Int) : Option (Int × Bool) :=
 ZaL n a0 a1 a2 n 0 ((a0.length : Int))
theorem Zel (w0 : World) (n : Nat) (B : List (List AV)) (Rw : List RowA) (L : List LoopA) (oa0 : VO) (a0 : List (ByteArray × Vl)) (hVa0 : VP Rw oa0 7 (a0.flatMap fun x => (avF x).cells)) (a1 : ByteArray) (fa2 : FuncId) (ca2 : List AV) (a2 : (ByteArray × Vl) → ByteArray → Option Int) (ha2 : ∀ (x0 : ByteArray × Vl) (x1 : ByteArray) r, a2 x0 x1 = some r → ∀ B' rows, B <+: B' → Rw <+: rows → ACalls Tryz.prog w0 fa2 ([.agg (.val (.string x0.1) :: (x0.2.cs)), .val (.string x1)] ++ ca2) ⟨B', rows, L⟩ fun v s => v = .val (.int .i64 r) ∧ s = ⟨B', rows, L⟩) (r : Int × Bool) (h : Zbr n a0 a1 a2 = some r) :
  ACalls Tryz.prog w0 139 [hdr oa0 a0.length, .val (.string a1), .clo fa2 ca2] ⟨B, Rw, L⟩ fun x st => x = .tup [.val (.int .i64 r.1), .val (.bool r.2)] ∧ st = ⟨B, Rw, L⟩ := by
 rw [Zbr] at h
 refine hd [.tmp 6, .tmp 7] Tryz.func139 Tryz.ntmps139 fun M0 W0 hN hNR hNL hcalm hu hO hs => ?_
 simp only [Zal]
 have hU_a2 := Za0 (hu (.clo fa2 ca2) (by simp))
 refine rg [0, 1, 2] hs ?_
 apply Zac; intro K2 hK2
 have hl3 := (hVa0.up hO).lenV (by decide : 0 < 7) (Ze5 (f := avF) (sz := 7) (fun _ => by simp +decide only [go_sem]) a0) Tryz.prog 44
 simp +decide only [go_sem] at hl3
 have hs := And.intro hl3 hs
 refine rl [0, 1, 2, 8] hs hK2 ?_
 clear hK2
 refine rg [0, 1, 2, 8, 9, 10] hs ?_
 refine Zak (fun e st => ∃ (x9_k6 : Int), Ck e st B Rw L [(0, true, hdr oa0 a0.length), (1, true, .val (.string a1)), (2, true, .clo fa2 ca2), (8, true, .val (.int .i64 ((a0.length : Int)))), (9, true, .val (.int .i64 x9_k6))] [] [] (Zbm n a0 a1 a2 x9_k6 = some r)) ?_ ?_
 ·
  intro K7 hK7
  apply Zaf
  refine Zap (fun m e st => ∃ (x9_l8 : Int) (x10_l8 : Int), Ck e st B Rw L [(0, true, hdr oa0 a0.length), (1, true, .val (.string a1)), (2, true, .clo fa2 ca2), (8, true, .val (.int .i64 ((a0.length : Int)))), (9, true, .val (.int .i64 x9_l8)), (10, true, .val (.int .i64 x10_l8))] [] [] (ZaL n a0 a1 a2 m x9_l8 x10_l8 = some r)) n ⟨0, ((a0.length : Int)), ([]), Rw, ef hs, ef hs, hO, h⟩ ?_
  rintro ml8 e st ⟨x9_l8, x10_l8, Xl8, Rl8, rfl, rfl, hO, h⟩ Ul8 Vl8
  cases ml8 with
  | zero => cases h
  | succ ml8 =>
  rw [ZaL] at h
  have hUhVa0 := (hVa0.up hO).under; (try simp only [Ziw] at hUhVa0)
  refine Zas hN hNR hNL rfl hcalm hO (by (simp +decide only [go_sem, Nat.reduceAdd]) <;> (try (repeat' apply And.intro)) <;> first | omega | assumption | exact hU_a2 _ _ _ (by omega) (by have := hO.len; omega) (by omega)) (by (simp +decide only [go_sem, Nat.reduceAdd, Za2]) <;> (try (repeat' apply And.intro)) <;> first | omega | assumption | exact hU_a2 _ _ _ (by omega) (by have := hO.len; omega) (by omega)) ?_
  apply Zac; intro K9 hK9
  refine rg [0, 1, 2, 8, 9, 10, 17] hs ?_
  refine cnd h hs (fun hs h => ?_) (fun hs h => ?_)
  rotate_left
  ·
   have hb11 := hs.1
   refine sx [0, 1, 2, 8, 9] hs hK7 ?_
   exact ⟨x9_l8, ([]), Rl8, ef hs, ef hs, hO, h⟩
  have hb11 := hs.1
  refine sk [0, 1, 2, 8, 9, 10] hs hK9 ?_
  clear hK9
  apply Zaf
  obtain ⟨hg13, h⟩ := Zae h
  obtain ⟨hg14, h⟩ := Zae h
  obtain ⟨hg15, h⟩ := Zae h
  obtain ⟨hg16, h⟩ := Zae h
  refine rg [0, 1, 2, 8, 9, 10, 11] hs ?_
  apply Zac; intro K17 hK17
  obtain ⟨x18, hx18, h⟩ := bind_some h
  obtain ⟨hx18a, hx18b, hx18c⟩ := Zam hx18
  obtain ⟨id19, ver20, hqx18, hix18, hvx18⟩ := (hVa0.up hO).row (by rw [(Ze5 (f := avF) (sz := 7) (fun _ => by simp +decide only [go_sem]) _)]; exact Nat.mul_pos (by omega) (by decide))
  subst hqx18
  have hnx18 := Zna (f := avF) (sz := 7) (fun _ => by simp +decide only [go_sem]) hx18c
  have hdx18 := Zdo (f := fun x => (avF x).cells) 7 (fun _ => by simp +decide only [go_sem]) hx18c
  have hLx18 := Ze5 (f := avF) (sz := 7) (fun _ => by simp +decide only [go_sem]) a0
  simp only [Zeu, Zez, Zey, Zex, Zev, Zed, Zc4, Zc8, Zew, ZbJ, ZbM, Zc7, Zc3, Zc2, ZeQ] at hnx18 hdx18 hvx18 hLx18
  obtain ⟨y21, hy21, h⟩ := bind_some h
  apply Zab 2 [0, 1, 2, 8, 9, 10, 11, 31]
  rw [Zaa]; simp +decide only [go_sem, Nat.reduceAdd, hl3, hb11, hnx18, hdx18, hvx18, hLx18, Nat.zero_add, Nat.add_zero, Option.isSome_some]
  (repeat' apply And.intro) <;> first | refine Zdl _ (ha2 x18 a1 _ hy21 _ _ (by first | exact List.prefix_append _ _ | exact List.prefix_refl _) hO.pre) (by first | rfl | (simp +decide only [go_sem, Nat.reduceAdd, hl3, hb11, hnx18, hdx18, hvx18, hLx18, Nat.zero_add, Nat.add_zero, Option.isSome_some]; done) | (simp +decide only [go_sem, Nat.reduceAdd, Vl.cs, Ty.cs, hl3, hb11, hnx18, hdx18, hvx18, hLx18, Nat.zero_add, Nat.add_zero, Option.isSome_some]; done)) ?_ | exact cl
  rw [Zaa]; simp +decide only [go_sem, Nat.reduceAdd, hl3, hb11, hnx18, hdx18, hvx18, hLx18, Nat.zero_add, Nat.add_zero, Option.isSome_some]
  (repeat' apply And.intro) <;> first | refine hK17 _ _ ?_ | exact cl
  clear hK17
  have hs := And.intro hnx18 hs
  have hs := And.intro hdx18 hs
  have hs := And.intro hvx18 hs
  have hs := And.intro hLx18 hs
  refine cnd h hs (fun hs h => ?_) (fun hs h => ?_)
  ·
   obtain ⟨hg23, h⟩ := Zae h
   refine rl [0, 1, 2, 8, 9, 10] hs (fun e s => Vl8 ml8 e s (Nat.lt_succ_self _)) ?_
   exact ⟨(((x9_l8 + x10_l8) / 2) + 1), x10_l8, ([]), Rl8, ef hs, ef hs, hO, h⟩
  refine rl [0, 1, 2, 8, 9, 10] hs (fun e s => Vl8 ml8 e s (Nat.lt_succ_self _)) ?_
  exact ⟨x9_l8, ((x9_l8 + x10_l8) / 2), ([]), Rl8, ef hs, ef hs, hO, h⟩
 ·
  clear h; rintro e st ⟨x9_k6, Xk6, Rk6, rfl, rfl, hO, h⟩
  rw [Zbm] at h
  have hUhVa0 := (hVa0.up hO).under; (try simp only [Ziw] at hUhVa0)
  refine Zas hN hNR hNL rfl hcalm hO (by (simp +decide only [go_sem, Nat.reduceAdd]) <;> (try (repeat' apply And.intro)) <;> first | omega | assumption | exact hU_a2 _ _ _ (by omega) (by have := hO.len; omega) (by omega)) (by (simp +decide only [go_sem, Nat.reduceAdd, Za2]) <;> (try (repeat' apply And.intro)) <;> first | omega | assumption | exact hU_a2 _ _ _ (by omega) (by have := hO.len; omega) (by omega)) ?_
  apply Zac; intro K24 hK24
  rcases Bool.eq_false_or_eq_true (decide (x9_k6 < ((a0.length : Int)))) with hf25 | hf25
  ·
   replace h := ZaC h hf25
   obtain ⟨x26, hx26, h⟩ := bind_some h
   obtain ⟨hx26a, hx26b, hx26c⟩ := Zam hx26
   obtain ⟨id27, ver28, hqx26, hix26, hvx26⟩ := (hVa0.up hO).row (by rw [(Ze5 (f := avF) (sz := 7) (fun _ => by simp +decide only [go_sem]) _)]; exact Nat.mul_pos (by omega) (by decide))
   subst hqx26
   have hnx26 := Zna (f := avF) (sz := 7) (fun _ => by simp +decide only [go_sem]) hx26c
   have hdx26 := Zdo (f := fun x => (avF x).cells) 7 (fun _ => by simp +decide only [go_sem]) hx26c
   have hLx26 := Ze5 (f := avF) (sz := 7) (fun _ => by simp +decide only [go_sem]) a0
   simp only [Zeu, Zez, Zey, Zex, Zev, Zed, Zc4, Zc8, Zew, ZbJ, ZbM, Zc7, Zc3, Zc2, ZeQ] at hnx26 hdx26 hvx26 hLx26
   obtain ⟨y29, hy29, h⟩ := bind_some h
   apply Zab 2 [6, 7]
   rw [Zaa]; simp +decide only [go_sem, Nat.reduceAdd, hl3, hf25, hnx26, hdx26, hvx26, hLx26, Nat.zero_add, Nat.add_zero, Option.isSome_some]
   (repeat' apply And.intro) <;> first | refine Zdl _ (ha2 x26 a1 _ hy29 _ _ (by first | exact List.prefix_append _ _ | exact List.prefix_refl _) hO.pre) (by first | rfl | (simp +decide only [go_sem, Nat.reduceAdd, hl3, hf25, hnx26, hdx26, hvx26, hLx26, Nat.zero_add, Nat.add_zero, Option.isSome_some]; done) | (simp +decide only [go_sem, Nat.reduceAdd, Vl.cs, Ty.cs, hl3, hf25, hnx26, hdx26, hvx26, hLx26, Nat.zero_add, Nat.add_zero, Option.isSome_some]; done)) ?_ | exact cl
   rw [Zaa]; simp +decide only [go_sem, Nat.reduceAdd, hl3, hf25, hnx26, hdx26, hvx26, hLx26, Nat.zero_add, Nat.add_zero, Option.isSome_some]
   (repeat' apply And.intro) <;> first | refine hK24 _ _ ?_ | exact cl
   clear hK24
   have hs := And.intro hf25 hs
   have hs := And.intro hnx26 hs
   have hs := And.intro hdx26 hs
   have hs := And.intro hvx26 hs
   have hs := And.intro hLx26 hs
   exact rt h hs hcalm hO
  ·
   replace h := ZaD h hf25
   apply Zab 2 [6, 7]
   rw [Zaa]; simp +decide only [go_sem, Nat.reduceAdd, hl3, hf25]
   (repeat' apply And.intro) <;> first | refine ZaB ?_ | exact cl
   rw [Zaa]; simp +decide only [go_sem, Nat.reduceAdd, hl3, hf25]
   (repeat' apply And.intro) <;> first | refine hK24 _ _ ?_ | exact cl
   clear hK24
   have hs := And.intro hf25 hs
   exact rt h hs hcalm hO
def Zck (rec : Ty → Vl → Option Vl) (n : Nat) (again_l23 : Int → (List (ByteArray × Vl)) → Option Vl) (x31_l23 : Int) (b3_k28_5 : List (ByteArray × Vl)) : Option Vl :=
 if I64 (x31_l23 + 1) then
  again_l23 (x31_l23 + 1) b3_k28_5
 else none
def Zek (rec : Ty → Vl → Option Vl) (n : Nat) (y12 : Vl) (b3_k20_5 : List (ByteArray × Vl)) : Option Vl :=
 some (Vl.mk y12.kind y12.int y12.scale y12.text y12.list b3_k20_5)
def Zbn (rec : Ty → Vl → Option Vl) (n : Nat) (a0 : Ty) (y12 : Vl) : Nat → Int → (List (ByteArray × Vl)) → Option Vl
 | 0, _, _ => none
 | m + 1, x31_l23, b3_l23_5 =>
  if decide (x31_l23 < ((a0.fields.length : Int))) then
   (idx a0.fields x31_l23).bind fun x31 =>
   if (!(decide (x31.2.2.1 = 3))) || (!(decide (((x31.2.2.2.2.length : Int)) = 1))) then
    Zck rec n (Zbn rec n a0 y12 m) x31_l23 b3_l23_5
   else
    (Zbr n b3_l23_5 x31.2.1 (fun (x0 : ByteArray × Vl) (x1 : ByteArray) => some (Zcn x0 x1))).bind fun y36 =>
    if !y36.2 then
     (idx x31.2.2.2.2 0).bind fun x39 =>
     if (0 ≤ y36.1 ∧ y36.1 ≤ (b3_l23_5.length : Int)) ∧ (b3_l23_5.length + 1) * 104 ≤ 140737488355328 ∧ b3_l23_5.length + 1 ≤ 4611686018427387904 then
      Zck rec n (Zbn rec n a0 y12 m) x31_l23 (ZkN b3_l23_5 y36.1 ((x31.2.1, x39)))
     else none
    else
     Zck rec n (Zbn rec n a0 y12 m) x31_l23 b3_l23_5
  else
   Zek rec n y12 b3_l23_5
def Zff (rec : Ty → Vl → Option Vl) (n : Nat) (a0 : Ty) (a1 : Vl) : Option Vl :=
 if !(decide (a1.kind = a0.kind)) then
  some (a1)
 else
  (Ze9 n a1).bind fun y7 =>
  if !y7 then
   some (a1)
  else
   if decide (a0.kind = 9) then
    (Zgn n a0 a1 (fun (x0 : Ty) (x1 : Vl) => rec x0 x1)).bind fun y12 =>
    Zbn rec n a0 y12 n 0 y12.fields
   else
    (Zhd n a0 a1 (fun (x0 : Ty) (x1 : Vl) => rec x0 x1)).bind fun y48 =>
    some (y48)
def Zd5 : Nat → Ty → Vl → Option Vl
 | 0, _, _ => none
 | n + 1, a0, a1 => Zff (Zd5 n) n a0 a1
def Zfk (w0 : World) (F : Ty → Vl → Option Vl) : Prop := ∀ (B : List (List AV)) (Rw : List RowA) (L : List LoopA) (a0 : Ty) (a1 : Vl) (r : Vl), F a0 a1 = some r → ACalls Tryz.prog w0 82 [.agg (a0.cs), .agg (a1.cs)] ⟨B, Rw, L⟩ fun x st => x = .agg (r.cs) ∧ st = ⟨B, Rw, L⟩
theorem Zia (w0 : World) (hT : Lib.Utf8Tabs 0 1 w0) (rec : Ty → Vl → Option Vl) (ih : Zfk w0 rec) (n : Nat) : Zfk w0 (Zff rec n) := by
 intro B Rw L a0 a1 r h
 rw [Zff] at h
 refine hd [.cell 4 46] Tryz.func82 Tryz.ntmps82 fun M0 W0 hN hNR hNL hcalm hu hO hs => ?_
 simp only [Zal]
 refine rg [2, 3, 4] hs ?_
 apply Zac; intro K2 hK2
 apply Zac; intro K3 hK3
 rcases Bool.eq_false_or_eq_true (!(decide (a1.kind = a0.kind))) with hf4 | hf4
 ·
  replace h := ZaC h hf4
  apply Zab 2 [2, 3, 4, 19]
  rw [Zaa]; simp +decide only [go_sem, Nat.reduceAdd, hf4]
  (repeat' apply And.intro) <;> first | refine ZaB ?_ | exact cl
  rw [Zaa]; simp +decide only [go_sem, Nat.reduceAdd, hf4]
  (repeat' apply And.intro) <;> first | refine hK3 _ _ ?_ | exact cl
  clear hK3
  have hs := And.intro hf4 hs
  refine Zav true ev (ef hs) (fun hb5 => ?_) (fun hb5 => by cases hb5)
  refine rg [4] hs ?_
  exact rt h hs hcalm hO
 ·
  replace h := ZaD h hf4
  obtain ⟨y7, hy7, h⟩ := bind_some h
  have hs := And.intro hf4 hs
  refine rk 2 [2, 3, 4, 19] hs ?_
  refine Zad _ (ZhQ w0 hT n _ _ _ a1 _ hy7) (hv hs) ?_
  refine ne hs hK3 ?_
  clear hK3
  refine cnd h hs (fun hs h => ?_) (fun hs h => ?_)
  ·
   have hb8 := hs.1
   refine rg [4] hs ?_
   exact rt h hs hcalm hO
  have hb8 := hs.1
  refine sk [2, 3, 4] hs hK2 ?_
  clear hK2
  apply Zac; intro K10 hK10
  rcases Bool.eq_false_or_eq_true (decide (a0.kind = 9)) with hf11 | hf11
  ·
   replace h := ZaC h hf11
   obtain ⟨y12, hy12, h⟩ := bind_some h
   apply Zab 2 [2, 4, 5]
   rw [Zaa]; simp +decide only [go_sem, Nat.reduceAdd, hf4, hb8, hf11]
   have hs := And.intro hf11 hs
   (repeat' apply And.intro) <;> first | (refine ZaR _ (Zk7 w0 n _ _ _ a0 a1 82 [] (fun (x0 : Ty) (x1 : Vl) => rec x0 x1) (fun x0 x1 r hx B' rows' hB' hR' => by exact ih _ _ _ x0 x1 _ hx) _ hy12) (hv hs) ?_; rintro _ _ ⟨o14, Rv15, rfl, rfl, hGRv15⟩) | exact cl
   have hO := hO.callV hGRv15
   rw [Zaa]; simp +decide only [go_sem, Nat.reduceAdd, hf4, hb8, hf11]
   (repeat' apply And.intro) <;> first | refine hK10 _ _ ?_ | exact cl
   clear hK10
   apply Zac; intro K16 hK16
   refine rg [2, 4, 5, 26] hs ?_
   refine Zav false ev (ef hs) (fun hb18 => by cases hb18) (fun hb18 => ?_)
   refine sk [2, 4, 5] hs hK16 ?_
   clear hK16
   refine Zak (fun e st => ∃ (b3_k20_5 : List (ByteArray × Vl)) (ob3_k20_5 : VO) (Xk20 : List (List AV)) (Rk20 : List RowA), e = [(4, true, .box (B.length + 2) 0), (5, true, .box (B.length + 3) 0)] ∧ st = ⟨B ++ ([a0.cs, a1.cs, [.val (.int .i64 0), .val (.int .i64 0), .val (.int .i64 0), .val (.string ((⟨#[]⟩ : ByteArray))), .list ([]) .full, .list ([]) .full], [.val (.int .i64 y12.kind), .val (.int .i64 y12.int), .val (.int .i64 y12.scale), .val (.string y12.text), .list (y12.list.map avV) .none, hdr ob3_k20_5 b3_k20_5.length]] ++ Xk20), Rk20, L⟩ ∧ Owns Rw Rk20 [] .none [(ob3_k20_5, 7, b3_k20_5.flatMap fun x => (avF x).cells)] ∧ Zek rec n y12 b3_k20_5 = some r) ?_ ?_
   ·
    intro K21 hK21
    refine rg [4, 5, 29, 30, 31] hs ?_
    apply Zaf
    refine Zap (fun m e st => ∃ (x31_l23 : Int) (b3_l23_5 : List (ByteArray × Vl)) (ob3_l23_5 : VO) (Xl23 : List (List AV)) (Rl23 : List RowA), e = [(4, true, .box (B.length + 2) 0), (5, true, .box (B.length + 3) 0), (29, true, .list (a0.fields.map Zdz) .none), (30, true, .val (.int .i64 ((a0.fields.length : Int)))), (31, true, .val (.int .i64 x31_l23))] ∧ st = ⟨B ++ ([a0.cs, a1.cs, [.val (.int .i64 0), .val (.int .i64 0), .val (.int .i64 0), .val (.string ((⟨#[]⟩ : ByteArray))), .list ([]) .full, .list ([]) .full], [.val (.int .i64 y12.kind), .val (.int .i64 y12.int), .val (.int .i64 y12.scale), .val (.string y12.text), .list (y12.list.map avV) .none, hdr ob3_l23_5 b3_l23_5.length]] ++ Xl23), Rl23, L⟩ ∧ Owns Rw Rl23 [] .none [(ob3_l23_5, 7, b3_l23_5.flatMap fun x => (avF x).cells)] ∧ Zbn rec n a0 y12 m x31_l23 b3_l23_5 = some r) n ⟨0, y12.fields, o14, ([]), Rv15, ef hs, ef hs, Owns.eqV (hO) (by first | rfl | simp only [List.flatMap_nil]), h⟩ ?_
    rintro ml23 e st ⟨x31_l23, b3_l23_5, ob3_l23_5, Xl23, Rl23, rfl, rfl, hO, h⟩ Ul23 Vl23
    cases ml23 with
    | zero => cases h
    | succ ml23 =>
    rw [Zbn] at h
    have hUv := hO.underV
    simp only [List.mem_cons, List.not_mem_nil, or_false, forall_eq_or_imp, forall_eq] at hUv
    refine Zas hN hNR hNL rfl hcalm hO (by (simp +decide only [go_sem, Nat.reduceAdd]) <;> (try (repeat' apply And.intro)) <;> first | omega | assumption) (by (simp +decide only [go_sem, Nat.reduceAdd, Za2]) <;> (try (repeat' apply And.intro)) <;> first | omega | assumption) ?_ (by simp only [List.mem_cons, List.not_mem_nil, or_false, forall_eq_or_imp, forall_eq]; exact Zji _ _ _ _)
    refine rg [4, 5, 29, 30, 31, 32] hs ?_
    apply Zac; intro K25 hK25
    refine cnd h hs (fun hs h => ?_) (fun hs h => ?_)
    rotate_left
    ·
     have hb26 := hs.1
     refine sx [4, 5] hs hK21 ?_
     exact ⟨b3_l23_5, ob3_l23_5, ([]), Rl23, ef hs, ef hs, Owns.eqV (hO) (by first | rfl | simp only [List.flatMap_nil]), h⟩
    have hb26 := hs.1
    refine sk [4, 5, 29, 30, 31] hs hK25 ?_
    clear hK25
    refine Zak (fun e st => ∃ (b3_k28_5 : List (ByteArray × Vl)) (ob3_k28_5 : VO) (Xk28 : List (List AV)) (Rk28 : List RowA), e = [(4, true, .box (B.length + 2) 0), (5, true, .box (B.length + 3) 0), (29, true, .list (a0.fields.map Zdz) .none), (30, true, .val (.int .i64 ((a0.fields.length : Int)))), (31, true, .val (.int .i64 x31_l23))] ∧ st = ⟨B ++ ([a0.cs, a1.cs, [.val (.int .i64 0), .val (.int .i64 0), .val (.int .i64 0), .val (.string ((⟨#[]⟩ : ByteArray))), .list ([]) .full, .list ([]) .full], [.val (.int .i64 y12.kind), .val (.int .i64 y12.int), .val (.int .i64 y12.scale), .val (.string y12.text), .list (y12.list.map avV) .none, hdr ob3_k28_5 b3_k28_5.length]] ++ Xk28), Rk28, L⟩ ∧ Owns Rw Rk28 [] .none [(ob3_k28_5, 7, b3_k28_5.flatMap fun x => (avF x).cells)] ∧ Zck rec n (Zbn rec n a0 y12 ml23) x31_l23 b3_k28_5 = some r) ?_ ?_
    ·
     intro K29 hK29
     apply Zaf
     obtain ⟨x31, hx31, h⟩ := bind_some h
     obtain ⟨hx31a, hx31b, hx31c⟩ := Zam hx31
     have hx31d := Zao (f := Zdz) hx31c
     have hs := And.intro hx31d hs
     refine rg [4, 5, 7, 29, 30, 31] hs ?_
     apply Zac; intro K32 hK32
     refine rg [4, 5, 7, 29, 30, 31, 43] hs ?_
     refine cnd h hs (fun hs h => ?_) (fun hs h => ?_)
     ·
      have hb34 := hs.1
      refine sx [4, 5, 29, 30, 31] hs hK29 ?_
      exact ⟨b3_l23_5, ob3_l23_5, ([.val (.int .i64 x31.1) :: (.val (.string x31.2.1) :: (.val (.int .i64 x31.2.2.1) :: ((x31.2.2.2.1.cs) ++ ([.list (x31.2.2.2.2.map avV) .none]))))]), Rl23, ef hs, ef hs, Owns.eqV (hO) (by first | rfl | simp only [List.flatMap_nil]), h⟩
     have hb34 := hs.1
     refine sk [4, 5, 7, 29, 30, 31] hs hK32 ?_
     clear hK32
     apply Zac; intro K35 hK35
     obtain ⟨y36, hy36, h⟩ := bind_some h
     refine ZmT 0 (by decide) ?_
     refine rk 2 [4, 5, 7, 8, 9, 29, 30, 31] hs ?_
     refine ZpO [false, true, true] _ (Zel w0 n _ _ _ ob3_l23_5 b3_l23_5 hO.vp x31.2.1 140 [] (fun (x0 : ByteArray × Vl) (x1 : ByteArray) => some (Zcn x0 x1)) (fun x0 x1 r hx B' rows' hB' hR' => by cases hx; exact ZhL w0 _ _ _ x0 x1) _ hy36) (hv hs) ?_
     refine ne hs hK35 ?_
     clear hK35
     refine rg [4, 5, 7, 8, 29, 30, 31, 53] hs ?_
     refine cnd h hs (fun hs h => ?_) (fun hs h => ?_)
     ·
      have hb38 := hs.1
      obtain ⟨x39, hx39a, hx39b, hx39d, h⟩ := ix avV h
      have hx39e : (x31.2.2.2.2.map avV).getD 0 .junk = _ := hx39d
      obtain ⟨hg40, h⟩ := Zae h
      obtain ⟨id41, ver42, rows43, hO, hin44⟩ := ZnG w0 hO y36.1 hg40 ((x31.2.1, x39))
      refine ZmT 0 (by decide) ?_
      apply Zaw mix 11 1 2 [4, 5, 29, 30, 31] (by kernel_rfl)
      rw [Zaa]; simp +decide only [go_sem, Nat.reduceAdd, hf4, hb8, hf11, hb26, hx31d, hb34, hb38, hx39d, hx39e, ZaW, Zat, Zar]
      (repeat' with_reducible apply And.intro) <;> first | (rw [Zaa]; simp +decide only [go_sem, Nat.reduceAdd, hf4, hb8, hf11, hb26, hx31d, hb34, hb38, hx39d, hx39e, ZaW, Zat, Zar]) | exact cl
      (repeat' apply And.intro) <;> first | (refine ZoN [false, true, true] _ (hin44 _ _ _) (by first | rfl | (simp +decide only [go_sem, Nat.reduceAdd, hf4, hb8, hf11, hb26, hx31d, hb34, hb38, hx39d, hx39e, ZaW, Zat, Zar]; done) | (simp +decide only [go_sem, Nat.reduceAdd, Vl.cs, Ty.cs, hf4, hb8, hf11, hb26, hx31d, hb34, hb38, hx39d, hx39e, ZaW, Zat, Zar]; done)) ?_; rintro _ _ ⟨rfl, rfl⟩) | exact cl
      rw [Zaa]; simp +decide only [go_sem, Nat.reduceAdd, hf4, hb8, hf11, hb26, hx31d, hb34, hb38, hx39d, hx39e, ZaW, Zat, Zar]
      have hs := And.intro hx39d hs
      have hs := And.intro hx39e hs
      (repeat' apply And.intro) <;> first | refine hK29 _ _ ⟨(ZkN b3_l23_5 y36.1 ((x31.2.1, x39))), ((.row id41 ver42)), ([.val (.int .i64 x31.1) :: (.val (.string x31.2.1) :: (.val (.int .i64 x31.2.2.1) :: ((x31.2.2.2.1.cs) ++ ([.list (x31.2.2.2.2.map avV) .none]))))]), rows43, ef hs, ef hs, Owns.eqV (hO) (by first | rfl | simp only [List.flatMap_nil]), h⟩ | exact cl
     have hb38 := hs.1
     refine sk [4, 5, 29, 30, 31] hs hK29 ?_
     exact ⟨b3_l23_5, ob3_l23_5, ([.val (.int .i64 x31.1) :: (.val (.string x31.2.1) :: (.val (.int .i64 x31.2.2.1) :: ((x31.2.2.2.1.cs) ++ ([.list (x31.2.2.2.2.map avV) .none]))))]), Rl23, ef hs, ef hs, Owns.eqV (hO) (by first | rfl | simp only [List.flatMap_nil]), h⟩
    ·
     clear h; rintro e st ⟨b3_k28_5, ob3_k28_5, Xk28, Rk28, rfl, rfl, hO, h⟩
     rw [Zck] at h
     have hUv := hO.underV
     simp only [List.mem_cons, List.not_mem_nil, or_false, forall_eq_or_imp, forall_eq] at hUv
     refine Zas hN hNR hNL rfl hcalm hO (by (simp +decide only [go_sem, Nat.reduceAdd]) <;> (try (repeat' apply And.intro)) <;> first | omega | assumption) (by (simp +decide only [go_sem, Nat.reduceAdd, Za2]) <;> (try (repeat' apply And.intro)) <;> first | omega | assumption) ?_ (by simp only [List.mem_cons, List.not_mem_nil, or_false, forall_eq_or_imp, forall_eq]; exact Zji _ _ _ _)
     obtain ⟨hg45, h⟩ := Zae h
     refine rl [4, 5, 29, 30, 31] hs (fun e s => Vl23 ml23 e s (Nat.lt_succ_self _)) ?_
     exact ⟨(x31_l23 + 1), b3_k28_5, ob3_k28_5, ([]), Rk28, ef hs, ef hs, Owns.eqV (hO) (by first | rfl | simp only [List.flatMap_nil]), h⟩
   ·
    clear h; rintro e st ⟨b3_k20_5, ob3_k20_5, Xk20, Rk20, rfl, rfl, hO, h⟩
    rw [Zek] at h
    have hUv := hO.underV
    simp only [List.mem_cons, List.not_mem_nil, or_false, forall_eq_or_imp, forall_eq] at hUv
    refine Zas hN hNR hNL rfl hcalm hO (by (simp +decide only [go_sem, Nat.reduceAdd]) <;> (try (repeat' apply And.intro)) <;> first | omega | assumption) (by (simp +decide only [go_sem, Nat.reduceAdd, Za2]) <;> (try (repeat' apply And.intro)) <;> first | omega | assumption) ?_ (by simp only [List.mem_cons, List.not_mem_nil, or_false, forall_eq_or_imp, forall_eq]; exact Zji _ _ _ _)
    refine rg [4] hs ?_
    refine Zml (B.length + 2) 5 (by first | rfl | (simp only [ZfO, ZeB]; rfl) | (simp +decide only [go_sem, Nat.reduceAdd, hf4, hb8, hf11])) (by first | rfl | (simp only [Zsb, List.length_set]; rfl)) hO true (.inl rfl) (by decide) ((Ze5 (f := avF) (sz := 7) (fun _ => by simp +decide only [go_sem]) _)) (Zr4 (f := avF) 7 (fun _ => rfl) (fun _ => by simp +decide only [go_sem]) _) (fun rows47 hO => ?_)
    simp +decide only [go_sem, Nat.reduceAdd, List.set_cons_zero, List.set_cons_succ]
    exact rt h hs hcalm hO
  ·
   replace h := ZaD h hf11
   obtain ⟨y48, hy48, h⟩ := bind_some h
   have hs := And.intro hf11 hs
   refine rk 2 [2, 4, 5] hs ?_
   refine Zad _ (Zl3 w0 n _ _ _ a0 a1 82 [] (fun (x0 : Ty) (x1 : Vl) => rec x0 x1) (fun x0 x1 r hx B' rows' hB' hR' => by exact ih _ _ _ x0 x1 _ hx) _ hy48) (hv hs) ?_
   refine ne hs hK10 ?_
   clear hK10
   apply Zac; intro K49 hK49
   refine rg [2, 4, 5, 26] hs ?_
   refine Zav true ev (ef hs) (fun hb51 => ?_) (fun hb51 => by cases hb51)
   refine rg [4] hs ?_
   exact rt h hs hcalm hO
theorem Zgj (w0 : World) (hT : Lib.Utf8Tabs 0 1 w0) : ∀ n : Nat, Zfk w0 (Zd5 n)
 | 0 => fun _ _ _ _ _ _ h => (nomatch h)
 | n + 1 => Zia w0 hT (Zd5 n) (Zgj w0 hT n) n
end Go.Proofs.YtgpmlelfkjfbiaaGreatDoor
namespace Go.Ev
open Go Go.RowKit
theorem ZiQ {i j : Nat} (h : i ≠ j) : ∀ (B : List (List AV)) (a b : List AV), (B.set i a).set j b = (B.set j b).set i a := fun B a b => List.set_comm _ _ h
theorem Ze2 (i : Nat) : ∀ (B : List (List AV)) (a b : List AV), (B.set i a).set i b = B.set i b := fun B a b => List.set_set a
theorem Zgx {B : List (List AV)} {l : Nat} {cs : List AV} (h : B[l]? = some cs) (i j : Nat) : ∀ (X : List (List AV)) (a b c : List AV), ((B.set i a).set j b ++ X).set l c = ((B.set i a).set j b).set l c ++ X := fun X a b c => List.set_append_left _ _ (by rw [List.length_set, List.length_set]; exact (List.getElem?_eq_some_iff.1 h).1)
theorem ZmZ {B : List (List AV)} {l j : Nat} {cs : List AV} (h : B[l]? = some cs) (hne : j ≠ l) :
  (∀ a b X R L o, Zcg ⟨(B.set l a).set j b ++ X, R, L⟩ (.box l o) = true) ∧ (∀ a b R L o, Zcg ⟨(B.set l a).set j b, R, L⟩ (.box l o) = true) ∧ (∀ a b X R L o, ZaM ⟨(B.set l a).set j b ++ X, R, L⟩ (.box l o) = a) ∧ (∀ a b R L o, ZaM ⟨(B.set l a).set j b, R, L⟩ (.box l o) = a) ∧
  (∀ a b X, ((B.set l a).set j b ++ X)[l]? = some a) ∧ (∀ a b, ((B.set l a).set j b)[l]? = some a) ∧ (∀ a b X, ((B.set l a).set j b ++ X).getD l [] = a) ∧ (∀ a b, ((B.set l a).set j b).getD l [] = a) := by
 have key : ∀ a, (B.set l a)[l]? = some a := fun a => List.getElem?_set_self (List.getElem?_eq_some_iff.1 h).1
 exact ⟨fun a b X R L o => (Zbo (key a) hne).1 X R L o b, fun a b R L o => (Zbo (key a) hne).2.1 R L o b, fun a b X R L o => (Zbo (key a) hne).2.2.1 X R L o b, fun a b R L o => (Zbo (key a) hne).2.2.2.1 R L o b,
  fun a b X => (Zbo (key a) hne).2.2.2.2.1 X b, fun a b => (Zbo (key a) hne).2.2.2.2.2.1 b, fun a b X => (Zbo (key a) hne).2.2.2.2.2.2.1 X b, fun a b => (Zbo (key a) hne).2.2.2.2.2.2.2 b⟩
theorem ZkQ {B : List (List AV)} {l i : Nat} {cs : List AV} (h : B[l]? = some cs) (hne : i ≠ l) :
  (∀ a b X R L o, Zcg ⟨(B.set i a).set l b ++ X, R, L⟩ (.box l o) = true) ∧ (∀ a b R L o, Zcg ⟨(B.set i a).set l b, R, L⟩ (.box l o) = true) ∧ (∀ a b X R L o, ZaM ⟨(B.set i a).set l b ++ X, R, L⟩ (.box l o) = b) ∧ (∀ a b R L o, ZaM ⟨(B.set i a).set l b, R, L⟩ (.box l o) = b) ∧
  (∀ a b X, ((B.set i a).set l b ++ X)[l]? = some b) ∧ (∀ a b, ((B.set i a).set l b)[l]? = some b) ∧ (∀ a b X, ((B.set i a).set l b ++ X).getD l [] = b) ∧ (∀ a b, ((B.set i a).set l b).getD l [] = b) := by
 have key : ∀ a b, ((B.set i a).set l b)[l]? = some b := fun a b => List.getElem?_set_self (by rw [List.length_set]; exact (List.getElem?_eq_some_iff.1 h).1)
 exact ⟨fun a b X R L o => (Zag (key a b)).1 X R L o, fun a b R L o => (Zag (key a b)).2.1 R L o, fun a b X R L o => (Zag (key a b)).2.2.1 X R L o, fun a b R L o => (Zag (key a b)).2.2.2.1 R L o,
  fun a b X => (Zag (key a b)).2.2.2.2.1 X, key, fun a b X => (Zag (key a b)).2.2.2.2.2.2.1 X, fun a b => (Zag (key a b)).2.2.2.2.2.2.2.1⟩
theorem Zm2 (B : List (List AV)) (i j : Nat) (c d : List AV) : ((B.set i c).set j d).length = B.length := by simp only [List.length_set]
@[go_sem] theorem Zuu (B X : List (List AV)) (R : List RowA) (L : List LoopA) (i j k o : Nat) (c d : List AV) : Zcg ⟨(B.set i c).set j d ++ X, R, L⟩ (.box (B.length + k) o) = decide (k < X.length) := by have h := Zov ((B.set i c).set j d) X R L k o; rwa [Zm2] at h
@[go_sem] theorem Ztx (B X : List (List AV)) (R : List RowA) (L : List LoopA) (i j o : Nat) (c d : List AV) : Zcg ⟨(B.set i c).set j d ++ X, R, L⟩ (.box B.length o) = decide (0 < X.length) := by have h := ZnU ((B.set i c).set j d) X R L o; rwa [Zm2] at h
@[go_sem] theorem Zpq (B X : List (List AV)) (i j k : Nat) (c d : List AV) : ((B.set i c).set j d ++ X).getD (B.length + k) [] = X.getD k [] := by have h := Zls (B.set i c) X j k d; rwa [List.length_set] at h
@[go_sem] theorem Zol (B X : List (List AV)) (i j : Nat) (c d : List AV) : ((B.set i c).set j d ++ X).getD B.length [] = X.getD 0 [] := by have h := ZjY (B.set i c) X j d; rwa [List.length_set] at h
@[go_sem] theorem ZsC (B X : List (List AV)) (R : List RowA) (L : List LoopA) (i j k o : Nat) (c d : List AV) : ZaM ⟨(B.set i c).set j d ++ X, R, L⟩ (.box (B.length + k) o) = X.getD k [] := Zpq B X i j k c d
@[go_sem] theorem Zq2 (B X : List (List AV)) (R : List RowA) (L : List LoopA) (i j o : Nat) (c d : List AV) : ZaM ⟨(B.set i c).set j d ++ X, R, L⟩ (.box B.length o) = X.getD 0 [] := Zol B X i j c d
@[go_sem] theorem ZwV (B X : List (List AV)) (i j k : Nat) (c d x : List AV) : ((B.set i c).set j d ++ X).set (B.length + k) x = (B.set i c).set j d ++ X.set k x := by have h := Zp7 (B.set i c) X j k d x; rwa [List.length_set] at h
@[go_sem] theorem ZvC (B X : List (List AV)) (i j : Nat) (c d x : List AV) : ((B.set i c).set j d ++ X).set B.length x = (B.set i c).set j d ++ X.set 0 x := by have h := Zob (B.set i c) X j d x; rwa [List.length_set] at h
@[go_sem] theorem ZwW (B X : List (List AV)) (i j k : Nat) (c d : List AV) : ((B.set i c).set j d ++ X)[B.length + k]? = X[k]? := by have h := ZfD (B.set i c) X j k d; rwa [List.length_set] at h
@[go_sem] theorem ZvK (B X : List (List AV)) (i j : Nat) (c d : List AV) : ((B.set i c).set j d ++ X)[B.length]? = X[0]? := by have h := ZeX (B.set i c) X j d; rwa [List.length_set] at h
theorem ZsG {P : Program} {w0 : World} {n : Nat} {M0 : Mem} {W0 : World} {ro : Option Nat} {c : Code} {Q : AQ} {e : Env} {B B' X : List (List AV)} {R : List RowA} {L : List LoopA} (h : B' = B) (k : awp P w0 n M0 W0 ro c Q e ⟨B' ++ X, R, L⟩) : awp P w0 n M0 W0 ro c Q e ⟨B ++ X, R, L⟩ := h ▸ k
end Go.Ev
namespace Go.Proofs.YtgpmlelfkjfbiaaGreatDoor
open Go Go.RowKit Go.Ev
def ZgE (a0 : ByteArray × Int) (a1 : Bool) : Option (Bool × Bool) :=
 some ((false, false))
theorem Zkz (w0 : World) (B : List (List AV)) (Rw : List RowA) (L : List LoopA) (a0 : ByteArray × Int) (la1 : Nat) (a1 : Bool) (hla1 : B[la1]? = some ([.val (.bool a1)])) (r : Bool × Bool) (h : ZgE a0 a1 = some r) :
  ACalls Tryz.prog w0 92 [.agg (.val (.string a0.1) :: ([.val (.int .i64 a0.2)])), .box la1 0] ⟨B, Rw, L⟩ fun x st => x = .val (.bool r.1) ∧ st = ⟨(B.set la1 [.val (.bool r.2)]), Rw, L⟩ := by
 rw [ZgE] at h
 refine hd [.tmp 3] Tryz.func92 Tryz.ntmps92 fun M0 W0 hN hNR hNL hcalm hu hO hs => ?_
 simp only [Zal]
 have hltla1 := (List.getElem?_eq_some_iff.1 hla1).1
 have hs := And.intro (Zag hla1) hs
 refine rg [1] hs ?_
 refine rg [] hs ?_
 refine rg [3] hs ?_
 apply Zaj; simp +decide only [go_sem, Nat.reduceAdd, Zag hla1]
 have hgt := Option.some.inj h; subst hgt
 first | refine Zaz (Zah hcalm ev) (by simp only [List.length_set]) hO.pre ev ⟨?_, rfl⟩ | refine Za5 (Zah hcalm ev) (by simp only [List.length_set]) hO.pre ev ⟨?_, rfl⟩
 first | rfl | (simp +decide only [go_sem, Nat.reduceAdd, Zag hla1]; done) | (simp +decide only [go_sem, Nat.reduceAdd, Vl.cs, Ty.cs, Zag hla1]; done)
def ZaN (a0_done : Bool) (x0_ok : Bool) (a1 : ByteArray) (a2 : Int) : Option (Bool × Bool) :=
 if !a0_done then
  (ZgE ((a1, a2)) x0_ok).bind fun y3 =>
  if !y3.1 then
   some ((true, y3.2))
  else
   some ((a0_done, y3.2))
 else
  some ((a0_done, x0_ok))
theorem ZaV (w0 : World) (B : List (List AV)) (Rw : List RowA) (L : List LoopA) (lx0_ok : Nat) (la0 : Nat) (a0_done : Bool) (hla0 : B[la0]? = some ([.clo 92 [.box lx0_ok 0], .val (.bool a0_done)])) (x0_ok : Bool) (hlx0_ok : B[lx0_ok]? = some ([.val (.bool x0_ok)])) (hne_lx0_ok_la0 : lx0_ok ≠ la0) (a1 : ByteArray) (a2 : Int) (r : Bool × Bool) (h : ZaN a0_done x0_ok a1 a2 = some r) :
  ACalls Tryz.prog w0 155 [.box la0 0, .val (.string a1), .val (.int .i64 a2)] ⟨B, Rw, L⟩ fun x st => x = .tup [] ∧ st = ⟨((B.set la0 ([.clo 92 [.box lx0_ok 0], .val (.bool r.1)])).set lx0_ok [.val (.bool r.2)]), Rw, L⟩ := by
 rw [ZaN] at h
 refine hd [] Tryz.func155 Tryz.ntmps155 fun M0 W0 hN hNR hNL hcalm hu hO hs => ?_
 simp only [Zal]
 have hltla0 := (List.getElem?_eq_some_iff.1 hla0).1
 have hltlx0_ok := (List.getElem?_eq_some_iff.1 hlx0_ok).1
 have hpf := And.intro (Zag hla0) (And.intro (Zag hlx0_ok) (And.intro (Zbo hla0 hne_lx0_ok_la0) (And.intro (Zbo hlx0_ok (Ne.symm hne_lx0_ok_la0)) (And.intro (ZiQ hne_lx0_ok_la0) (And.intro (Zgl hla0 lx0_ok) (And.intro (Zgl hlx0_ok la0) (And.intro (Zgx hla0 la0 lx0_ok) (And.intro (Zgx hlx0_ok la0 lx0_ok) (And.intro (Ze2 lx0_ok) (And.intro (Ze2 la0) (And.intro (ZmZ hla0 hne_lx0_ok_la0) (ZkQ hlx0_ok (Ne.symm hne_lx0_ok_la0)))))))))))))
 apply Zac; intro K1 hK1
 rcases Bool.eq_false_or_eq_true (!a0_done) with hf2 | hf2
 ·
  replace h := ZaC h hf2
  obtain ⟨y3, hy3, h⟩ := bind_some h
  apply Zab 2 [0, 21]
  rw [Zaa]; simp +decide only [go_sem, Nat.reduceAdd, hpf, hf2, ZaW, Zat, Zar]
  have hs := And.intro hpf hs
  have hs := And.intro hf2 hs
  (repeat' apply And.intro) <;> first | (refine ZaR _ (Zkz w0 _ _ _ ((a1, a2)) lx0_ok x0_ok (ef hs) _ hy3) (by first | rfl | (simp +decide only [go_sem, Nat.reduceAdd, hpf, hf2, ZaW, Zat, Zar]; done) | (simp +decide only [go_sem, Nat.reduceAdd, Vl.cs, Ty.cs, hpf, hf2, ZaW, Zat, Zar]; done)) ?_; rintro _ _ ⟨rfl, rfl⟩) | exact cl
  rw [Zaa]; simp +decide only [go_sem, Nat.reduceAdd, hpf, hf2, ZaW, Zat, Zar]
  (repeat' apply And.intro) <;> first | refine hK1 _ _ ?_ | exact cl
  clear hK1
  refine cnd h hs (fun hs h => ?_) (fun hs h => ?_)
  ·
   have hb4 := hs.1
   apply Zab 1 []
   rw [Zaa]; simp +decide only [go_sem, Nat.reduceAdd, hpf, hf2, hb4]
   (repeat' with_reducible apply And.intro) <;> first | exact cl | skip
   have hgt := Option.some.inj h; subst hgt
   first | refine Zaz (Zah (Zah hcalm (by (simp +decide only [go_sem, Nat.reduceAdd]) <;> (try (repeat' apply And.intro)) <;> first | omega | assumption)) (by (simp +decide only [go_sem, Nat.reduceAdd]) <;> (try (repeat' apply And.intro)) <;> first | omega | assumption)) (by simp only [List.length_set]) hO.pre ev ⟨?_, by first | rfl | (simp only [Zai hla0, Zai hlx0_ok]; done)⟩ | refine Za5 (Zah (Zah hcalm (by (simp +decide only [go_sem, Nat.reduceAdd]) <;> (try (repeat' apply And.intro)) <;> first | omega | assumption)) (by (simp +decide only [go_sem, Nat.reduceAdd]) <;> (try (repeat' apply And.intro)) <;> first | omega | assumption)) (by simp only [List.length_set]) hO.pre ev ⟨?_, by first | rfl | (simp only [Zai hla0, Zai hlx0_ok]; done)⟩
   first | rfl | (simp +decide only [go_sem, Nat.reduceAdd, hpf, hf2, hb4]; done) | (simp +decide only [go_sem, Nat.reduceAdd, Vl.cs, Ty.cs, hpf, hf2, hb4]; done)
  have hb4 := hs.1
  refine ZbU (Zce [] _) ?_ (ZaG _ _)
  apply ZaJ; simp +decide only [go_sem, Nat.reduceAdd]
  (repeat' with_reducible apply And.intro) <;> first | exact cl | skip
  have hgt := Option.some.inj h; subst hgt
  first | refine Zaz (Zah hcalm (by (simp +decide only [go_sem, Nat.reduceAdd]) <;> (try (repeat' apply And.intro)) <;> first | omega | assumption)) (by simp only [List.length_set]) hO.pre ev ⟨?_, by first | rfl | (simp only [Zai hla0, Zai hlx0_ok]; done)⟩ | refine Za5 (Zah hcalm (by (simp +decide only [go_sem, Nat.reduceAdd]) <;> (try (repeat' apply And.intro)) <;> first | omega | assumption)) (by simp only [List.length_set]) hO.pre ev ⟨?_, by first | rfl | (simp only [Zai hla0, Zai hlx0_ok]; done)⟩
  first | rfl | (simp +decide only [go_sem, Nat.reduceAdd, hpf, hf2, hb4]; done) | (simp +decide only [go_sem, Nat.reduceAdd, Vl.cs, Ty.cs, hpf, hf2, hb4]; done)
 ·
  replace h := ZaD h hf2
  apply Zab 2 [0, 21]
  rw [Zaa]; simp +decide only [go_sem, Nat.reduceAdd, hpf, hf2, ZaW, Zat, Zar]
  (repeat' apply And.intro) <;> first | refine ZaB ?_ | exact cl
  rw [Zaa]; simp +decide only [go_sem, Nat.reduceAdd, hpf, hf2, ZaW, Zat, Zar]
  (repeat' apply And.intro) <;> first | refine hK1 _ _ ?_ | exact cl
  clear hK1
  have hs := And.intro hpf hs
  have hs := And.intro hf2 hs
  refine Zav false ev (ef hs) (fun hb5 => by cases hb5) (fun hb5 => ?_)
  refine ZbU (Zce [] _) ?_ (ZaG _ _)
  apply ZaJ; simp +decide only [go_sem, Nat.reduceAdd]
  (repeat' with_reducible apply And.intro) <;> first | exact cl | skip
  have hgt := Option.some.inj h; subst hgt
  first | refine Zaz hcalm rfl hO.pre ev ⟨?_, by first | rfl | (simp only [Zai hla0, Zai hlx0_ok]; done)⟩ | refine Za5 hcalm rfl hO.pre ev ⟨?_, by first | rfl | (simp only [Zai hla0, Zai hlx0_ok]; done)⟩
  first | rfl | (simp +decide only [go_sem, Nat.reduceAdd, hpf, hf2]; done) | (simp +decide only [go_sem, Nat.reduceAdd, Vl.cs, Ty.cs, hpf, hf2]; done)
def Zba (a0_done : Bool) (x0_ok : Bool) (a1 : Ty) (a2 : ByteArray) (a3 : Int) : Option (Bool × Bool) :=
 if (decide (a3 < a1.min)) || (decide (a1.max < a3)) then
  (ZaN a0_done x0_ok a2 2).bind fun y4 =>
  some ((y4.1, y4.2))
 else
  some ((a0_done, x0_ok))
theorem ZbN (w0 : World) (B : List (List AV)) (Rw : List RowA) (L : List LoopA) (lx0_ok : Nat) (la0 : Nat) (a0_done : Bool) (hla0 : B[la0]? = some ([.clo 92 [.box lx0_ok 0], .val (.bool a0_done)])) (x0_ok : Bool) (hlx0_ok : B[lx0_ok]? = some ([.val (.bool x0_ok)])) (hne_lx0_ok_la0 : lx0_ok ≠ la0) (a1 : Ty) (a2 : ByteArray) (a3 : Int) (r : Bool × Bool) (h : Zba a0_done x0_ok a1 a2 a3 = some r) :
  ACalls Tryz.prog w0 156 [.box la0 0, .agg (a1.cs), .val (.string a2), .val (.int .i64 a3)] ⟨B, Rw, L⟩ fun x st => x = .tup [] ∧ st = ⟨((B.set la0 ([.clo 92 [.box lx0_ok 0], .val (.bool r.1)])).set lx0_ok [.val (.bool r.2)]), Rw, L⟩ := by
 rw [Zba] at h
 refine hd [] Tryz.func156 Tryz.ntmps156 fun M0 W0 hN hNR hNL hcalm hu hO hs => ?_
 simp only [Zal]
 have hltla0 := (List.getElem?_eq_some_iff.1 hla0).1
 have hltlx0_ok := (List.getElem?_eq_some_iff.1 hlx0_ok).1
 have hpf := And.intro (Zag hla0) (And.intro (Zag hlx0_ok) (And.intro (Zbo hla0 hne_lx0_ok_la0) (And.intro (Zbo hlx0_ok (Ne.symm hne_lx0_ok_la0)) (And.intro (ZiQ hne_lx0_ok_la0) (And.intro (Zgl hla0 lx0_ok) (And.intro (Zgl hlx0_ok la0) (And.intro (Zgx hla0 la0 lx0_ok) (And.intro (Zgx hlx0_ok la0 lx0_ok) (And.intro (Ze2 lx0_ok) (And.intro (Ze2 la0) (And.intro (ZmZ hla0 hne_lx0_ok_la0) (ZkQ hlx0_ok (Ne.symm hne_lx0_ok_la0)))))))))))))
 have hs := And.intro hpf hs
 refine rg [0, 2, 3, 5] hs ?_
 refine rg [0, 2, 17] hs ?_
 refine cnd h hs (fun hs h => ?_) (fun hs h => ?_)
 ·
  have hb3 := hs.1
  obtain ⟨y4, hy4, h⟩ := bind_some h
  apply Zab 2 []
  rw [Zaa]; simp +decide only [go_sem, Nat.reduceAdd, hpf, hb3]
  (repeat' apply And.intro) <;> first | (refine ZaR _ (ZaV w0 _ _ _ lx0_ok la0 a0_done (ef hs) x0_ok (ef hs) (by first | assumption | omega | (simp only [List.length_set] at *; omega)) a2 2 _ hy4) (hv hs) ?_; rintro _ _ ⟨rfl, rfl⟩) | exact cl
  rw [Zaa]; simp +decide only [go_sem, Nat.reduceAdd, hpf, hb3]
  (repeat' with_reducible apply And.intro) <;> first | exact cl | skip
  have hgt := Option.some.inj h; subst hgt
  first | refine Zaz (Zah (Zah hcalm (by (simp +decide only [go_sem, Nat.reduceAdd]) <;> (try (repeat' apply And.intro)) <;> first | omega | assumption)) (by (simp +decide only [go_sem, Nat.reduceAdd]) <;> (try (repeat' apply And.intro)) <;> first | omega | assumption)) (by simp only [List.length_set]) hO.pre ev ⟨?_, by first | rfl | (simp only [Zai hla0, Zai hlx0_ok]; done)⟩ | refine Za5 (Zah (Zah hcalm (by (simp +decide only [go_sem, Nat.reduceAdd]) <;> (try (repeat' apply And.intro)) <;> first | omega | assumption)) (by (simp +decide only [go_sem, Nat.reduceAdd]) <;> (try (repeat' apply And.intro)) <;> first | omega | assumption)) (by simp only [List.length_set]) hO.pre ev ⟨?_, by first | rfl | (simp only [Zai hla0, Zai hlx0_ok]; done)⟩
  first | rfl | (simp +decide only [go_sem, Nat.reduceAdd, hpf, hb3]; done) | (simp +decide only [go_sem, Nat.reduceAdd, Vl.cs, Ty.cs, hpf, hb3]; done)
 have hb3 := hs.1
 refine ZbU (Zce [] _) ?_ (ZaG _ _)
 apply ZaJ; simp +decide only [go_sem, Nat.reduceAdd]
 (repeat' with_reducible apply And.intro) <;> first | exact cl | skip
 have hgt := Option.some.inj h; subst hgt
 first | refine Zaz hcalm rfl hO.pre ev ⟨?_, by first | rfl | (simp only [Zai hla0, Zai hlx0_ok]; done)⟩ | refine Za5 hcalm rfl hO.pre ev ⟨?_, by first | rfl | (simp only [Zai hla0, Zai hlx0_ok]; done)⟩
 first | rfl | (simp +decide only [go_sem, Nat.reduceAdd, hpf, hb3]; done) | (simp +decide only [go_sem, Nat.reduceAdd, Vl.cs, Ty.cs, hpf, hb3]; done)
def ZeU (a0 : ByteArray) (a1 : ByteArray) : Option ByteArray :=
 if sEq a0 ((⟨#[]⟩ : ByteArray)) then
  some (a1)
 else
  if a0.size + ((⟨#[46]⟩ : ByteArray)).size ≤ 9223372036854775807 then
   if (a0 ++ ((⟨#[46]⟩ : ByteArray))).size + a1.size ≤ 9223372036854775807 then
    some ((a0 ++ ((⟨#[46]⟩ : ByteArray))) ++ a1)
   else none
  else none
theorem Zgi (w0 : World) (B : List (List AV)) (Rw : List RowA) (L : List LoopA) (a0 : ByteArray) (a1 : ByteArray) (r : ByteArray) (h : ZeU a0 a1 = some r) :
  ACalls Tryz.prog w0 202 [.val (.string a0), .val (.string a1)] ⟨B, Rw, L⟩ fun x st => x = .val (.string r) ∧ st = ⟨B, Rw, L⟩ := by
 rw [ZeU] at h
 refine hd [.tmp 4] Tryz.func202 Tryz.ntmps202 fun M0 W0 hN hNR hNL hcalm hu hO hs => ?_
 simp only [Zal]
 refine rg [0, 1] hs ?_
 apply Zac; intro K2 hK2
 refine rg [0, 1, 6] hs ?_
 refine cnd h hs (fun hs h => ?_) (fun hs h => ?_)
 ·
  refine rg [4] hs ?_
  exact rt h hs hcalm hO
 refine sk [0, 1] hs hK2 ?_
 clear hK2
 obtain ⟨hg7, h⟩ := Zae h
 have hg7s := hg7
 try simp +decide only [go_sem] at hg7s
 obtain ⟨hg8, h⟩ := Zae h
 have hg8s := hg8
 try simp +decide only [go_sem] at hg8s
 refine rg [4] hs ?_
 exact rt h hs hcalm hO
def Zbh (rec : Bool → Bool → Ty → Vl → ByteArray → Option (Bool × Bool)) (n : Nat) (again_l6 : Int → Bool → Bool → Option (Bool × Bool)) (x19_l6 : Int) (pla0_k11_1 : Bool) (plx0_ok_k11 : Bool) : Option (Bool × Bool) :=
 if I64 (x19_l6 + 1) then
  again_l6 (x19_l6 + 1) pla0_k11_1 plx0_ok_k11
 else none
def ZbG (rec : Bool → Bool → Ty → Vl → ByteArray → Option (Bool × Bool)) (n : Nat) (again_l27 : Int → Bool → Bool → Option (Bool × Bool)) (x53_l27 : Int) (pla0_k32_1 : Bool) (plx0_ok_k32 : Bool) : Option (Bool × Bool) :=
 if I64 (x53_l27 + 1) then
  again_l27 (x53_l27 + 1) pla0_k32_1 plx0_ok_k32
 else none
def Za3 (rec : Bool → Bool → Ty → Vl → ByteArray → Option (Bool × Bool)) (n : Nat) (a1 : Ty) (a2 : Vl) (a3 : ByteArray) : Nat → Int → Bool → Bool → Option (Bool × Bool)
 | 0, _, _, _ => none
 | m + 1, x53_l27, pla0_l27_1, plx0_ok_l27 =>
  if decide (x53_l27 < ((a2.fields.length : Int))) then
   (idx a2.fields x53_l27).bind fun x35 =>
   (Zbz n a1 x35.1).bind fun y37 =>
   if !y37.2 then
    (ZeU a3 x35.1).bind fun y40 =>
    (ZaN pla0_l27_1 plx0_ok_l27 y40 6).bind fun y41 =>
    ZbG rec n (Za3 rec n a1 a2 a3 m) x53_l27 y41.1 y41.2
   else
    ZbG rec n (Za3 rec n a1 a2 a3 m) x53_l27 pla0_l27_1 plx0_ok_l27
  else
   some ((pla0_l27_1, plx0_ok_l27))
def Zc1 (rec : Bool → Bool → Ty → Vl → ByteArray → Option (Bool × Bool)) (n : Nat) (a1 : Ty) (a2 : Vl) (a3 : ByteArray) (pla0_k3_1 : Bool) (plx0_ok_k3 : Bool) : Option (Bool × Bool) :=
 Za3 rec n a1 a2 a3 n 0 pla0_k3_1 plx0_ok_k3
def ZaX (rec : Bool → Bool → Ty → Vl → ByteArray → Option (Bool × Bool)) (n : Nat) (a1 : Ty) (a2 : Vl) (a3 : ByteArray) : Nat → Int → Bool → Bool → Option (Bool × Bool)
 | 0, _, _, _ => none
 | m + 1, x19_l6, pla0_l6_1, plx0_ok_l6 =>
  if decide (x19_l6 < ((a1.fields.length : Int))) then
   (idx a1.fields x19_l6).bind fun x14 =>
   (Zgk n a2 x14.2.1).bind fun y16 =>
   if y16.2 then
    (ZeU a3 x14.2.1).bind fun y19 =>
    (rec pla0_l6_1 plx0_ok_l6 x14.2.2.2.1 y16.1 y19).bind fun y20 =>
    Zbh rec n (ZaX rec n a1 a2 a3 m) x19_l6 y20.1 y20.2
   else
    if !(decide (x14.2.2.1 = 2)) then
     (ZeU a3 x14.2.1).bind fun y23 =>
     (ZaN pla0_l6_1 plx0_ok_l6 y23 5).bind fun y24 =>
     Zbh rec n (ZaX rec n a1 a2 a3 m) x19_l6 y24.1 y24.2
    else
     Zbh rec n (ZaX rec n a1 a2 a3 m) x19_l6 pla0_l6_1 plx0_ok_l6
  else
   Zc1 rec n a1 a2 a3 pla0_l6_1 plx0_ok_l6
def Zdi (rec : Bool → Bool → Ty → Vl → ByteArray → Option (Bool × Bool)) (n : Nat) (a0_done : Bool) (x0_ok : Bool) (a1 : Ty) (a2 : Vl) (a3 : ByteArray) : Option (Bool × Bool) :=
 ZaX rec n a1 a2 a3 n 0 a0_done x0_ok
theorem Zg1 (w0 : World) (rec : Bool → Bool → Ty → Vl → ByteArray → Option (Bool × Bool)) (ih : ∀ (B : List (List AV)) (Rw : List RowA) (L : List LoopA) (lx0_ok : Nat) (la0 : Nat) (a0_done : Bool) (hla0 : B[la0]? = some ([.clo 92 [.box lx0_ok 0], .val (.bool a0_done)])) (x0_ok : Bool) (hlx0_ok : B[lx0_ok]? = some ([.val (.bool x0_ok)])) (hne_lx0_ok_la0 : lx0_ok ≠ la0) (a1 : Ty) (a2 : Vl) (a3 : ByteArray) (r : Bool × Bool) (h : rec a0_done x0_ok a1 a2 a3 = some r), ACalls Tryz.prog w0 93 [.box la0 0, .agg (a1.cs), .agg (a2.cs), .val (.string a3)] ⟨B, Rw, L⟩ fun x st => x = .tup [] ∧ st = ⟨((B.set la0 ([.clo 92 [.box lx0_ok 0], .val (.bool r.1)])).set lx0_ok [.val (.bool r.2)]), Rw, L⟩) (n : Nat) (B : List (List AV)) (Rw : List RowA) (L : List LoopA) (lx0_ok : Nat) (la0 : Nat) (a0_done : Bool) (hla0 : B[la0]? = some ([.clo 92 [.box lx0_ok 0], .val (.bool a0_done)])) (x0_ok : Bool) (hlx0_ok : B[lx0_ok]? = some ([.val (.bool x0_ok)])) (hne_lx0_ok_la0 : lx0_ok ≠ la0) (a1 : Ty) (a2 : Vl) (a3 : ByteArray) (r : Bool × Bool) (h : Zdi rec n a0_done x0_ok a1 a2 a3 = some r) :
  ACalls Tryz.prog w0 158 [.box la0 0, .agg (a1.cs), .agg (a2.cs), .val (.string a3)] ⟨B, Rw, L⟩ fun x st => x = .tup [] ∧ st = ⟨((B.set la0 ([.clo 92 [.box lx0_ok 0], .val (.bool r.1)])).set lx0_ok [.val (.bool r.2)]), Rw, L⟩ := by
 rw [Zdi] at h
 refine hd [] Tryz.func158 Tryz.ntmps158 fun M0 W0 hN hNR hNL hcalm hu hO hs => ?_
 simp only [Zal]
 have hltla0 := (List.getElem?_eq_some_iff.1 hla0).1
 have hltlx0_ok := (List.getElem?_eq_some_iff.1 hlx0_ok).1
 have hpf := And.intro (Zag hla0) (And.intro (Zag hlx0_ok) (And.intro (Zbo hla0 hne_lx0_ok_la0) (And.intro (Zbo hlx0_ok (Ne.symm hne_lx0_ok_la0)) (And.intro (ZiQ hne_lx0_ok_la0) (And.intro (Zgl hla0 lx0_ok) (And.intro (Zgl hlx0_ok la0) (And.intro (Zgx hla0 la0 lx0_ok) (And.intro (Zgx hlx0_ok la0 lx0_ok) (And.intro (Ze2 lx0_ok) (And.intro (Ze2 la0) (And.intro (ZmZ hla0 hne_lx0_ok_la0) (ZkQ hlx0_ok (Ne.symm hne_lx0_ok_la0)))))))))))))
 have hs := And.intro hpf hs
 refine rg [0, 3, 5, 6] hs ?_
 refine Zak (fun e st => ∃ (pla0_k3_1 : Bool) (plx0_ok_k3 : Bool) (Xk3 : List (List AV)) (Rk3 : List RowA), e = [(0, true, .box la0 0), (3, true, .val (.string a3)), (5, true, .box B.length 0), (6, true, .box (B.length + 1) 0)] ∧ st = ⟨((B.set la0 ([.clo 92 [.box lx0_ok 0], .val (.bool pla0_k3_1)])).set lx0_ok ([.val (.bool plx0_ok_k3)])) ++ ([a1.cs, a2.cs] ++ Xk3), Rk3, L⟩ ∧ Owns Rw Rk3 [] ∧ Zc1 rec n a1 a2 a3 pla0_k3_1 plx0_ok_k3 = some r) ?_ ?_
 ·
  intro K4 hK4
  refine rg [0, 3, 5, 6, 17, 18, 19] hs ?_
  apply Zaf
  refine Zap (fun m e st => ∃ (x19_l6 : Int) (pla0_l6_1 : Bool) (plx0_ok_l6 : Bool) (Xl6 : List (List AV)) (Rl6 : List RowA), e = [(0, true, .box la0 0), (3, true, .val (.string a3)), (5, true, .box B.length 0), (6, true, .box (B.length + 1) 0), (17, true, .list (a1.fields.map Zdz) .none), (18, true, .val (.int .i64 ((a1.fields.length : Int)))), (19, true, .val (.int .i64 x19_l6))] ∧ st = ⟨((B.set la0 ([.clo 92 [.box lx0_ok 0], .val (.bool pla0_l6_1)])).set lx0_ok ([.val (.bool plx0_ok_l6)])) ++ ([a1.cs, a2.cs] ++ Xl6), Rl6, L⟩ ∧ Owns Rw Rl6 [] ∧ ZaX rec n a1 a2 a3 m x19_l6 pla0_l6_1 plx0_ok_l6 = some r) n ⟨0, a0_done, x0_ok, ([]), Rw, ef hs, ef hs, hO, h⟩ ?_
  rintro ml6 e st ⟨x19_l6, pla0_l6_1, plx0_ok_l6, Xl6, Rl6, rfl, rfl, hO, h⟩ Ul6 Vl6
  cases ml6 with
  | zero => cases h
  | succ ml6 =>
  rw [ZaX] at h
  refine Zas hN hNR hNL (by simp only [List.length_set]) (Zah (Zah hcalm (by (simp +decide only [go_sem, Nat.reduceAdd]) <;> (try (repeat' apply And.intro)) <;> first | omega | assumption)) (by (simp +decide only [go_sem, Nat.reduceAdd]) <;> (try (repeat' apply And.intro)) <;> first | omega | assumption)) hO (by (simp +decide only [go_sem, Nat.reduceAdd]) <;> (try (repeat' apply And.intro)) <;> first | omega | assumption) (by (simp +decide only [go_sem, Nat.reduceAdd, Za2]) <;> (try (repeat' apply And.intro)) <;> first | omega | assumption) ?_
  refine rg [0, 3, 5, 6, 17, 18, 19, 20] hs ?_
  apply Zac; intro K8 hK8
  refine cnd h hs (fun hs h => ?_) (fun hs h => ?_)
  rotate_left
  ·
   have hb9 := hs.1
   refine sx [0, 3, 5, 6] hs hK4 ?_
   exact ⟨pla0_l6_1, plx0_ok_l6, ([]), Rl6, ef hs, ef hs, hO, h⟩
  have hb9 := hs.1
  refine sk [0, 3, 5, 6, 17, 18, 19] hs hK8 ?_
  clear hK8
  refine Zak (fun e st => ∃ (pla0_k11_1 : Bool) (plx0_ok_k11 : Bool) (Xk11 : List (List AV)) (Rk11 : List RowA), e = [(0, true, .box la0 0), (3, true, .val (.string a3)), (5, true, .box B.length 0), (6, true, .box (B.length + 1) 0), (17, true, .list (a1.fields.map Zdz) .none), (18, true, .val (.int .i64 ((a1.fields.length : Int)))), (19, true, .val (.int .i64 x19_l6))] ∧ st = ⟨((B.set la0 ([.clo 92 [.box lx0_ok 0], .val (.bool pla0_k11_1)])).set lx0_ok ([.val (.bool plx0_ok_k11)])) ++ ([a1.cs, a2.cs] ++ Xk11), Rk11, L⟩ ∧ Owns Rw Rk11 [] ∧ Zbh rec n (ZaX rec n a1 a2 a3 ml6) x19_l6 pla0_k11_1 plx0_ok_k11 = some r) ?_ ?_
  ·
   intro K12 hK12
   apply Zaf
   obtain ⟨x14, hx14, h⟩ := bind_some h
   obtain ⟨hx14a, hx14b, hx14c⟩ := Zam hx14
   have hx14d := Zao (f := Zdz) hx14c
   have hs := And.intro hx14d hs
   refine rg [0, 3, 5, 6, 9, 17, 18, 19] hs ?_
   obtain ⟨y16, hy16, h⟩ := bind_some h
   refine rc 2 [0, 3, 5, 6, 9, 10, 11, 17, 18, 19] hs ?_; intro K15 hK15
   refine Zad _ (Zih w0 n _ _ _ a2 x14.2.1 _ hy16) (hv hs) ?_
   refine ne hs hK15 ?_
   clear hK15
   refine rg [0, 3, 5, 6, 9, 10, 17, 18, 19, 30] hs ?_
   refine cnd h hs (fun hs h => ?_) (fun hs h => ?_)
   ·
    have hb18 := hs.1
    obtain ⟨y19, hy19, h⟩ := bind_some h
    obtain ⟨y20, hy20, h⟩ := bind_some h
    apply ZfH mix [8] [0, 3, 5, 6, 17, 18, 19] (by kernel_rfl) (fun s => ∃ (X : List (List AV)) (rows : List RowA) (cla0 : List AV) (clx0_ok : List AV), s = ⟨((B.set la0 cla0).set lx0_ok clx0_ok) ++ ([a1.cs, a2.cs, .val (.int .i64 x14.1) :: (.val (.string x14.2.1) :: (.val (.int .i64 x14.2.2.1) :: ((x14.2.2.2.1.cs) ++ ([.list (x14.2.2.2.2.map avV) .none])))), y16.1.cs] ++ X), rows, L⟩) 2 (B.length + 4)
    ·
     simp +decide only [go_sem, Nat.reduceAdd]
    ·
     rintro s ⟨X, rows, cla0, clx0_ok, rfl⟩
     refine ⟨2, ?_⟩
     rw [Zaa]; simp +decide only [go_sem, Nat.reduceAdd, Zdr, hpf, hb9, hx14d, hb18]
     (repeat' apply And.intro) <;> first | refine Zad _ (Zgi w0 _ _ _ a3 x14.2.1 _ hy19) (hv hs) ?_ | exact cl
     rw [Zaa]; simp +decide only [go_sem, Nat.reduceAdd, hpf, hb9, hx14d, hb18]
     (repeat' apply And.intro) <;> first | rfl | exact cl
    ·
     refine Good.mk [8] (by kernel_rfl) ⟨[], _, _, _, by first | rfl | simp only [List.append_nil, List.nil_append]⟩ ?_ ?_
     ·
      intro h; exact absurd h (by decide)
     ·
      intro i hi; simp only [List.mem_cons, List.not_mem_nil, or_false] at hi
      subst hi
      ·
       apply ZbL rfl rfl ev
       ·
        simp +decide only [go_sem, Nat.reduceAdd, ZdI, hpf, hb9, hx14d, hb18]
        (repeat' with_reducible apply And.intro) <;> first | exact Zjm (ih _ _ _ lx0_ok la0 pla0_l6_1 (ef hs) plx0_ok_l6 (ef hs) (by first | assumption | omega | (simp only [List.length_set] at *; omega)) x14.2.2.2.1 y16.1 y19 _ hy20) (hv hs) | rfl | exact cl
       ·
        simp +decide only [go_sem, Nat.reduceAdd, hpf, hb9, hx14d, hb18]
        refine Good.mk [] (by kernel_rfl) ⟨[], _, _, _, by first | rfl | simp only [List.append_nil, List.nil_append]⟩ ?_ ?_
        ·
         intro _; apply Zbw [0, 3, 5, 6, 17, 18, 19]; first | (simp +decide only [go_sem, Nat.reduceAdd, hpf, hb9, hx14d, hb18]; done) | (simp +decide only [go_sem, Nat.reduceAdd, hpf, hb9, hx14d, hb18]; rfl)
        ·
         intro i hi; cases hi
    simp +decide only [go_sem, Nat.reduceAdd, hpf, hb9, hx14d, hb18]
    (repeat' apply And.intro) <;> first | refine hK12 _ _ ⟨y20.1, y20.2, ([.val (.int .i64 x14.1) :: (.val (.string x14.2.1) :: (.val (.int .i64 x14.2.2.1) :: ((x14.2.2.2.1.cs) ++ ([.list (x14.2.2.2.2.map avV) .none])))), y16.1.cs]), Rl6, ef hs, ef hs, hO, h⟩ | exact cl
   have hb18 := hs.1
   refine rg [0, 3, 5, 6, 9, 17, 18, 19, 42] hs ?_
   refine cnd h hs (fun hs h => ?_) (fun hs h => ?_)
   ·
    obtain ⟨y23, hy23, h⟩ := bind_some h
    obtain ⟨y24, hy24, h⟩ := bind_some h
    refine rk 3 [0, 3, 5, 6, 17, 18, 19] hs ?_
    refine Zad _ (Zgi w0 _ _ _ a3 x14.2.1 _ hy23) (hv hs) ?_
    refine nc hs ?_
    refine ZaR _ (ZaV w0 _ _ _ lx0_ok la0 pla0_l6_1 (ef hs) plx0_ok_l6 (ef hs) (by first | assumption | omega | (simp only [List.length_set] at *; omega)) y23 5 _ hy24) (hv hs) ?_; rintro _ _ ⟨rfl, rfl⟩
    refine ne hs hK12 ?_
    exact ⟨y24.1, y24.2, ([.val (.int .i64 x14.1) :: (.val (.string x14.2.1) :: (.val (.int .i64 x14.2.2.1) :: ((x14.2.2.2.1.cs) ++ ([.list (x14.2.2.2.2.map avV) .none])))), y16.1.cs]), Rl6, ef hs, ef hs, hO, h⟩
   refine sk [0, 3, 5, 6, 17, 18, 19] hs hK12 ?_
   exact ⟨pla0_l6_1, plx0_ok_l6, ([.val (.int .i64 x14.1) :: (.val (.string x14.2.1) :: (.val (.int .i64 x14.2.2.1) :: ((x14.2.2.2.1.cs) ++ ([.list (x14.2.2.2.2.map avV) .none])))), y16.1.cs]), Rl6, ef hs, ef hs, hO, h⟩
  ·
   clear h; rintro e st ⟨pla0_k11_1, plx0_ok_k11, Xk11, Rk11, rfl, rfl, hO, h⟩
   rw [Zbh] at h
   refine Zas hN hNR hNL (by simp only [List.length_set]) (Zah (Zah hcalm (by (simp +decide only [go_sem, Nat.reduceAdd]) <;> (try (repeat' apply And.intro)) <;> first | omega | assumption)) (by (simp +decide only [go_sem, Nat.reduceAdd]) <;> (try (repeat' apply And.intro)) <;> first | omega | assumption)) hO (by (simp +decide only [go_sem, Nat.reduceAdd]) <;> (try (repeat' apply And.intro)) <;> first | omega | assumption) (by (simp +decide only [go_sem, Nat.reduceAdd, Za2]) <;> (try (repeat' apply And.intro)) <;> first | omega | assumption) ?_
   obtain ⟨hg25, h⟩ := Zae h
   refine rl [0, 3, 5, 6, 17, 18, 19] hs (fun e s => Vl6 ml6 e s (Nat.lt_succ_self _)) ?_
   exact ⟨(x19_l6 + 1), pla0_k11_1, plx0_ok_k11, ([]), Rk11, ef hs, ef hs, hO, h⟩
 ·
  clear h; rintro e st ⟨pla0_k3_1, plx0_ok_k3, Xk3, Rk3, rfl, rfl, hO, h⟩
  rw [Zc1] at h
  refine Zas hN hNR hNL (by simp only [List.length_set]) (Zah (Zah hcalm (by (simp +decide only [go_sem, Nat.reduceAdd]) <;> (try (repeat' apply And.intro)) <;> first | omega | assumption)) (by (simp +decide only [go_sem, Nat.reduceAdd]) <;> (try (repeat' apply And.intro)) <;> first | omega | assumption)) hO (by (simp +decide only [go_sem, Nat.reduceAdd]) <;> (try (repeat' apply And.intro)) <;> first | omega | assumption) (by (simp +decide only [go_sem, Nat.reduceAdd, Za2]) <;> (try (repeat' apply And.intro)) <;> first | omega | assumption) ?_
  refine rg [0, 3, 5, 51, 52, 53] hs ?_
  apply Zaf
  refine Zap (fun m e st => ∃ (x53_l27 : Int) (pla0_l27_1 : Bool) (plx0_ok_l27 : Bool) (Xl27 : List (List AV)) (Rl27 : List RowA), e = [(0, true, .box la0 0), (3, true, .val (.string a3)), (5, true, .box B.length 0), (51, true, .list (a2.fields.map avF) .none), (52, true, .val (.int .i64 ((a2.fields.length : Int)))), (53, true, .val (.int .i64 x53_l27))] ∧ st = ⟨((B.set la0 ([.clo 92 [.box lx0_ok 0], .val (.bool pla0_l27_1)])).set lx0_ok ([.val (.bool plx0_ok_l27)])) ++ ([a1.cs, a2.cs] ++ Xl27), Rl27, L⟩ ∧ Owns Rw Rl27 [] ∧ Za3 rec n a1 a2 a3 m x53_l27 pla0_l27_1 plx0_ok_l27 = some r) n ⟨0, pla0_k3_1, plx0_ok_k3, ([]), Rk3, ef hs, ef hs, hO, h⟩ ?_
  rintro ml27 e st ⟨x53_l27, pla0_l27_1, plx0_ok_l27, Xl27, Rl27, rfl, rfl, hO, h⟩ Ul27 Vl27
  cases ml27 with
  | zero => cases h
  | succ ml27 =>
  rw [Za3] at h
  refine Zas hN hNR hNL (by simp only [List.length_set]) (Zah (Zah hcalm (by (simp +decide only [go_sem, Nat.reduceAdd]) <;> (try (repeat' apply And.intro)) <;> first | omega | assumption)) (by (simp +decide only [go_sem, Nat.reduceAdd]) <;> (try (repeat' apply And.intro)) <;> first | omega | assumption)) hO (by (simp +decide only [go_sem, Nat.reduceAdd]) <;> (try (repeat' apply And.intro)) <;> first | omega | assumption) (by (simp +decide only [go_sem, Nat.reduceAdd, Za2]) <;> (try (repeat' apply And.intro)) <;> first | omega | assumption) ?_
  refine rg [0, 3, 5, 51, 52, 53, 54] hs ?_
  apply Zac; intro K29 hK29
  refine cnd h hs (fun hs h => ?_) (fun hs h => ?_)
  rotate_left
  ·
   have hb30 := hs.1
   refine ZbU (Zce [] _) ?_ (ZaG _ _)
   apply ZfT; simp +decide only [go_sem, Nat.reduceAdd]
   (repeat' with_reducible apply And.intro) <;> first | exact cl | skip
   have hgt := Option.some.inj h; subst hgt
   first | refine Zaz (Zah (Zah hcalm (by (simp +decide only [go_sem, Nat.reduceAdd]) <;> (try (repeat' apply And.intro)) <;> first | omega | assumption)) (by (simp +decide only [go_sem, Nat.reduceAdd]) <;> (try (repeat' apply And.intro)) <;> first | omega | assumption)) (by simp only [List.length_set]) hO.pre ev ⟨?_, by first | rfl | (simp only [Zai hla0, Zai hlx0_ok]; done)⟩ | refine Za5 (Zah (Zah hcalm (by (simp +decide only [go_sem, Nat.reduceAdd]) <;> (try (repeat' apply And.intro)) <;> first | omega | assumption)) (by (simp +decide only [go_sem, Nat.reduceAdd]) <;> (try (repeat' apply And.intro)) <;> first | omega | assumption)) (by simp only [List.length_set]) hO.pre ev ⟨?_, by first | rfl | (simp only [Zai hla0, Zai hlx0_ok]; done)⟩
   first | rfl | (simp +decide only [go_sem, Nat.reduceAdd, hpf, hb30]; done) | (simp +decide only [go_sem, Nat.reduceAdd, Vl.cs, Ty.cs, hpf, hb30]; done)
  have hb30 := hs.1
  refine sk [0, 3, 5, 51, 52, 53] hs hK29 ?_
  clear hK29
  refine Zak (fun e st => ∃ (pla0_k32_1 : Bool) (plx0_ok_k32 : Bool) (Xk32 : List (List AV)) (Rk32 : List RowA), e = [(0, true, .box la0 0), (3, true, .val (.string a3)), (5, true, .box B.length 0), (51, true, .list (a2.fields.map avF) .none), (52, true, .val (.int .i64 ((a2.fields.length : Int)))), (53, true, .val (.int .i64 x53_l27))] ∧ st = ⟨((B.set la0 ([.clo 92 [.box lx0_ok 0], .val (.bool pla0_k32_1)])).set lx0_ok ([.val (.bool plx0_ok_k32)])) ++ ([a1.cs, a2.cs] ++ Xk32), Rk32, L⟩ ∧ Owns Rw Rk32 [] ∧ ZbG rec n (Za3 rec n a1 a2 a3 ml27) x53_l27 pla0_k32_1 plx0_ok_k32 = some r) ?_ ?_
  ·
   intro K33 hK33
   apply Zaf
   obtain ⟨x35, hx35, h⟩ := bind_some h
   obtain ⟨hx35a, hx35b, hx35c⟩ := Zam hx35
   have hx35d := Zao (f := avF) hx35c
   have hs := And.intro hx35d hs
   refine rg [0, 3, 5, 13, 51, 52, 53] hs ?_
   obtain ⟨y37, hy37, h⟩ := bind_some h
   refine rc 2 [0, 3, 5, 13, 15, 51, 52, 53] hs ?_; intro K36 hK36
   refine Zad _ (Zcl w0 n _ _ _ a1 x35.1 _ hy37) (hv hs) ?_
   refine ne hs hK36 ?_
   clear hK36
   refine rg [0, 3, 5, 13, 51, 52, 53, 65] hs ?_
   refine cnd h hs (fun hs h => ?_) (fun hs h => ?_)
   ·
    obtain ⟨y40, hy40, h⟩ := bind_some h
    obtain ⟨y41, hy41, h⟩ := bind_some h
    refine rk 3 [0, 3, 5, 51, 52, 53] hs ?_
    refine Zad _ (Zgi w0 _ _ _ a3 x35.1 _ hy40) (hv hs) ?_
    refine nc hs ?_
    refine ZaR _ (ZaV w0 _ _ _ lx0_ok la0 pla0_l27_1 (ef hs) plx0_ok_l27 (ef hs) (by first | assumption | omega | (simp only [List.length_set] at *; omega)) y40 6 _ hy41) (hv hs) ?_; rintro _ _ ⟨rfl, rfl⟩
    refine ne hs hK33 ?_
    exact ⟨y41.1, y41.2, ([.val (.string x35.1) :: (x35.2.cs), .val (.int .i64 y37.1.1) :: (.val (.string y37.1.2.1) :: (.val (.int .i64 y37.1.2.2.1) :: ((y37.1.2.2.2.1.cs) ++ ([.list (y37.1.2.2.2.2.map avV) .none]))))]), Rl27, ef hs, ef hs, hO, h⟩
   refine sk [0, 3, 5, 51, 52, 53] hs hK33 ?_
   exact ⟨pla0_l27_1, plx0_ok_l27, ([.val (.string x35.1) :: (x35.2.cs), .val (.int .i64 y37.1.1) :: (.val (.string y37.1.2.1) :: (.val (.int .i64 y37.1.2.2.1) :: ((y37.1.2.2.2.1.cs) ++ ([.list (y37.1.2.2.2.2.map avV) .none]))))]), Rl27, ef hs, ef hs, hO, h⟩
  ·
   clear h; rintro e st ⟨pla0_k32_1, plx0_ok_k32, Xk32, Rk32, rfl, rfl, hO, h⟩
   rw [ZbG] at h
   refine Zas hN hNR hNL (by simp only [List.length_set]) (Zah (Zah hcalm (by (simp +decide only [go_sem, Nat.reduceAdd]) <;> (try (repeat' apply And.intro)) <;> first | omega | assumption)) (by (simp +decide only [go_sem, Nat.reduceAdd]) <;> (try (repeat' apply And.intro)) <;> first | omega | assumption)) hO (by (simp +decide only [go_sem, Nat.reduceAdd]) <;> (try (repeat' apply And.intro)) <;> first | omega | assumption) (by (simp +decide only [go_sem, Nat.reduceAdd, Za2]) <;> (try (repeat' apply And.intro)) <;> first | omega | assumption) ?_
   obtain ⟨hg42, h⟩ := Zae h
   refine rl [0, 3, 5, 51, 52, 53] hs (fun e s => Vl27 ml27 e s (Nat.lt_succ_self _)) ?_
   exact ⟨(x53_l27 + 1), pla0_k32_1, plx0_ok_k32, ([]), Rk32, ef hs, ef hs, hO, h⟩
end Go.Proofs.YtgpmlelfkjfbiaaGreatDoor
