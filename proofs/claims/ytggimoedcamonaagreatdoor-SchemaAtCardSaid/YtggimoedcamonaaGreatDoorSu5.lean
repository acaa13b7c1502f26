/-
  Part 5 of the proof: rules and walks that the claim's last text uses.
-/
import Derived.Test.YtggimoedcamonaaGreatDoorSu4
set_option linter.unusedSimpArgs false
set_option linter.unusedVariables false
set_option maxRecDepth 100000
set_option maxHeartbeats 4000000
namespace Go.Proofs.YtggimoedcamonaaGreatDoor
open Go Go.RowKit Go.Ev
def ZaY (n : Nat)  : List (Nat × Vl) → Int → Option Int
 | [], b3_r7 =>
  some (0)
 | p_r7 :: rest, b3_r7 =>
  if I64 (b3_r7 + 1) then
   if decide (4096 < (b3_r7 + 1)) then
    some (9)
   else
    if decide (8 < ((p_r7.1 : Int))) then
     some (23)
    else
     if Zbt p_r7.2 then
      some (19)
     else
      if (decide (p_r7.2.kind < 1)) || (decide (10 < p_r7.2.kind)) then
       some (11)
      else
       if !(Zg8 p_r7.2) then
        some (3)
       else
        if decide (p_r7.2.kind = 0) then
         none
        else
         if decide (p_r7.2.kind = 1) then
          if !(decide ((Zcv p_r7.2) = 0)) then
           some (Zcv p_r7.2)
          else
           (ZaY n rest) (b3_r7 + 1)
         else
          if decide (p_r7.2.kind = 2) then
           if !(decide ((Zcn p_r7.2) = 0)) then
            some (Zcn p_r7.2)
           else
            (ZaY n rest) (b3_r7 + 1)
          else
           if decide (p_r7.2.kind = 3) then
            (ZeT n p_r7.2).bind fun y42 =>
            if !(decide (y42 = 0)) then
             some (y42)
            else
             (ZaY n rest) (b3_r7 + 1)
           else
            if decide (p_r7.2.kind = 4) then
             (ZeJ p_r7.2).bind fun y48 =>
             if !(decide (y48 = 0)) then
              some (y48)
             else
              (ZaY n rest) (b3_r7 + 1)
            else
             if decide (p_r7.2.kind = 5) then
              if !(decide ((Zcm p_r7.2) = 0)) then
               some (Zcm p_r7.2)
              else
               (ZaY n rest) (b3_r7 + 1)
             else
              if decide (p_r7.2.kind = 6) then
               if !(decide ((Zco p_r7.2) = 0)) then
                some (Zco p_r7.2)
               else
                (ZaY n rest) (b3_r7 + 1)
              else
               if decide (p_r7.2.kind = 7) then
                if !(decide ((Zcr p_r7.2) = 0)) then
                 some (Zcr p_r7.2)
                else
                 (ZaY n rest) (b3_r7 + 1)
               else
                if decide (p_r7.2.kind = 8) then
                 if !(decide ((Zcs p_r7.2) = 0)) then
                  some (Zcs p_r7.2)
                 else
                  (ZaY n rest) (b3_r7 + 1)
                else
                 if decide (p_r7.2.kind = 9) then
                  (ZeK n p_r7.2).bind fun y74 =>
                  if !(decide (y74 = 0)) then
                   some (y74)
                  else
                   (ZaY n rest) (b3_r7 + 1)
                 else
                  if decide (p_r7.2.kind = 10) then
                   (Zd3 p_r7.2).bind fun y80 =>
                   if !(decide (y80 = 0)) then
                    some (y80)
                   else
                    (ZaY n rest) (b3_r7 + 1)
                  else
                   none
  else none
def ZeR (n : Nat) (a0 : Vl) : Option Int :=
 if a0.size < 1048576 then
  ZaY n (Zgj 1 a0) 0
 else none
theorem Zij (w0 : World) (hT : Lib.Utf8Tabs 0 1 w0) (n : Nat) (B : List (List AV)) (Rw : List RowA) (L : List LoopA) (a0 : Vl) (r : Int) (h : ZeR n a0 = some r) :
  ACalls Tryz.prog w0 48 [.agg (a0.cs)] ⟨B, Rw, L⟩ fun x st => x = .val (.int .i64 r) ∧ st = ⟨B, Rw, L⟩ := by
 rw [ZeR] at h
 refine hd [.cell 2 29] Tryz.func48 Tryz.ntmps48 fun M0 W0 hN hNR hNL hcalm hu hO hs => ?_
 simp only [Zas]
 refine rg [1, 2] hs ?_
 apply Zab; intro K2 hK2
 apply Zad 2 [1, 2, 3]
 rw [Zaa]; simp +decide only [go_sem, Nat.reduceAdd, Zms]
 (repeat' apply And.intro) <;> first | refine Zaf _ (Zsn w0 _ _ _ ) (by first | rfl | (simp +decide only [go_sem, Nat.reduceAdd, Zms]; done) | (simp +decide only [go_sem, Nat.reduceAdd, Vl.cs, Ty.cs, Zms]; done)) ?_ | exact cl
 rw [Zaa]; simp +decide only [go_sem, Nat.reduceAdd, Zms]
 (repeat' apply And.intro) <;> first | refine hK2 _ _ ?_ | exact cl
 clear hK2
 refine rg [1, 2, 3, 4] hs ?_
 apply Zab; intro K4 hK4
 refine rc 2 [2, 3, 4, 10] hs ?_; intro K5 hK5
 refine Zch _ (Zj1 w0 _ _ _ a0) (hv hs) ?_; rintro _ _ ⟨rfl, rfl⟩
 refine ne hs hK5 ?_
 clear hK5
 apply Zae
 obtain ⟨hg6, h⟩ := Zac h
 refine ZmB (Zgk a0) (fun st => st.boxes[(B.length + 4)]? = some a0.cs) (fun i st => ∃ (b3_r7 : Int) (Rr7 : List RowA), st = ⟨B ++ ([a0.cs, [.val (.int .i64 0)], [.val .nilFunc, .clo 122 [], .clo 124 [], .clo 125 [], .clo 127 [], .clo 130 [], .clo 131 [], .clo 132 [], .clo 133 [], .clo 134 [], .clo 135 []], [.val (.int .i64 b3_r7)], a0.cs]), Rr7, L⟩ ∧ Owns Rw Rr7 [] ∧ ZaY n ((Zgj 1 a0).drop i) b3_r7 = some r) (fun ex st => ex = .ret ∧ ∃ (z0 : List AV) (z2 : List AV) (z3 : List AV) (z4 : List AV) (rows : List RowA), st = ⟨B ++ [z0, [.val (.int .i64 r)], z2, z3, z4], rows, L⟩ ∧ Owns Rw rows []) ev ev (ZhL w0 a0 hg6 _) (fun x hx => Zkm a0 x hx) (by decide) ?_ ⟨0, Rw, ef hs, hO, h⟩ (fun _ _ h => .inl h.1) ?_ ?_ ?_
 ·
  rintro i st la ⟨b3_r7, Rr7, rfl, hO, h⟩ _ _; simp +decide [St.push]
 ·
  rintro i s1 ⟨XB, XR, XL⟩ x M1 W1 l la la' hX hI hlike hloops hx hra K hK
  obtain ⟨p_r7, hpi, rfl, hi⟩ := Zku a0 i x hx
  (try simp only at hX)
  subst hX
  obtain ⟨b3_r7, Rr7, rfl, hO, h⟩ := hI
  rw [ZnR hpi, ZaY] at h
  have hra0_r7 := hO
  simp only [St.ext, St.push, List.append_assoc, List.append_nil]
  refine rg [2, 3, 4, 5, 12] hs ?_
  apply Zad 1 [2, 3, 4, 5, 6]
  rw [Zaa]; simp +decide only [go_sem, Nat.reduceAdd]
  (repeat' apply And.intro) <;> first | refine hK _ _ (by simp [St.ext, St.push]) (fun KQ hKQ => ?_) | exact cl
  clear hK
  dsimp only [St.ext, St.push]
  apply Zae
  obtain ⟨hg10, h⟩ := Zac h
  refine rg [2, 3, 4, 5, 6] hs ?_
  apply Zab; intro K11 hK11
  apply Zae
  refine rg [2, 3, 5, 6, 15] hs ?_
  refine cnd h hs (fun hs h => ?_) (fun hs h => ?_)
  ·
   have hb13 := hs.1
   refine rg [2] hs ?_
   apply Zag; simp +decide only [go_sem, Nat.reduceAdd, hb13]
   have hgt := Option.some.inj h; subst hgt
   refine hKQ _ _ _ ⟨⟨B ++ [a0.cs, [.val (.int .i64 9)], [.val .nilFunc, .clo 122 [], .clo 124 [], .clo 125 [], .clo 127 [], .clo 130 [], .clo 131 [], .clo 132 [], .clo 133 [], .clo 134 [], .clo 135 []], [.val (.int .i64 (b3_r7 + 1))], a0.cs], Rr7, L⟩, [p_r7.2.cs], by first | rfl | (simp only [List.append_assoc, List.append_nil, List.cons_append, List.nil_append]; done), ⟨by simp, by first | exact Nat.le_refl _ | (have := hO.len; simp; omega), rfl⟩, rfl, ⟨rfl, _, _, _, _, Rr7, ef hs, hO.sub (List.nil_sublist _)⟩, ?_⟩
   exact .inr (ZaF hra hra0_r7 hO rfl (by have := hO.len; have := hra0_r7.len; first | exact Nat.le_refl _ | omega) (by simp only [List.append_assoc, List.cons_append, List.nil_append]) (by (simp +decide only [go_sem, Nat.reduceAdd]) <;> (try (repeat' apply And.intro)) <;> first | omega | assumption))
  have hb13 := hs.1
  refine rg [2, 3, 6, 18] hs ?_
  refine cnd h hs (fun hs h => ?_) (fun hs h => ?_)
  ·
   have hb16 := hs.1
   refine rg [2] hs ?_
   apply Zag; simp +decide only [go_sem, Nat.reduceAdd, hb13, hb16]
   have hgt := Option.some.inj h; subst hgt
   refine hKQ _ _ _ ⟨⟨B ++ [a0.cs, [.val (.int .i64 23)], [.val .nilFunc, .clo 122 [], .clo 124 [], .clo 125 [], .clo 127 [], .clo 130 [], .clo 131 [], .clo 132 [], .clo 133 [], .clo 134 [], .clo 135 []], [.val (.int .i64 (b3_r7 + 1))], a0.cs], Rr7, L⟩, [p_r7.2.cs], by first | rfl | (simp only [List.append_assoc, List.append_nil, List.cons_append, List.nil_append]; done), ⟨by simp, by first | exact Nat.le_refl _ | (have := hO.len; simp; omega), rfl⟩, rfl, ⟨rfl, _, _, _, _, Rr7, ef hs, hO.sub (List.nil_sublist _)⟩, ?_⟩
   exact .inr (ZaF hra hra0_r7 hO rfl (by have := hO.len; have := hra0_r7.len; first | exact Nat.le_refl _ | omega) (by simp only [List.append_assoc, List.cons_append, List.nil_append]) (by (simp +decide only [go_sem, Nat.reduceAdd]) <;> (try (repeat' apply And.intro)) <;> first | omega | assumption))
  have hb16 := hs.1
  refine rc 2 [2, 3, 6, 21] hs ?_; intro K18 hK18
  refine Zaf _ (ZgS w0 _ _ _ p_r7.2) (hv hs) ?_
  refine ne hs hK18 ?_
  clear hK18
  refine cnd h hs (fun hs h => ?_) (fun hs h => ?_)
  ·
   have hb19 := hs.1
   refine rg [2] hs ?_
   apply Zag; simp +decide only [go_sem, Nat.reduceAdd, hb13, hb16, hb19]
   have hgt := Option.some.inj h; subst hgt
   refine hKQ _ _ _ ⟨⟨B ++ [a0.cs, [.val (.int .i64 19)], [.val .nilFunc, .clo 122 [], .clo 124 [], .clo 125 [], .clo 127 [], .clo 130 [], .clo 131 [], .clo 132 [], .clo 133 [], .clo 134 [], .clo 135 []], [.val (.int .i64 (b3_r7 + 1))], a0.cs], Rr7, L⟩, [p_r7.2.cs], by first | rfl | (simp only [List.append_assoc, List.append_nil, List.cons_append, List.nil_append]; done), ⟨by simp, by first | exact Nat.le_refl _ | (have := hO.len; simp; omega), rfl⟩, rfl, ⟨rfl, _, _, _, _, Rr7, ef hs, hO.sub (List.nil_sublist _)⟩, ?_⟩
   exact .inr (ZaF hra hra0_r7 hO rfl (by have := hO.len; have := hra0_r7.len; first | exact Nat.le_refl _ | omega) (by simp only [List.append_assoc, List.cons_append, List.nil_append]) (by (simp +decide only [go_sem, Nat.reduceAdd]) <;> (try (repeat' apply And.intro)) <;> first | omega | assumption))
  have hb19 := hs.1
  refine rg [2, 3, 6, 24] hs ?_
  refine cnd h hs (fun hs h => ?_) (fun hs h => ?_)
  ·
   have hb22 := hs.1
   refine rg [2] hs ?_
   apply Zag; simp +decide only [go_sem, Nat.reduceAdd, hb13, hb16, hb19, hb22]
   have hgt := Option.some.inj h; subst hgt
   refine hKQ _ _ _ ⟨⟨B ++ [a0.cs, [.val (.int .i64 11)], [.val .nilFunc, .clo 122 [], .clo 124 [], .clo 125 [], .clo 127 [], .clo 130 [], .clo 131 [], .clo 132 [], .clo 133 [], .clo 134 [], .clo 135 []], [.val (.int .i64 (b3_r7 + 1))], a0.cs], Rr7, L⟩, [p_r7.2.cs], by first | rfl | (simp only [List.append_assoc, List.append_nil, List.cons_append, List.nil_append]; done), ⟨by simp, by first | exact Nat.le_refl _ | (have := hO.len; simp; omega), rfl⟩, rfl, ⟨rfl, _, _, _, _, Rr7, ef hs, hO.sub (List.nil_sublist _)⟩, ?_⟩
   exact .inr (ZaF hra hra0_r7 hO rfl (by have := hO.len; have := hra0_r7.len; first | exact Nat.le_refl _ | omega) (by simp only [List.append_assoc, List.cons_append, List.nil_append]) (by (simp +decide only [go_sem, Nat.reduceAdd]) <;> (try (repeat' apply And.intro)) <;> first | omega | assumption))
  have hb22 := hs.1
  refine rc 2 [2, 3, 6, 33] hs ?_; intro K24 hK24
  refine Zaf _ (Zo9 w0 _ _ _ p_r7.2) (hv hs) ?_
  refine ne hs hK24 ?_
  clear hK24
  refine cnd h hs (fun hs h => ?_) (fun hs h => ?_)
  ·
   have hb25 := hs.1
   refine rg [2] hs ?_
   apply Zag; simp +decide only [go_sem, Nat.reduceAdd, hb13, hb16, hb19, hb22, hb25]
   have hgt := Option.some.inj h; subst hgt
   refine hKQ _ _ _ ⟨⟨B ++ [a0.cs, [.val (.int .i64 3)], [.val .nilFunc, .clo 122 [], .clo 124 [], .clo 125 [], .clo 127 [], .clo 130 [], .clo 131 [], .clo 132 [], .clo 133 [], .clo 134 [], .clo 135 []], [.val (.int .i64 (b3_r7 + 1))], a0.cs], Rr7, L⟩, [p_r7.2.cs], by first | rfl | (simp only [List.append_assoc, List.append_nil, List.cons_append, List.nil_append]; done), ⟨by simp, by first | exact Nat.le_refl _ | (have := hO.len; simp; omega), rfl⟩, rfl, ⟨rfl, _, _, _, _, Rr7, ef hs, hO.sub (List.nil_sublist _)⟩, ?_⟩
   exact .inr (ZaF hra hra0_r7 hO rfl (by have := hO.len; have := hra0_r7.len; first | exact Nat.le_refl _ | omega) (by simp only [List.append_assoc, List.cons_append, List.nil_append]) (by (simp +decide only [go_sem, Nat.reduceAdd]) <;> (try (repeat' apply And.intro)) <;> first | omega | assumption))
  have hb25 := hs.1
  refine sk [2, 3, 6] hs hK11 ?_
  clear hK11
  apply Zab; intro K27 hK27
  rcases Bool.eq_false_or_eq_true (decide (p_r7.2.kind = 0)) with hf28 | hf28
  ·
   replace h := ZaN h hf28
   have hk29 : p_r7.2.kind = 0 := of_decide_eq_true hf28
   cases h
  ·
   replace h := ZaM h hf28
   rcases Bool.eq_false_or_eq_true (decide (p_r7.2.kind = 1)) with hf30 | hf30
   ·
    replace h := ZaN h hf30
    have hk31 : p_r7.2.kind = 1 := of_decide_eq_true hf30
    apply Zak mix 7 2 1 [2, 7] (by kernel_rfl)
    rw [Zaa]; simp +decide only [go_sem, Nat.reduceAdd, hb13, hb16, hb19, hb22, hb25, hf28, hf30, hk31]
    have hs := And.intro hf28 hs
    have hs := And.intro hf30 hs
    have hs := And.intro hk31 hs
    (repeat' apply And.intro) <;> first | refine Zaf _ (Zlu w0 _ _ _ p_r7.2) (hv hs) ?_ | exact cl
    rw [Zaa]; simp +decide only [go_sem, Nat.reduceAdd, hb13, hb16, hb19, hb22, hb25, hf28, hf30, hk31]
    (repeat' with_reducible apply And.intro) <;> first | (rw [Zaa]; simp +decide only [go_sem, Nat.reduceAdd, hb13, hb16, hb19, hb22, hb25, hf28, hf30, hk31]) | exact cl
    (repeat' apply And.intro) <;> first | refine hK27 _ _ ?_ | exact cl
    clear hK27
    refine rg [2, 7, 44] hs ?_
    refine cnd h hs (fun hs h => ?_) (fun hs h => ?_)
    ·
     have hb33 := hs.1
     refine rg [2] hs ?_
     apply Zag; simp +decide only [go_sem, Nat.reduceAdd, hb13, hb16, hb19, hb22, hb25, hf28, hf30, hk31, hb33]
     have hgt := Option.some.inj h; subst hgt
     refine hKQ _ _ _ ⟨⟨B ++ [a0.cs, [.val (.int .i64 (Zcv p_r7.2))], [.val .nilFunc, .clo 122 [], .clo 124 [], .clo 125 [], .clo 127 [], .clo 130 [], .clo 131 [], .clo 132 [], .clo 133 [], .clo 134 [], .clo 135 []], [.val (.int .i64 (b3_r7 + 1))], a0.cs], Rr7, L⟩, [p_r7.2.cs], by first | rfl | (simp only [List.append_assoc, List.append_nil, List.cons_append, List.nil_append]; done), ⟨by simp, by first | exact Nat.le_refl _ | (have := hO.len; simp; omega), rfl⟩, rfl, ⟨rfl, _, _, _, _, Rr7, ef hs, hO.sub (List.nil_sublist _)⟩, ?_⟩
     exact .inr (ZaF hra hra0_r7 hO rfl (by have := hO.len; have := hra0_r7.len; first | exact Nat.le_refl _ | omega) (by simp only [List.append_assoc, List.cons_append, List.nil_append]) (by (simp +decide only [go_sem, Nat.reduceAdd]) <;> (try (repeat' apply And.intro)) <;> first | omega | assumption))
    have hb33 := hs.1
    refine Zel (Zdl [] _) ?_ (Zbg _ _)
    apply ZaK; simp +decide only [go_sem, Nat.reduceAdd]
    (repeat' apply And.intro) <;> first | refine hKQ _ _ _ ⟨⟨B ++ [a0.cs, [.val (.int .i64 0)], [.val .nilFunc, .clo 122 [], .clo 124 [], .clo 125 [], .clo 127 [], .clo 130 [], .clo 131 [], .clo 132 [], .clo 133 [], .clo 134 [], .clo 135 []], [.val (.int .i64 (b3_r7 + 1))], a0.cs], Rr7, L⟩, [p_r7.2.cs], by first | rfl | (simp only [List.append_assoc, List.append_nil, List.cons_append, List.nil_append]; done), ⟨by simp, by first | exact Nat.le_refl _ | (have := hO.len; simp; omega), rfl⟩, rfl, ⟨(b3_r7 + 1), Rr7, ef hs, hO, h⟩, ?_⟩ | exact cl
    exact .inr (ZaF hra hra0_r7 hO rfl (by have := hO.len; have := hra0_r7.len; first | exact Nat.le_refl _ | omega) (by simp only [List.append_assoc, List.cons_append, List.nil_append]) (by (simp +decide only [go_sem, Nat.reduceAdd]) <;> (try (repeat' apply And.intro)) <;> first | omega | assumption))
   ·
    replace h := ZaM h hf30
    rcases Bool.eq_false_or_eq_true (decide (p_r7.2.kind = 2)) with hf35 | hf35
    ·
     replace h := ZaN h hf35
     have hk36 : p_r7.2.kind = 2 := of_decide_eq_true hf35
     apply Zak mix 7 2 1 [2, 7] (by kernel_rfl)
     rw [Zaa]; simp +decide only [go_sem, Nat.reduceAdd, hb13, hb16, hb19, hb22, hb25, hf28, hf30, hf35, hk36]
     have hs := And.intro hf28 hs
     have hs := And.intro hf30 hs
     have hs := And.intro hf35 hs
     have hs := And.intro hk36 hs
     (repeat' apply And.intro) <;> first | refine Zaf _ (Zk3 w0 _ _ _ p_r7.2) (hv hs) ?_ | exact cl
     rw [Zaa]; simp +decide only [go_sem, Nat.reduceAdd, hb13, hb16, hb19, hb22, hb25, hf28, hf30, hf35, hk36]
     (repeat' with_reducible apply And.intro) <;> first | (rw [Zaa]; simp +decide only [go_sem, Nat.reduceAdd, hb13, hb16, hb19, hb22, hb25, hf28, hf30, hf35, hk36]) | exact cl
     (repeat' apply And.intro) <;> first | refine hK27 _ _ ?_ | exact cl
     clear hK27
     refine rg [2, 7, 44] hs ?_
     refine cnd h hs (fun hs h => ?_) (fun hs h => ?_)
     ·
      have hb38 := hs.1
      refine rg [2] hs ?_
      apply Zag; simp +decide only [go_sem, Nat.reduceAdd, hb13, hb16, hb19, hb22, hb25, hf28, hf30, hf35, hk36, hb38]
      have hgt := Option.some.inj h; subst hgt
      refine hKQ _ _ _ ⟨⟨B ++ [a0.cs, [.val (.int .i64 (Zcn p_r7.2))], [.val .nilFunc, .clo 122 [], .clo 124 [], .clo 125 [], .clo 127 [], .clo 130 [], .clo 131 [], .clo 132 [], .clo 133 [], .clo 134 [], .clo 135 []], [.val (.int .i64 (b3_r7 + 1))], a0.cs], Rr7, L⟩, [p_r7.2.cs], by first | rfl | (simp only [List.append_assoc, List.append_nil, List.cons_append, List.nil_append]; done), ⟨by simp, by first | exact Nat.le_refl _ | (have := hO.len; simp; omega), rfl⟩, rfl, ⟨rfl, _, _, _, _, Rr7, ef hs, hO.sub (List.nil_sublist _)⟩, ?_⟩
      exact .inr (ZaF hra hra0_r7 hO rfl (by have := hO.len; have := hra0_r7.len; first | exact Nat.le_refl _ | omega) (by simp only [List.append_assoc, List.cons_append, List.nil_append]) (by (simp +decide only [go_sem, Nat.reduceAdd]) <;> (try (repeat' apply And.intro)) <;> first | omega | assumption))
     have hb38 := hs.1
     refine Zel (Zdl [] _) ?_ (Zbg _ _)
     apply ZaK; simp +decide only [go_sem, Nat.reduceAdd]
     (repeat' apply And.intro) <;> first | refine hKQ _ _ _ ⟨⟨B ++ [a0.cs, [.val (.int .i64 0)], [.val .nilFunc, .clo 122 [], .clo 124 [], .clo 125 [], .clo 127 [], .clo 130 [], .clo 131 [], .clo 132 [], .clo 133 [], .clo 134 [], .clo 135 []], [.val (.int .i64 (b3_r7 + 1))], a0.cs], Rr7, L⟩, [p_r7.2.cs], by first | rfl | (simp only [List.append_assoc, List.append_nil, List.cons_append, List.nil_append]; done), ⟨by simp, by first | exact Nat.le_refl _ | (have := hO.len; simp; omega), rfl⟩, rfl, ⟨(b3_r7 + 1), Rr7, ef hs, hO, h⟩, ?_⟩ | exact cl
     exact .inr (ZaF hra hra0_r7 hO rfl (by have := hO.len; have := hra0_r7.len; first | exact Nat.le_refl _ | omega) (by simp only [List.append_assoc, List.cons_append, List.nil_append]) (by (simp +decide only [go_sem, Nat.reduceAdd]) <;> (try (repeat' apply And.intro)) <;> first | omega | assumption))
    ·
     replace h := ZaM h hf35
     rcases Bool.eq_false_or_eq_true (decide (p_r7.2.kind = 3)) with hf40 | hf40
     ·
      replace h := ZaN h hf40
      have hk41 : p_r7.2.kind = 3 := of_decide_eq_true hf40
      obtain ⟨y42, hy42, h⟩ := bind_some h
      apply Zak mix 7 2 1 [2, 7] (by kernel_rfl)
      rw [Zaa]; simp +decide only [go_sem, Nat.reduceAdd, hb13, hb16, hb19, hb22, hb25, hf28, hf30, hf35, hf40, hk41]
      have hs := And.intro hf28 hs
      have hs := And.intro hf30 hs
      have hs := And.intro hf35 hs
      have hs := And.intro hf40 hs
      have hs := And.intro hk41 hs
      (repeat' apply And.intro) <;> first | refine Zaf _ (ZlJ w0 n _ _ _ p_r7.2 _ hy42) (hv hs) ?_ | exact cl
      rw [Zaa]; simp +decide only [go_sem, Nat.reduceAdd, hb13, hb16, hb19, hb22, hb25, hf28, hf30, hf35, hf40, hk41]
      (repeat' with_reducible apply And.intro) <;> first | (rw [Zaa]; simp +decide only [go_sem, Nat.reduceAdd, hb13, hb16, hb19, hb22, hb25, hf28, hf30, hf35, hf40, hk41]) | exact cl
      (repeat' apply And.intro) <;> first | refine hK27 _ _ ?_ | exact cl
      clear hK27
      refine rg [2, 7, 44] hs ?_
      refine cnd h hs (fun hs h => ?_) (fun hs h => ?_)
      ·
       have hb44 := hs.1
       refine rg [2] hs ?_
       apply Zag; simp +decide only [go_sem, Nat.reduceAdd, hb13, hb16, hb19, hb22, hb25, hf28, hf30, hf35, hf40, hk41, hb44]
       have hgt := Option.some.inj h; subst hgt
       refine hKQ _ _ _ ⟨⟨B ++ [a0.cs, [.val (.int .i64 y42)], [.val .nilFunc, .clo 122 [], .clo 124 [], .clo 125 [], .clo 127 [], .clo 130 [], .clo 131 [], .clo 132 [], .clo 133 [], .clo 134 [], .clo 135 []], [.val (.int .i64 (b3_r7 + 1))], a0.cs], Rr7, L⟩, [p_r7.2.cs], by first | rfl | (simp only [List.append_assoc, List.append_nil, List.cons_append, List.nil_append]; done), ⟨by simp, by first | exact Nat.le_refl _ | (have := hO.len; simp; omega), rfl⟩, rfl, ⟨rfl, _, _, _, _, Rr7, ef hs, hO.sub (List.nil_sublist _)⟩, ?_⟩
       exact .inr (ZaF hra hra0_r7 hO rfl (by have := hO.len; have := hra0_r7.len; first | exact Nat.le_refl _ | omega) (by simp only [List.append_assoc, List.cons_append, List.nil_append]) (by (simp +decide only [go_sem, Nat.reduceAdd]) <;> (try (repeat' apply And.intro)) <;> first | omega | assumption))
      have hb44 := hs.1
      refine Zel (Zdl [] _) ?_ (Zbg _ _)
      apply ZaK; simp +decide only [go_sem, Nat.reduceAdd]
      (repeat' apply And.intro) <;> first | refine hKQ _ _ _ ⟨⟨B ++ [a0.cs, [.val (.int .i64 0)], [.val .nilFunc, .clo 122 [], .clo 124 [], .clo 125 [], .clo 127 [], .clo 130 [], .clo 131 [], .clo 132 [], .clo 133 [], .clo 134 [], .clo 135 []], [.val (.int .i64 (b3_r7 + 1))], a0.cs], Rr7, L⟩, [p_r7.2.cs], by first | rfl | (simp only [List.append_assoc, List.append_nil, List.cons_append, List.nil_append]; done), ⟨by simp, by first | exact Nat.le_refl _ | (have := hO.len; simp; omega), rfl⟩, rfl, ⟨(b3_r7 + 1), Rr7, ef hs, hO, h⟩, ?_⟩ | exact cl
      exact .inr (ZaF hra hra0_r7 hO rfl (by have := hO.len; have := hra0_r7.len; first | exact Nat.le_refl _ | omega) (by simp only [List.append_assoc, List.cons_append, List.nil_append]) (by (simp +decide only [go_sem, Nat.reduceAdd]) <;> (try (repeat' apply And.intro)) <;> first | omega | assumption))
     ·
      replace h := ZaM h hf40
      rcases Bool.eq_false_or_eq_true (decide (p_r7.2.kind = 4)) with hf46 | hf46
      ·
       replace h := ZaN h hf46
       have hk47 : p_r7.2.kind = 4 := of_decide_eq_true hf46
       obtain ⟨y48, hy48, h⟩ := bind_some h
       apply Zak mix 7 2 1 [2, 7] (by kernel_rfl)
       rw [Zaa]; simp +decide only [go_sem, Nat.reduceAdd, hb13, hb16, hb19, hb22, hb25, hf28, hf30, hf35, hf40, hf46, hk47]
       have hs := And.intro hf28 hs
       have hs := And.intro hf30 hs
       have hs := And.intro hf35 hs
       have hs := And.intro hf40 hs
       have hs := And.intro hf46 hs
       have hs := And.intro hk47 hs
       (repeat' apply And.intro) <;> first | refine Zaf _ (Zmt w0 hT _ _ _ p_r7.2 _ hy48) (hv hs) ?_ | exact cl
       rw [Zaa]; simp +decide only [go_sem, Nat.reduceAdd, hb13, hb16, hb19, hb22, hb25, hf28, hf30, hf35, hf40, hf46, hk47]
       (repeat' with_reducible apply And.intro) <;> first | (rw [Zaa]; simp +decide only [go_sem, Nat.reduceAdd, hb13, hb16, hb19, hb22, hb25, hf28, hf30, hf35, hf40, hf46, hk47]) | exact cl
       (repeat' apply And.intro) <;> first | refine hK27 _ _ ?_ | exact cl
       clear hK27
       refine rg [2, 7, 44] hs ?_
       refine cnd h hs (fun hs h => ?_) (fun hs h => ?_)
       ·
        have hb50 := hs.1
        refine rg [2] hs ?_
        apply Zag; simp +decide only [go_sem, Nat.reduceAdd, hb13, hb16, hb19, hb22, hb25, hf28, hf30, hf35, hf40, hf46, hk47, hb50]
        have hgt := Option.some.inj h; subst hgt
        refine hKQ _ _ _ ⟨⟨B ++ [a0.cs, [.val (.int .i64 y48)], [.val .nilFunc, .clo 122 [], .clo 124 [], .clo 125 [], .clo 127 [], .clo 130 [], .clo 131 [], .clo 132 [], .clo 133 [], .clo 134 [], .clo 135 []], [.val (.int .i64 (b3_r7 + 1))], a0.cs], Rr7, L⟩, [p_r7.2.cs], by first | rfl | (simp only [List.append_assoc, List.append_nil, List.cons_append, List.nil_append]; done), ⟨by simp, by first | exact Nat.le_refl _ | (have := hO.len; simp; omega), rfl⟩, rfl, ⟨rfl, _, _, _, _, Rr7, ef hs, hO.sub (List.nil_sublist _)⟩, ?_⟩
        exact .inr (ZaF hra hra0_r7 hO rfl (by have := hO.len; have := hra0_r7.len; first | exact Nat.le_refl _ | omega) (by simp only [List.append_assoc, List.cons_append, List.nil_append]) (by (simp +decide only [go_sem, Nat.reduceAdd]) <;> (try (repeat' apply And.intro)) <;> first | omega | assumption))
       have hb50 := hs.1
       refine Zel (Zdl [] _) ?_ (Zbg _ _)
       apply ZaK; simp +decide only [go_sem, Nat.reduceAdd]
       (repeat' apply And.intro) <;> first | refine hKQ _ _ _ ⟨⟨B ++ [a0.cs, [.val (.int .i64 0)], [.val .nilFunc, .clo 122 [], .clo 124 [], .clo 125 [], .clo 127 [], .clo 130 [], .clo 131 [], .clo 132 [], .clo 133 [], .clo 134 [], .clo 135 []], [.val (.int .i64 (b3_r7 + 1))], a0.cs], Rr7, L⟩, [p_r7.2.cs], by first | rfl | (simp only [List.append_assoc, List.append_nil, List.cons_append, List.nil_append]; done), ⟨by simp, by first | exact Nat.le_refl _ | (have := hO.len; simp; omega), rfl⟩, rfl, ⟨(b3_r7 + 1), Rr7, ef hs, hO, h⟩, ?_⟩ | exact cl
       exact .inr (ZaF hra hra0_r7 hO rfl (by have := hO.len; have := hra0_r7.len; first | exact Nat.le_refl _ | omega) (by simp only [List.append_assoc, List.cons_append, List.nil_append]) (by (simp +decide only [go_sem, Nat.reduceAdd]) <;> (try (repeat' apply And.intro)) <;> first | omega | assumption))
      ·
       replace h := ZaM h hf46
       rcases Bool.eq_false_or_eq_true (decide (p_r7.2.kind = 5)) with hf52 | hf52
       ·
        replace h := ZaN h hf52
        have hk53 : p_r7.2.kind = 5 := of_decide_eq_true hf52
        apply Zak mix 7 2 1 [2, 7] (by kernel_rfl)
        rw [Zaa]; simp +decide only [go_sem, Nat.reduceAdd, hb13, hb16, hb19, hb22, hb25, hf28, hf30, hf35, hf40, hf46, hf52, hk53]
        have hs := And.intro hf28 hs
        have hs := And.intro hf30 hs
        have hs := And.intro hf35 hs
        have hs := And.intro hf40 hs
        have hs := And.intro hf46 hs
        have hs := And.intro hf52 hs
        have hs := And.intro hk53 hs
        (repeat' apply And.intro) <;> first | refine Zaf _ (ZkZ w0 _ _ _ p_r7.2) (hv hs) ?_ | exact cl
        rw [Zaa]; simp +decide only [go_sem, Nat.reduceAdd, hb13, hb16, hb19, hb22, hb25, hf28, hf30, hf35, hf40, hf46, hf52, hk53]
        (repeat' with_reducible apply And.intro) <;> first | (rw [Zaa]; simp +decide only [go_sem, Nat.reduceAdd, hb13, hb16, hb19, hb22, hb25, hf28, hf30, hf35, hf40, hf46, hf52, hk53]) | exact cl
        (repeat' apply And.intro) <;> first | refine hK27 _ _ ?_ | exact cl
        clear hK27
        refine rg [2, 7, 44] hs ?_
        refine cnd h hs (fun hs h => ?_) (fun hs h => ?_)
        ·
         have hb55 := hs.1
         refine rg [2] hs ?_
         apply Zag; simp +decide only [go_sem, Nat.reduceAdd, hb13, hb16, hb19, hb22, hb25, hf28, hf30, hf35, hf40, hf46, hf52, hk53, hb55]
         have hgt := Option.some.inj h; subst hgt
         refine hKQ _ _ _ ⟨⟨B ++ [a0.cs, [.val (.int .i64 (Zcm p_r7.2))], [.val .nilFunc, .clo 122 [], .clo 124 [], .clo 125 [], .clo 127 [], .clo 130 [], .clo 131 [], .clo 132 [], .clo 133 [], .clo 134 [], .clo 135 []], [.val (.int .i64 (b3_r7 + 1))], a0.cs], Rr7, L⟩, [p_r7.2.cs], by first | rfl | (simp only [List.append_assoc, List.append_nil, List.cons_append, List.nil_append]; done), ⟨by simp, by first | exact Nat.le_refl _ | (have := hO.len; simp; omega), rfl⟩, rfl, ⟨rfl, _, _, _, _, Rr7, ef hs, hO.sub (List.nil_sublist _)⟩, ?_⟩
         exact .inr (ZaF hra hra0_r7 hO rfl (by have := hO.len; have := hra0_r7.len; first | exact Nat.le_refl _ | omega) (by simp only [List.append_assoc, List.cons_append, List.nil_append]) (by (simp +decide only [go_sem, Nat.reduceAdd]) <;> (try (repeat' apply And.intro)) <;> first | omega | assumption))
        have hb55 := hs.1
        refine Zel (Zdl [] _) ?_ (Zbg _ _)
        apply ZaK; simp +decide only [go_sem, Nat.reduceAdd]
        (repeat' apply And.intro) <;> first | refine hKQ _ _ _ ⟨⟨B ++ [a0.cs, [.val (.int .i64 0)], [.val .nilFunc, .clo 122 [], .clo 124 [], .clo 125 [], .clo 127 [], .clo 130 [], .clo 131 [], .clo 132 [], .clo 133 [], .clo 134 [], .clo 135 []], [.val (.int .i64 (b3_r7 + 1))], a0.cs], Rr7, L⟩, [p_r7.2.cs], by first | rfl | (simp only [List.append_assoc, List.append_nil, List.cons_append, List.nil_append]; done), ⟨by simp, by first | exact Nat.le_refl _ | (have := hO.len; simp; omega), rfl⟩, rfl, ⟨(b3_r7 + 1), Rr7, ef hs, hO, h⟩, ?_⟩ | exact cl
        exact .inr (ZaF hra hra0_r7 hO rfl (by have := hO.len; have := hra0_r7.len; first | exact Nat.le_refl _ | omega) (by simp only [List.append_assoc, List.cons_append, List.nil_append]) (by (simp +decide only [go_sem, Nat.reduceAdd]) <;> (try (repeat' apply And.intro)) <;> first | omega | assumption))
       ·
        replace h := ZaM h hf52
        rcases Bool.eq_false_or_eq_true (decide (p_r7.2.kind = 6)) with hf57 | hf57
        ·
         replace h := ZaN h hf57
         have hk58 : p_r7.2.kind = 6 := of_decide_eq_true hf57
         apply Zak mix 7 2 1 [2, 7] (by kernel_rfl)
         rw [Zaa]; simp +decide only [go_sem, Nat.reduceAdd, hb13, hb16, hb19, hb22, hb25, hf28, hf30, hf35, hf40, hf46, hf52, hf57, hk58]
         have hs := And.intro hf28 hs
         have hs := And.intro hf30 hs
         have hs := And.intro hf35 hs
         have hs := And.intro hf40 hs
         have hs := And.intro hf46 hs
         have hs := And.intro hf52 hs
         have hs := And.intro hf57 hs
         have hs := And.intro hk58 hs
         (repeat' apply And.intro) <;> first | refine Zaf _ (Zla w0 _ _ _ p_r7.2) (hv hs) ?_ | exact cl
         rw [Zaa]; simp +decide only [go_sem, Nat.reduceAdd, hb13, hb16, hb19, hb22, hb25, hf28, hf30, hf35, hf40, hf46, hf52, hf57, hk58]
         (repeat' with_reducible apply And.intro) <;> first | (rw [Zaa]; simp +decide only [go_sem, Nat.reduceAdd, hb13, hb16, hb19, hb22, hb25, hf28, hf30, hf35, hf40, hf46, hf52, hf57, hk58]) | exact cl
         (repeat' apply And.intro) <;> first | refine hK27 _ _ ?_ | exact cl
         clear hK27
         refine rg [2, 7, 44] hs ?_
         refine cnd h hs (fun hs h => ?_) (fun hs h => ?_)
         ·
          have hb60 := hs.1
          refine rg [2] hs ?_
          apply Zag; simp +decide only [go_sem, Nat.reduceAdd, hb13, hb16, hb19, hb22, hb25, hf28, hf30, hf35, hf40, hf46, hf52, hf57, hk58, hb60]
          have hgt := Option.some.inj h; subst hgt
          refine hKQ _ _ _ ⟨⟨B ++ [a0.cs, [.val (.int .i64 (Zco p_r7.2))], [.val .nilFunc, .clo 122 [], .clo 124 [], .clo 125 [], .clo 127 [], .clo 130 [], .clo 131 [], .clo 132 [], .clo 133 [], .clo 134 [], .clo 135 []], [.val (.int .i64 (b3_r7 + 1))], a0.cs], Rr7, L⟩, [p_r7.2.cs], by first | rfl | (simp only [List.append_assoc, List.append_nil, List.cons_append, List.nil_append]; done), ⟨by simp, by first | exact Nat.le_refl _ | (have := hO.len; simp; omega), rfl⟩, rfl, ⟨rfl, _, _, _, _, Rr7, ef hs, hO.sub (List.nil_sublist _)⟩, ?_⟩
          exact .inr (ZaF hra hra0_r7 hO rfl (by have := hO.len; have := hra0_r7.len; first | exact Nat.le_refl _ | omega) (by simp only [List.append_assoc, List.cons_append, List.nil_append]) (by (simp +decide only [go_sem, Nat.reduceAdd]) <;> (try (repeat' apply And.intro)) <;> first | omega | assumption))
         have hb60 := hs.1
         refine Zel (Zdl [] _) ?_ (Zbg _ _)
         apply ZaK; simp +decide only [go_sem, Nat.reduceAdd]
         (repeat' apply And.intro) <;> first | refine hKQ _ _ _ ⟨⟨B ++ [a0.cs, [.val (.int .i64 0)], [.val .nilFunc, .clo 122 [], .clo 124 [], .clo 125 [], .clo 127 [], .clo 130 [], .clo 131 [], .clo 132 [], .clo 133 [], .clo 134 [], .clo 135 []], [.val (.int .i64 (b3_r7 + 1))], a0.cs], Rr7, L⟩, [p_r7.2.cs], by first | rfl | (simp only [List.append_assoc, List.append_nil, List.cons_append, List.nil_append]; done), ⟨by simp, by first | exact Nat.le_refl _ | (have := hO.len; simp; omega), rfl⟩, rfl, ⟨(b3_r7 + 1), Rr7, ef hs, hO, h⟩, ?_⟩ | exact cl
         exact .inr (ZaF hra hra0_r7 hO rfl (by have := hO.len; have := hra0_r7.len; first | exact Nat.le_refl _ | omega) (by simp only [List.append_assoc, List.cons_append, List.nil_append]) (by (simp +decide only [go_sem, Nat.reduceAdd]) <;> (try (repeat' apply And.intro)) <;> first | omega | assumption))
        ·
         replace h := ZaM h hf57
         rcases Bool.eq_false_or_eq_true (decide (p_r7.2.kind = 7)) with hf62 | hf62
         ·
          replace h := ZaN h hf62
          have hk63 : p_r7.2.kind = 7 := of_decide_eq_true hf62
          apply Zak mix 7 2 1 [2, 7] (by kernel_rfl)
          rw [Zaa]; simp +decide only [go_sem, Nat.reduceAdd, hb13, hb16, hb19, hb22, hb25, hf28, hf30, hf35, hf40, hf46, hf52, hf57, hf62, hk63]
          have hs := And.intro hf28 hs
          have hs := And.intro hf30 hs
          have hs := And.intro hf35 hs
          have hs := And.intro hf40 hs
          have hs := And.intro hf46 hs
          have hs := And.intro hf52 hs
          have hs := And.intro hf57 hs
          have hs := And.intro hf62 hs
          have hs := And.intro hk63 hs
          (repeat' apply And.intro) <;> first | refine Zaf _ (Zly w0 _ _ _ p_r7.2) (hv hs) ?_ | exact cl
          rw [Zaa]; simp +decide only [go_sem, Nat.reduceAdd, hb13, hb16, hb19, hb22, hb25, hf28, hf30, hf35, hf40, hf46, hf52, hf57, hf62, hk63]
          (repeat' with_reducible apply And.intro) <;> first | (rw [Zaa]; simp +decide only [go_sem, Nat.reduceAdd, hb13, hb16, hb19, hb22, hb25, hf28, hf30, hf35, hf40, hf46, hf52, hf57, hf62, hk63]) | exact cl
          (repeat' apply And.intro) <;> first | refine hK27 _ _ ?_ | exact cl
          clear hK27
          refine rg [2, 7, 44] hs ?_
          refine cnd h hs (fun hs h => ?_) (fun hs h => ?_)
          ·
           have hb65 := hs.1
           refine rg [2] hs ?_
           apply Zag; simp +decide only [go_sem, Nat.reduceAdd, hb13, hb16, hb19, hb22, hb25, hf28, hf30, hf35, hf40, hf46, hf52, hf57, hf62, hk63, hb65]
           have hgt := Option.some.inj h; subst hgt
           refine hKQ _ _ _ ⟨⟨B ++ [a0.cs, [.val (.int .i64 (Zcr p_r7.2))], [.val .nilFunc, .clo 122 [], .clo 124 [], .clo 125 [], .clo 127 [], .clo 130 [], .clo 131 [], .clo 132 [], .clo 133 [], .clo 134 [], .clo 135 []], [.val (.int .i64 (b3_r7 + 1))], a0.cs], Rr7, L⟩, [p_r7.2.cs], by first | rfl | (simp only [List.append_assoc, List.append_nil, List.cons_append, List.nil_append]; done), ⟨by simp, by first | exact Nat.le_refl _ | (have := hO.len; simp; omega), rfl⟩, rfl, ⟨rfl, _, _, _, _, Rr7, ef hs, hO.sub (List.nil_sublist _)⟩, ?_⟩
           exact .inr (ZaF hra hra0_r7 hO rfl (by have := hO.len; have := hra0_r7.len; first | exact Nat.le_refl _ | omega) (by simp only [List.append_assoc, List.cons_append, List.nil_append]) (by (simp +decide only [go_sem, Nat.reduceAdd]) <;> (try (repeat' apply And.intro)) <;> first | omega | assumption))
          have hb65 := hs.1
          refine Zel (Zdl [] _) ?_ (Zbg _ _)
          apply ZaK; simp +decide only [go_sem, Nat.reduceAdd]
          (repeat' apply And.intro) <;> first | refine hKQ _ _ _ ⟨⟨B ++ [a0.cs, [.val (.int .i64 0)], [.val .nilFunc, .clo 122 [], .clo 124 [], .clo 125 [], .clo 127 [], .clo 130 [], .clo 131 [], .clo 132 [], .clo 133 [], .clo 134 [], .clo 135 []], [.val (.int .i64 (b3_r7 + 1))], a0.cs], Rr7, L⟩, [p_r7.2.cs], by first | rfl | (simp only [List.append_assoc, List.append_nil, List.cons_append, List.nil_append]; done), ⟨by simp, by first | exact Nat.le_refl _ | (have := hO.len; simp; omega), rfl⟩, rfl, ⟨(b3_r7 + 1), Rr7, ef hs, hO, h⟩, ?_⟩ | exact cl
          exact .inr (ZaF hra hra0_r7 hO rfl (by have := hO.len; have := hra0_r7.len; first | exact Nat.le_refl _ | omega) (by simp only [List.append_assoc, List.cons_append, List.nil_append]) (by (simp +decide only [go_sem, Nat.reduceAdd]) <;> (try (repeat' apply And.intro)) <;> first | omega | assumption))
         ·
          replace h := ZaM h hf62
          rcases Bool.eq_false_or_eq_true (decide (p_r7.2.kind = 8)) with hf67 | hf67
          ·
           replace h := ZaN h hf67
           have hk68 : p_r7.2.kind = 8 := of_decide_eq_true hf67
           apply Zak mix 7 2 1 [2, 7] (by kernel_rfl)
           rw [Zaa]; simp +decide only [go_sem, Nat.reduceAdd, hb13, hb16, hb19, hb22, hb25, hf28, hf30, hf35, hf40, hf46, hf52, hf57, hf62, hf67, hk68]
           have hs := And.intro hf28 hs
           have hs := And.intro hf30 hs
           have hs := And.intro hf35 hs
           have hs := And.intro hf40 hs
           have hs := And.intro hf46 hs
           have hs := And.intro hf52 hs
           have hs := And.intro hf57 hs
           have hs := And.intro hf62 hs
           have hs := And.intro hf67 hs
           have hs := And.intro hk68 hs
           (repeat' apply And.intro) <;> first | refine Zaf _ (Zlj w0 _ _ _ p_r7.2) (hv hs) ?_ | exact cl
           rw [Zaa]; simp +decide only [go_sem, Nat.reduceAdd, hb13, hb16, hb19, hb22, hb25, hf28, hf30, hf35, hf40, hf46, hf52, hf57, hf62, hf67, hk68]
           (repeat' with_reducible apply And.intro) <;> first | (rw [Zaa]; simp +decide only [go_sem, Nat.reduceAdd, hb13, hb16, hb19, hb22, hb25, hf28, hf30, hf35, hf40, hf46, hf52, hf57, hf62, hf67, hk68]) | exact cl
           (repeat' apply And.intro) <;> first | refine hK27 _ _ ?_ | exact cl
           clear hK27
           refine rg [2, 7, 44] hs ?_
           refine cnd h hs (fun hs h => ?_) (fun hs h => ?_)
           ·
            have hb70 := hs.1
            refine rg [2] hs ?_
            apply Zag; simp +decide only [go_sem, Nat.reduceAdd, hb13, hb16, hb19, hb22, hb25, hf28, hf30, hf35, hf40, hf46, hf52, hf57, hf62, hf67, hk68, hb70]
            have hgt := Option.some.inj h; subst hgt
            refine hKQ _ _ _ ⟨⟨B ++ [a0.cs, [.val (.int .i64 (Zcs p_r7.2))], [.val .nilFunc, .clo 122 [], .clo 124 [], .clo 125 [], .clo 127 [], .clo 130 [], .clo 131 [], .clo 132 [], .clo 133 [], .clo 134 [], .clo 135 []], [.val (.int .i64 (b3_r7 + 1))], a0.cs], Rr7, L⟩, [p_r7.2.cs], by first | rfl | (simp only [List.append_assoc, List.append_nil, List.cons_append, List.nil_append]; done), ⟨by simp, by first | exact Nat.le_refl _ | (have := hO.len; simp; omega), rfl⟩, rfl, ⟨rfl, _, _, _, _, Rr7, ef hs, hO.sub (List.nil_sublist _)⟩, ?_⟩
            exact .inr (ZaF hra hra0_r7 hO rfl (by have := hO.len; have := hra0_r7.len; first | exact Nat.le_refl _ | omega) (by simp only [List.append_assoc, List.cons_append, List.nil_append]) (by (simp +decide only [go_sem, Nat.reduceAdd]) <;> (try (repeat' apply And.intro)) <;> first | omega | assumption))
           have hb70 := hs.1
           refine Zel (Zdl [] _) ?_ (Zbg _ _)
           apply ZaK; simp +decide only [go_sem, Nat.reduceAdd]
           (repeat' apply And.intro) <;> first | refine hKQ _ _ _ ⟨⟨B ++ [a0.cs, [.val (.int .i64 0)], [.val .nilFunc, .clo 122 [], .clo 124 [], .clo 125 [], .clo 127 [], .clo 130 [], .clo 131 [], .clo 132 [], .clo 133 [], .clo 134 [], .clo 135 []], [.val (.int .i64 (b3_r7 + 1))], a0.cs], Rr7, L⟩, [p_r7.2.cs], by first | rfl | (simp only [List.append_assoc, List.append_nil, List.cons_append, List.nil_append]; done), ⟨by simp, by first | exact Nat.le_refl _ | (have := hO.len; simp; omega), rfl⟩, rfl, ⟨(b3_r7 + 1), Rr7, ef hs, hO, h⟩, ?_⟩ | exact cl
           exact .inr (ZaF hra hra0_r7 hO rfl (by have := hO.len; have := hra0_r7.len; first | exact Nat.le_refl _ | omega) (by simp only [List.append_assoc, List.cons_append, List.nil_append]) (by (simp +decide only [go_sem, Nat.reduceAdd]) <;> (try (repeat' apply And.intro)) <;> first | omega | assumption))
          ·
           replace h := ZaM h hf67
           rcases Bool.eq_false_or_eq_true (decide (p_r7.2.kind = 9)) with hf72 | hf72
           ·
            replace h := ZaN h hf72
            have hk73 : p_r7.2.kind = 9 := of_decide_eq_true hf72
            obtain ⟨y74, hy74, h⟩ := bind_some h
            apply Zak mix 7 2 1 [2, 7] (by kernel_rfl)
            rw [Zaa]; simp +decide only [go_sem, Nat.reduceAdd, hb13, hb16, hb19, hb22, hb25, hf28, hf30, hf35, hf40, hf46, hf52, hf57, hf62, hf67, hf72, hk73]
            have hs := And.intro hf28 hs
            have hs := And.intro hf30 hs
            have hs := And.intro hf35 hs
            have hs := And.intro hf40 hs
            have hs := And.intro hf46 hs
            have hs := And.intro hf52 hs
            have hs := And.intro hf57 hs
            have hs := And.intro hf62 hs
            have hs := And.intro hf67 hs
            have hs := And.intro hf72 hs
            have hs := And.intro hk73 hs
            (repeat' apply And.intro) <;> first | refine Zaf _ (Zl1 w0 n _ _ _ p_r7.2 _ hy74) (hv hs) ?_ | exact cl
            rw [Zaa]; simp +decide only [go_sem, Nat.reduceAdd, hb13, hb16, hb19, hb22, hb25, hf28, hf30, hf35, hf40, hf46, hf52, hf57, hf62, hf67, hf72, hk73]
            (repeat' with_reducible apply And.intro) <;> first | (rw [Zaa]; simp +decide only [go_sem, Nat.reduceAdd, hb13, hb16, hb19, hb22, hb25, hf28, hf30, hf35, hf40, hf46, hf52, hf57, hf62, hf67, hf72, hk73]) | exact cl
            (repeat' apply And.intro) <;> first | refine hK27 _ _ ?_ | exact cl
            clear hK27
            refine rg [2, 7, 44] hs ?_
            refine cnd h hs (fun hs h => ?_) (fun hs h => ?_)
            ·
             have hb76 := hs.1
             refine rg [2] hs ?_
             apply Zag; simp +decide only [go_sem, Nat.reduceAdd, hb13, hb16, hb19, hb22, hb25, hf28, hf30, hf35, hf40, hf46, hf52, hf57, hf62, hf67, hf72, hk73, hb76]
             have hgt := Option.some.inj h; subst hgt
             refine hKQ _ _ _ ⟨⟨B ++ [a0.cs, [.val (.int .i64 y74)], [.val .nilFunc, .clo 122 [], .clo 124 [], .clo 125 [], .clo 127 [], .clo 130 [], .clo 131 [], .clo 132 [], .clo 133 [], .clo 134 [], .clo 135 []], [.val (.int .i64 (b3_r7 + 1))], a0.cs], Rr7, L⟩, [p_r7.2.cs], by first | rfl | (simp only [List.append_assoc, List.append_nil, List.cons_append, List.nil_append]; done), ⟨by simp, by first | exact Nat.le_refl _ | (have := hO.len; simp; omega), rfl⟩, rfl, ⟨rfl, _, _, _, _, Rr7, ef hs, hO.sub (List.nil_sublist _)⟩, ?_⟩
             exact .inr (ZaF hra hra0_r7 hO rfl (by have := hO.len; have := hra0_r7.len; first | exact Nat.le_refl _ | omega) (by simp only [List.append_assoc, List.cons_append, List.nil_append]) (by (simp +decide only [go_sem, Nat.reduceAdd]) <;> (try (repeat' apply And.intro)) <;> first | omega | assumption))
            have hb76 := hs.1
            refine Zel (Zdl [] _) ?_ (Zbg _ _)
            apply ZaK; simp +decide only [go_sem, Nat.reduceAdd]
            (repeat' apply And.intro) <;> first | refine hKQ _ _ _ ⟨⟨B ++ [a0.cs, [.val (.int .i64 0)], [.val .nilFunc, .clo 122 [], .clo 124 [], .clo 125 [], .clo 127 [], .clo 130 [], .clo 131 [], .clo 132 [], .clo 133 [], .clo 134 [], .clo 135 []], [.val (.int .i64 (b3_r7 + 1))], a0.cs], Rr7, L⟩, [p_r7.2.cs], by first | rfl | (simp only [List.append_assoc, List.append_nil, List.cons_append, List.nil_append]; done), ⟨by simp, by first | exact Nat.le_refl _ | (have := hO.len; simp; omega), rfl⟩, rfl, ⟨(b3_r7 + 1), Rr7, ef hs, hO, h⟩, ?_⟩ | exact cl
            exact .inr (ZaF hra hra0_r7 hO rfl (by have := hO.len; have := hra0_r7.len; first | exact Nat.le_refl _ | omega) (by simp only [List.append_assoc, List.cons_append, List.nil_append]) (by (simp +decide only [go_sem, Nat.reduceAdd]) <;> (try (repeat' apply And.intro)) <;> first | omega | assumption))
           ·
            replace h := ZaM h hf72
            rcases Bool.eq_false_or_eq_true (decide (p_r7.2.kind = 10)) with hf78 | hf78
            ·
             replace h := ZaN h hf78
             have hk79 : p_r7.2.kind = 10 := of_decide_eq_true hf78
             obtain ⟨y80, hy80, h⟩ := bind_some h
             apply Zak mix 7 2 1 [2, 7] (by kernel_rfl)
             rw [Zaa]; simp +decide only [go_sem, Nat.reduceAdd, hb13, hb16, hb19, hb22, hb25, hf28, hf30, hf35, hf40, hf46, hf52, hf57, hf62, hf67, hf72, hf78, hk79]
             have hs := And.intro hf28 hs
             have hs := And.intro hf30 hs
             have hs := And.intro hf35 hs
             have hs := And.intro hf40 hs
             have hs := And.intro hf46 hs
             have hs := And.intro hf52 hs
             have hs := And.intro hf57 hs
             have hs := And.intro hf62 hs
             have hs := And.intro hf67 hs
             have hs := And.intro hf72 hs
             have hs := And.intro hf78 hs
             have hs := And.intro hk79 hs
             (repeat' apply And.intro) <;> first | refine Zaf _ (ZlE w0 _ _ _ p_r7.2 _ hy80) (hv hs) ?_ | exact cl
             rw [Zaa]; simp +decide only [go_sem, Nat.reduceAdd, hb13, hb16, hb19, hb22, hb25, hf28, hf30, hf35, hf40, hf46, hf52, hf57, hf62, hf67, hf72, hf78, hk79]
             (repeat' with_reducible apply And.intro) <;> first | (rw [Zaa]; simp +decide only [go_sem, Nat.reduceAdd, hb13, hb16, hb19, hb22, hb25, hf28, hf30, hf35, hf40, hf46, hf52, hf57, hf62, hf67, hf72, hf78, hk79]) | exact cl
             (repeat' apply And.intro) <;> first | refine hK27 _ _ ?_ | exact cl
             clear hK27
             refine rg [2, 7, 44] hs ?_
             refine cnd h hs (fun hs h => ?_) (fun hs h => ?_)
             ·
              have hb82 := hs.1
              refine rg [2] hs ?_
              apply Zag; simp +decide only [go_sem, Nat.reduceAdd, hb13, hb16, hb19, hb22, hb25, hf28, hf30, hf35, hf40, hf46, hf52, hf57, hf62, hf67, hf72, hf78, hk79, hb82]
              have hgt := Option.some.inj h; subst hgt
              refine hKQ _ _ _ ⟨⟨B ++ [a0.cs, [.val (.int .i64 y80)], [.val .nilFunc, .clo 122 [], .clo 124 [], .clo 125 [], .clo 127 [], .clo 130 [], .clo 131 [], .clo 132 [], .clo 133 [], .clo 134 [], .clo 135 []], [.val (.int .i64 (b3_r7 + 1))], a0.cs], Rr7, L⟩, [p_r7.2.cs], by first | rfl | (simp only [List.append_assoc, List.append_nil, List.cons_append, List.nil_append]; done), ⟨by simp, by first | exact Nat.le_refl _ | (have := hO.len; simp; omega), rfl⟩, rfl, ⟨rfl, _, _, _, _, Rr7, ef hs, hO.sub (List.nil_sublist _)⟩, ?_⟩
              exact .inr (ZaF hra hra0_r7 hO rfl (by have := hO.len; have := hra0_r7.len; first | exact Nat.le_refl _ | omega) (by simp only [List.append_assoc, List.cons_append, List.nil_append]) (by (simp +decide only [go_sem, Nat.reduceAdd]) <;> (try (repeat' apply And.intro)) <;> first | omega | assumption))
             have hb82 := hs.1
             refine Zel (Zdl [] _) ?_ (Zbg _ _)
             apply ZaK; simp +decide only [go_sem, Nat.reduceAdd]
             (repeat' apply And.intro) <;> first | refine hKQ _ _ _ ⟨⟨B ++ [a0.cs, [.val (.int .i64 0)], [.val .nilFunc, .clo 122 [], .clo 124 [], .clo 125 [], .clo 127 [], .clo 130 [], .clo 131 [], .clo 132 [], .clo 133 [], .clo 134 [], .clo 135 []], [.val (.int .i64 (b3_r7 + 1))], a0.cs], Rr7, L⟩, [p_r7.2.cs], by first | rfl | (simp only [List.append_assoc, List.append_nil, List.cons_append, List.nil_append]; done), ⟨by simp, by first | exact Nat.le_refl _ | (have := hO.len; simp; omega), rfl⟩, rfl, ⟨(b3_r7 + 1), Rr7, ef hs, hO, h⟩, ?_⟩ | exact cl
             exact .inr (ZaF hra hra0_r7 hO rfl (by have := hO.len; have := hra0_r7.len; first | exact Nat.le_refl _ | omega) (by simp only [List.append_assoc, List.cons_append, List.nil_append]) (by (simp +decide only [go_sem, Nat.reduceAdd]) <;> (try (repeat' apply And.intro)) <;> first | omega | assumption))
            ·
             replace h := ZaM h hf78
             cases h
 ·
  rintro s la ⟨XB, XR, XL⟩ hXR ⟨b3_r7, Rr7, rfl, hO, h⟩ _ _
  simp only at hXR
  subst hXR
  rw [List.drop_eq_nil_of_le (by rw [Zh4]; exact Nat.le_refl _), ZaY] at h
  simp only [St.ext, St.push, List.append_assoc, List.append_nil]
  (repeat' apply And.intro) <;> first | refine hK4 _ _ ?_ | exact cl
  clear hK4
  refine Zmh (bs := [a0.cs, [.val (.int .i64 0)], [.val .nilFunc, .clo 122 [], .clo 124 [], .clo 125 [], .clo 127 [], .clo 130 [], .clo 131 [], .clo 132 [], .clo 133 [], .clo 134 [], .clo 135 []], [.val (.int .i64 b3_r7)], a0.cs]) hN hNR hNL rfl hcalm hO (by (simp +decide only [go_sem, Nat.reduceAdd]) <;> (try (repeat' apply And.intro)) <;> first | omega | assumption) (by (simp +decide only [go_sem, Nat.reduceAdd, Zcb]) <;> (try (repeat' apply And.intro)) <;> first | omega | assumption) ?_
  refine rg [2] hs ?_
  exact rt h hs hcalm hO
 ·
  rintro ex s la ⟨XB, XR, XL⟩ hXR ⟨rfl, z0, z2, z3, z4, rows, rfl, hO⟩ _ _
  simp only at hXR
  subst hXR
  simp only [St.ext, St.push, List.append_assoc, List.append_nil]
  simp +decide only [go_sem, Nat.reduceAdd]
  (repeat' with_reducible apply And.intro) <;> first | refine ZyJ hcalm rfl hO.pre ev ⟨?_, rfl⟩ | (intros; omega) | (intros; simp_all; done)
  first | rfl | (simp +decide only [go_sem, Nat.reduceAdd]; done)
theorem ZhQ {j : Nat} : ((j + 1 : Nat) : Int) - 1 = (j : Int) := by omega
theorem Zlb {j : Nat} : decide (0 < ((j + 1 : Nat) : Int)) = true := decide_eq_true (by omega)
theorem Zio {k : Nat} (h : k < 1000000000000) : I64 (k : Int) := by unfold I64; omega
def Zrp : Option ByteArray → List ByteArray → Int
 | _, [] => 0
 | none, x :: r => if Zcf x = true then Zrp (some x) r else 12
 | some p, x :: r => if Zcf x = true then (if sEq x p = true then 7 else if sLt x p = true then 24 else Zrp (some x) r) else 12
def Zoy (l : List (ByteArray × Vl)) : Nat → Option ByteArray
 | 0 => none
 | i + 1 => (l[i]?).map Prod.fst
theorem ZpV (n : Nat) (l : List (ByteArray × Vl)) (hl : (l).length ≤ 1000000000) (hz : ∀ p ∈ l, p.1.size ≤ maxLen) : ∀ (k m i : Nat), i + k = (l).length → k < m → ZbF n l m i = some (Zrp (Zoy (l) i) (((l).map Prod.fst).drop i))
 | k, 0, i, _, h => absurd h (Nat.not_lt_zero _)
 | 0, m + 1, i, hi, _ => by
  rw [ZbF, Zao, decide_eq_false (by omega)]
  simp only [Bool.false_eq_true, if_false, Zfj]
  rw [List.drop_eq_nil_of_le (by rw [List.length_map]; omega)]
  cases Zoy (l) i <;> rfl
 | k + 1, m + 1, i, hi, hm => by
  have hlt : i < (l).length := by omega
  have ih := ZpV n l hl hz k m (i + 1) (by omega) (by omega)
  rw [ZbF, Zao, decide_eq_true hlt]
  simp only [if_true, Zan hlt, Option.bind_some]
  rw [if_pos (hz _ (List.getElem_mem hlt)), List.drop_eq_getElem_cons (by rw [List.length_map]; omega), List.getElem_map]
  have hp : Zoy (l) (i + 1) = some (l)[i].1 := by simp only [Zoy, List.getElem?_eq_getElem hlt]; rfl
  rw [hp] at ih
  cases i with
  | zero =>
   simp only [Zoy, Zrp]
   by_cases hb : Zcf (l)[0].1 = true
   ·
    rw [if_pos hb, hb]
    simp only [Bool.not_true, Bool.false_eq_true, if_false]
    rw [if_neg (by decide), if_pos (Zaq (by omega))]
    exact ih
   ·
    rw [if_neg hb, Bool.eq_false_iff.2 hb]; rfl
  | succ j =>
   have hj : j < (l).length := by omega
   have hq : Zoy (l) (j + 1) = some (l)[j].1 := by simp only [Zoy, List.getElem?_eq_getElem hj]; rfl
   rw [hq]
   simp only [Zrp]
   by_cases hb : Zcf (l)[j + 1].1 = true
   ·
    rw [if_pos hb, hb]
    simp only [Bool.not_true, Bool.false_eq_true, if_false, Zlb, if_true, ZhQ]
    have hI : I64 (j : Int) := Zio (by omega)
    simp only [if_pos hI, Zan hj, Option.bind_some]
    by_cases h1 : sEq (l)[j + 1].1 (l)[j].1 = true
    ·
     rw [if_pos h1, if_pos h1]
    ·
     rw [if_neg h1, if_neg h1]
     by_cases h2 : sLt (l)[j + 1].1 (l)[j].1 = true
     ·
      rw [if_pos h2, if_pos h2]
     ·
      rw [if_neg h2, if_neg h2, if_pos (Zaq (by omega))]
      exact ih
   ·
    rw [if_neg hb, Bool.eq_false_iff.2 hb]; rfl
theorem Zqa (n : Nat) (v : Vl) (hl : (v.fields).length ≤ 1000000000) (hz : ∀ p ∈ v.fields, p.1.size ≤ maxLen) : ∀ (k m i : Nat), i + k = (v.fields).length → k < m → ZbD n v m i = some (Zrp (Zoy (v.fields) i) (((v.fields).map Prod.fst).drop i))
 | k, 0, i, _, h => absurd h (Nat.not_lt_zero _)
 | 0, m + 1, i, hi, _ => by
  rw [ZbD, Zao, decide_eq_false (by omega)]
  simp only [Bool.false_eq_true, if_false, Zfi]
  rw [List.drop_eq_nil_of_le (by rw [List.length_map]; omega)]
  cases Zoy (v.fields) i <;> rfl
 | k + 1, m + 1, i, hi, hm => by
  have hlt : i < (v.fields).length := by omega
  have ih := Zqa n v hl hz k m (i + 1) (by omega) (by omega)
  rw [ZbD, Zao, decide_eq_true hlt]
  simp only [if_true, Zan hlt, Option.bind_some]
  rw [if_pos (hz _ (List.getElem_mem hlt)), List.drop_eq_getElem_cons (by rw [List.length_map]; omega), List.getElem_map]
  have hp : Zoy (v.fields) (i + 1) = some (v.fields)[i].1 := by simp only [Zoy, List.getElem?_eq_getElem hlt]; rfl
  rw [hp] at ih
  cases i with
  | zero =>
   simp only [Zoy, Zrp]
   by_cases hb : Zcf (v.fields)[0].1 = true
   ·
    rw [if_pos hb, hb]
    simp only [Bool.not_true, Bool.false_eq_true, if_false]
    rw [if_neg (by decide), if_pos (Zaq (by omega))]
    exact ih
   ·
    rw [if_neg hb, Bool.eq_false_iff.2 hb]; rfl
  | succ j =>
   have hj : j < (v.fields).length := by omega
   have hq : Zoy (v.fields) (j + 1) = some (v.fields)[j].1 := by simp only [Zoy, List.getElem?_eq_getElem hj]; rfl
   rw [hq]
   simp only [Zrp]
   by_cases hb : Zcf (v.fields)[j + 1].1 = true
   ·
    rw [if_pos hb, hb]
    simp only [Bool.not_true, Bool.false_eq_true, if_false, Zlb, if_true, ZhQ]
    have hI : I64 (j : Int) := Zio (by omega)
    simp only [if_pos hI, Zan hj, Option.bind_some]
    by_cases h1 : sEq (v.fields)[j + 1].1 (v.fields)[j].1 = true
    ·
     rw [if_pos h1, if_pos h1]
    ·
     rw [if_neg h1, if_neg h1]
     by_cases h2 : sLt (v.fields)[j + 1].1 (v.fields)[j].1 = true
     ·
      rw [if_pos h2, if_pos h2]
     ·
      rw [if_neg h2, if_neg h2, if_pos (Zaq (by omega))]
      exact ih
   ·
    rw [if_neg hb, Bool.eq_false_iff.2 hb]; rfl
def Zfr (v : Vl) : Int :=
 if Zbt v = true then 19
 else if v.kind < 1 ∨ 10 < v.kind then 11
 else if Za0 v = true then 3
 else if v.kind = 1 then (if ZaC v.int 0 1 = true then 2 else 0)
 else if v.kind = 2 then (if ZaC v.int (-999999999999999) 999999999999999 = true ∨ ZaC v.scale 0 12 = true then 2 else 0)
 else if v.kind = 3 then (if ZaC v.int (-999999999999999) 999999999999999 = true ∨ ZaC v.scale 0 12 = true then 2 else 0)
 else if v.kind = 4 then (if 1024 < v.text.size then 5 else if Lib.validD v.text.data.toList = true then 0 else 16)
 else if v.kind = 5 then (if 1024 < v.text.size then 5 else 0)
 else if v.kind = 6 then (if ZaC v.int (-719162) 2932896 = true then 2 else 0)
 else if v.kind = 7 then (if ZaC v.int (-62135596800000) 253402300799999 = true then 2 else 0)
 else if v.kind = 8 then (if 256 < v.list.length then 9 else 0)
 else if v.kind = 9 then (if 64 < v.fields.length then 9 else Zrp none (v.fields.map Prod.fst))
 else if Zcf v.text = true then (if v.list.length = 0 then 4 else if 1 < v.list.length then 3 else 0) else 12
theorem Zdb {k : Int} (h : ¬ (k < 1 ∨ 10 < k)) : k = 1 ∨ k = 2 ∨ k = 3 ∨ k = 4 ∨ k = 5 ∨ k = 6 ∨ k = 7 ∨ k = 8 ∨ k = 9 ∨ k = 10 := by omega
theorem ZrP (n : Nat) (v : Vl) (hn : v.fields.length < n) (hs : v.fields.length ≤ 1000000000) (hv : v.ok) : Zif n v = some (Zfr v) := by
 obtain ⟨o1, _, o3⟩ := v.ok_eq.1 hv
 have hz : ∀ p ∈ v.fields, p.1.size ≤ maxLen := fun p hp => Zhm (by have := (o3 p hp).1; omega)
 have hf : ZeH n v.fields = some (if 64 < v.fields.length then 9 else Zrp none (v.fields.map Prod.fst)) := by
  rw [ZeH]
  by_cases h : 64 < v.fields.length
  ·
   rw [if_pos h, if_pos (decide_eq_true (by omega))]
  ·
   rw [if_neg h, if_neg (by rw [decide_eq_true_eq]; omega)]
   exact ZpV n v.fields hs hz v.fields.length n 0 (by omega) hn
 have ht : v.text.size ≤ maxLen := Zhm o1
 rw [Zif, Zfr, show ZgD v = Zbt v from rfl]
 by_cases h1 : Zbt v = true
 ·
  rw [if_pos h1, if_pos h1]
 rw [if_neg h1, if_neg h1]
 by_cases h2 : v.kind < 1 ∨ 10 < v.kind
 ·
  rw [if_pos h2, if_pos (by simpa using h2)]
 rw [if_neg h2, if_neg (by simpa using h2)]
 by_cases h3 : Za0 v = true
 ·
  rw [if_pos h3, if_pos h3]
 rw [if_neg h3, if_neg h3]
 rcases Zdb h2 with hk | hk | hk | hk | hk | hk | hk | hk | hk | hk <;>
  simp only [hk, ZfB, Zfv, ZbT, hf, ht, if_true, Option.bind_some] <;> simp
 all_goals (repeat' split) <;> first | rfl | (exfalso; omega) | simp_all
theorem ZuG (v : Vl) (h : ¬ (v.kind < 1 ∨ 10 < v.kind)) : Zg8 v = !Za0 v := by
 have hp : ∀ x : Nat, decide (0 < (x : Int)) = !decide ((x : Int) = 0) := fun x => by
  by_cases h : x = 0
  ·
   subst h; rfl
  ·
   rw [decide_eq_true (show 0 < (x : Int) by omega), decide_eq_false (show ¬ (x : Int) = 0 by omega)]; rfl
 rw [Zg8, Za0]
 simp only [hp]
 rcases Zdb h with hk | hk | hk | hk | hk | hk | hk | hk | hk | hk <;> simp only [hk] <;> simp [Bool.and_assoc]
theorem Zxa (n : Nat) (hn : 3 ≤ n) (a b : Int) : ZgE n [a, b] = some (if a = 0 then b else a) := by
 obtain ⟨m, rfl⟩ : ∃ m, n = m + 3 := ⟨n - 3, by omega⟩
 rw [ZgE, Zdw]
 simp only [List.length_cons, List.length_nil]
 rw [if_pos (by simp), show idx [a, b] 0 = some a from rfl]
 simp only [Option.bind_some]
 by_cases h : a = 0
 ·
  rw [decide_eq_true h, if_neg (by decide), if_pos (by decide), if_pos h, Zdw]
  simp only [List.length_cons, List.length_nil]
  rw [if_pos (by simp), show idx [a, b] (0 + 1) = some b from rfl]
  simp only [Option.bind_some]
  by_cases h2 : b = 0
  ·
   rw [decide_eq_true h2, if_neg (by decide), if_pos (by decide), Zdw]
   simp only [List.length_cons, List.length_nil]
   rw [if_neg (by simp), ZgU, h2]
  ·
   rw [decide_eq_false h2, if_pos (by decide)]
 ·
  rw [decide_eq_false h, if_pos (by decide), if_neg h]
theorem ZrH (n : Nat) (hn : 3 ≤ n) (v : Vl) (hfl : v.fields.length < n) (hs : v.fields.length ≤ 1000000000) (hv : v.ok) (h1 : ¬ Zbt v = true) (h2 : ¬ (v.kind < 1 ∨ 10 < v.kind)) (h3 : ¬ Za0 v = true) :
  (v.kind = 1 → Zcv v = Zfr v) ∧ (v.kind = 2 → Zcn v = Zfr v) ∧ (v.kind = 3 → ZeT n v = some (Zfr v)) ∧ (v.kind = 4 → ZeJ v = some (Zfr v)) ∧ (v.kind = 5 → Zcm v = Zfr v) ∧
  (v.kind = 6 → Zco v = Zfr v) ∧ (v.kind = 7 → Zcr v = Zfr v) ∧ (v.kind = 8 → Zcs v = Zfr v) ∧ (v.kind = 9 → ZeK n v = some (Zfr v)) ∧ (v.kind = 10 → Zd3 v = some (Zfr v)) := by
 obtain ⟨o1, _, o3⟩ := v.ok_eq.1 hv
 have hz : ∀ p ∈ v.fields, p.1.size ≤ maxLen := fun p hp => Zhm (by have := (o3 p hp).1; omega)
 have ht : v.text.size ≤ maxLen := Zhm o1
 rw [Zfr, if_neg h1, if_neg h2, if_neg h3]
 refine ⟨fun hk => ?_, fun hk => ?_, fun hk => ?_, fun hk => ?_, fun hk => ?_, fun hk => ?_, fun hk => ?_, fun hk => ?_, fun hk => ?_, fun hk => ?_⟩
 ·
  simp [hk, Zcv, ZaV, ZaC]
 ·
  have hsc : v.scale = 0 := by
   rw [Za0] at h3
   simp [hk] at h3
   exact h3.1.1.1
  simp [hk, hsc, Zcn, ZaV, ZaC]
 ·
  rw [ZeT, Zxa n hn]
  simp [hk, ZaV, ZaC]
  by_cases q : v.int < -999999999999999 ∨ 999999999999999 < v.int
  ·
   simp [q]; omega
  ·
   simp [q]; omega
 ·
  rw [ZeJ]
  simp only [hk, Zbj, Zc8, if_pos ht]
  simp
  (repeat' split) <;> first | rfl | (exfalso; omega) | simp_all
 ·
  simp [hk, Zcm, Zbj]
  (repeat' split) <;> first | rfl | (exfalso; omega) | simp_all
 ·
  simp [hk, Zco, ZaV, ZaC]
 ·
  simp [hk, Zcr, ZaV, ZaC]
 ·
  simp [hk, Zcs, Zbj]
  (repeat' split) <;> first | rfl | (exfalso; omega) | simp_all
 ·
  rw [ZeK]
  by_cases h : 64 < v.fields.length
  ·
   simp [hk, Zbj, h, show (64 : Int) < (v.fields.length : Int) by omega]
  ·
   have e := Zqa n v hs hz v.fields.length n 0 (by omega) hfl
   simp only [List.drop_zero] at e
   simp only [hk, Zbj, decide_eq_false (show ¬ (64 : Int) < (v.fields.length : Int) by omega), Bool.false_eq_true, if_false, decide_true, Bool.not_true, if_neg h]
   exact e
 ·
  rw [Zd3, if_pos ht]
  simp only [hk, Zbj]
  simp
  (repeat' split) <;> first | rfl | (exfalso; omega) | simp_all
theorem ZuU (n : Nat) (hn : 3 ≤ n) (lv : Nat) (v : Vl) (rest : List (Nat × Vl)) (c : Int) (hfl : v.fields.length < n) (hs : v.fields.length ≤ 1000000000) (hv : v.ok) :
  ZaY n ((lv, v) :: rest) c = if I64 (c + 1) then (if 4096 < c + 1 then some 9 else if 8 < (lv : Int) then some 23 else if Zfr v = 0 then ZaY n rest (c + 1) else some (Zfr v)) else none := by
 rw [ZaY]
 by_cases hI : I64 (c + 1)
 rotate_left
 ·
  rw [if_neg hI, if_neg hI]
 rw [if_pos hI, if_pos hI]
 by_cases q1 : 4096 < c + 1
 ·
  rw [if_pos q1, if_pos (decide_eq_true q1)]
 rw [if_neg q1, if_neg (by simpa using q1)]
 by_cases q2 : 8 < (lv : Int)
 ·
  rw [if_pos q2, if_pos (decide_eq_true q2)]
 rw [if_neg q2, if_neg (by simpa using q2)]
 simp only
 by_cases h1 : Zbt v = true
 ·
  have : Zfr v = 19 := by rw [Zfr, if_pos h1]
  rw [if_pos h1, this]; rfl
 rw [if_neg h1]
 by_cases h2 : v.kind < 1 ∨ 10 < v.kind
 ·
  have : Zfr v = 11 := by rw [Zfr, if_neg h1, if_pos h2]
  rw [if_pos (by simpa using h2), this]; rfl
 rw [if_neg (by simpa using h2), ZuG v h2]
 by_cases h3 : Za0 v = true
 ·
  have : Zfr v = 3 := by rw [Zfr, if_neg h1, if_neg h2, if_pos h3]
  rw [h3, this]; rfl
 rw [Bool.eq_false_iff.2 h3]
 obtain ⟨r1, r2, r3, r4, r5, r6, r7, r8, r9, r10⟩ := ZrH n hn v hfl hs hv h1 h2 h3
 rcases Zdb h2 with hk | hk | hk | hk | hk | hk | hk | hk | hk | hk
 ·
  have e := r1 hk; by_cases z : Zfr v = 0 <;> simp [hk, e, z]
 ·
  have e := r2 hk; by_cases z : Zfr v = 0 <;> simp [hk, e, z]
 ·
  have e := r3 hk; by_cases z : Zfr v = 0 <;> simp [hk, e, z]
 ·
  have e := r4 hk; by_cases z : Zfr v = 0 <;> simp [hk, e, z]
 ·
  have e := r5 hk; by_cases z : Zfr v = 0 <;> simp [hk, e, z]
 ·
  have e := r6 hk; by_cases z : Zfr v = 0 <;> simp [hk, e, z]
 ·
  have e := r7 hk; by_cases z : Zfr v = 0 <;> simp [hk, e, z]
 ·
  have e := r8 hk; by_cases z : Zfr v = 0 <;> simp [hk, e, z]
 ·
  have e := r9 hk; by_cases z : Zfr v = 0 <;> simp [hk, e, z]
 ·
  have e := r10 hk; by_cases z : Zfr v = 0 <;> simp [hk, e, z]
def Zm9 : List (Nat × Vl) → Int → Int
 | [], _ => 0
 | p :: r, c => if 4096 < c + 1 then 9 else if 8 < (p.1 : Int) then 23 else if Zfr p.2 = 0 then Zm9 r (c + 1) else Zfr p.2
def Zvq (v : Vl) : Int := Zm9 (Zgj 1 v) 0
theorem ZmA {v x : Vl} (h : x ∈ Zba v) : x ∈ v.list ∨ ∃ p ∈ v.fields, p.2 = x := by
 unfold Zba at h
 split at h
 ·
  exact .inl h
 ·
  split at h
  ·
   obtain ⟨p, hp, rfl⟩ := List.mem_map.1 h; exact .inr ⟨p, hp, rfl⟩
  ·
   simp at h
theorem ZeA {v x : Vl} (h : x ∈ Zba v) : x.size < v.size := by
 rcases ZmA h with h | ⟨p, hp, rfl⟩
 ·
  exact v.list_size x h
 ·
  exact v.field_size p hp
theorem Zoc {v x : Vl} (hv : v.ok) (h : x ∈ Zba v) : x.ok := by
 obtain ⟨_, o2, o3⟩ := v.ok_eq.1 hv
 rcases ZmA h with h | ⟨p, hp, rfl⟩
 ·
  exact o2 x h
 ·
  exact (o3 p hp).2
theorem Zua : ∀ (k : Nat) (v : Vl) (lv : Nat), v.size ≤ k → v.ok → ∀ p ∈ Zgj lv v, p.2.ok ∧ p.2.size ≤ v.size
 | 0, v, lv, h, hv, p, hp => absurd h (by have := v.size_eq; omega)
 | k + 1, v, lv, h, hv, p, hp => by
  rw [Zht] at hp
  rcases List.mem_cons.1 hp with rfl | hp
  ·
   exact ⟨hv, Nat.le_refl _⟩
  ·
   obtain ⟨x, hx, hp⟩ := List.mem_flatMap.1 hp
   have := ZeA hx
   obtain ⟨h1, h2⟩ := Zua k x (lv + 1) (by omega) (Zoc hv hx) p hp
   exact ⟨h1, by omega⟩
theorem ZfC (v : Vl) : v.fields.length < v.size := by have := ZgX v.fields; have := v.size_eq; omega
theorem Zl0 (n : Nat) (hn : 3 ≤ n) : ∀ (l : List (Nat × Vl)) (c : Int), (∀ p ∈ l, p.2.ok ∧ p.2.size ≤ 1000000000 ∧ p.2.size < n) → 0 ≤ c → c ≤ 4096 → ZaY n l c = some (Zm9 l c)
 | [], c, _, _, _ => rfl
 | p :: r, c, hl, h1, h2 => by
  obtain ⟨o1, o2, o3⟩ := hl p (List.mem_cons_self ..)
  have := ZfC p.2
  rw [show p = (p.1, p.2) from rfl, ZuU n hn p.1 p.2 r c (by omega) (by omega) o1, if_pos (by unfold I64; omega), Zm9]
  simp only
  split
  ·
   rfl
  ·
   split
   ·
    rfl
   ·
    split
    ·
     exact Zl0 n hn r (c + 1) (fun q hq => hl q (List.mem_cons_of_mem _ hq)) (by omega) (by omega)
    ·
     rfl
theorem Zm7 (n : Nat) (v : Vl) (hn : v.size + 3 ≤ n) (hs : v.size < 1048576) (hv : v.ok) : ZeR n v = some (Zvq v) := by
 rw [ZeR, if_pos hs]
 exact Zl0 n (by omega) _ 0 (fun p hp => by obtain ⟨h1, h2⟩ := Zua v.size v 1 (Nat.le_refl _) hv p hp; exact ⟨h1, by omega, by omega⟩) (by omega) (by omega)
theorem Zq8 (n : Nat) (v : Vl) (hs : v.fields.length ≤ 1000000000) : ∀ (k m i : Nat) (x : List Vl), i + k = v.fields.length → k < m → x.length = i → Zct n v m x i = some (x ++ (v.fields.drop i).map (·.2))
 | k, 0, i, _, _, h, _ => absurd h (Nat.not_lt_zero _)
 | 0, m + 1, i, x, hi, _, _ => by
  rw [Zct, Zao, decide_eq_false (by omega)]
  simp only [Bool.false_eq_true, if_false, ZdN]
  rw [List.drop_eq_nil_of_le (by omega), List.map_nil, List.append_nil]
 | k + 1, m + 1, i, x, hi, hm, hx => by
  have hlt : i < v.fields.length := by omega
  rw [Zct, Zao, decide_eq_true hlt]
  simp only [if_true, Zan hlt, Option.bind_some]
  rw [if_pos (by omega), if_pos (Zaq (by omega))]
  have ih := Zq8 n v hs k m (i + 1) (x ++ [v.fields[i].2]) (by omega) (by omega) (by simp [hx])
  rw [List.drop_eq_getElem_cons hlt, List.map_cons]
  rw [List.append_assoc] at ih
  exact ih
theorem ZkE (n : Nat) (v : Vl) (hn : v.size ≤ n) (hs : v.size ≤ 1000000000) : Zey n v = some (Zba v) := by
 have a := Zis v.list
 have b := ZgX v.fields
 have c := v.size_eq
 have h8 : ∀ b : Bool, b = true → Zc7 n v b = some v.list := fun b hb => by
  rw [Zc7, if_pos hb, if_pos (by omega)]; rfl
 rw [Zey, Zba]
 by_cases h1 : v.kind = 8
 ·
  rw [if_pos (decide_eq_true h1), h8 true rfl, if_pos (.inl h1)]
 ·
  rw [if_neg (by rw [decide_eq_true_eq]; exact h1)]
  by_cases h2 : v.kind = 10
  ·
   rw [h8 _ (decide_eq_true h2), if_pos (.inr h2)]
  ·
   rw [if_neg (by omega), Zc7, if_neg (by rw [decide_eq_true_eq]; exact h2)]
   by_cases h3 : v.kind = 9
   ·
    rw [if_pos (decide_eq_true h3), if_pos h3]
    have := Zq8 n v (by omega) v.fields.length n 0 [] (by omega) (by omega) rfl
    rw [List.drop_zero, List.nil_append] at this
    exact this
   ·
    rw [if_neg (by rw [decide_eq_true_eq]; exact h3), if_neg h3]; rfl
theorem Zqm (n : Nat) (ag : List Itm → Int → Option Int) (c : Int) (it : Itm) (ys : List Vl) (h1 : I64 (it.level + 1)) (h2 : I64 (c + 1)) : ∀ (k m : Nat) (s : List Itm), k ≤ ys.length → k < m → s.length + k ≤ 1000000000 →
  ZcD n ag c it ys m s ((k : Int) - 1) = ag (s ++ ((ys.take k).map fun y => Itm.mk y (it.level + 1)).reverse) (c + 1)
 | k, 0, s, _, h, _ => absurd h (Nat.not_lt_zero _)
 | 0, m + 1, s, _, _, _ => by
  rw [ZcD, if_neg (by simp), Ze8, if_pos h2]
  simp
 | k + 1, m + 1, s, hk, hm, hs2 => by
  have hlt : k < ys.length := by omega
  rw [ZcD, if_pos (by simp), ZhQ, Zan hlt]
  simp only [Option.bind_some]
  rw [if_pos h1, if_pos (by omega), if_pos (by unfold I64; omega), Zqm n ag c it ys h1 h2 k m _ (by omega) (by omega) (by simp; omega)]
  rw [List.take_succ_eq_append_getElem hlt, List.map_append, List.reverse_append, List.append_assoc]
  rfl
def ZoB (s : List Itm) : List (Nat × Vl) := s.reverse.flatMap fun it => Zgj it.level.toNat it.v
def szS (s : List Itm) : Nat := (s.map fun it => it.v.size).sum
theorem Zq0 (s t : List Itm) : szS (s ++ t) = szS s + szS t := by simp [szS]
theorem Zu3 (s : List Itm) : szS s.reverse = szS s := by unfold szS; rw [List.map_reverse, List.sum_reverse]
theorem Zox : ∀ l : List Vl, Zep l = (l.map Vl.size).sum
 | [] => rfl
 | v :: r => by simp [Zep, Zox r]
theorem Zn1 : ∀ l : List (ByteArray × Vl), Zd7 l = (l.map fun p => p.2.size).sum
 | [] => rfl
 | (_, v) :: r => by simp [Zd7, Zn1 r]
theorem ZmJ (v : Vl) : ((Zba v).map Vl.size).sum < v.size := by
 have c := v.size_eq
 unfold Zba
 split
 ·
  rw [← Zox]; omega
 ·
  split
  ·
   rw [List.map_map]
   have := Zn1 v.fields
   have e : (v.fields.map (Vl.size ∘ fun x => x.2)).sum = Zd7 v.fields := this.symm
   omega
  ·
   simp; omega
theorem ZqT (l : List Vl) (z : Int) : szS (l.map fun y => Itm.mk y z) = (l.map Vl.size).sum := by
 unfold szS; rw [List.map_map]; rfl
theorem ZnC : ∀ s : List Itm, s.length ≤ szS s
 | [] => Nat.le_refl _
 | it :: r => by have := ZnC r; have := it.v.size_eq; simp [szS] at *; omega
theorem ZtY (n : Nat) : ∀ (m : Nat) (s : List Itm) (c : Int), szS s < m → szS s ≤ 1000000000 → (∀ it ∈ s, 0 ≤ it.level ∧ it.level ≤ 9 ∧ it.v.ok ∧ it.v.size < n) → 0 ≤ c → c ≤ 4096 → Zb5 n m s c = some (Zm9 (ZoB s) c)
 | 0, s, c, h, _, _, _, _ => absurd h (Nat.not_lt_zero _)
 | m + 1, s, c, h, hz, hs, h1, h2 => by
  have hlen := ZnC s
  rw [Zb5]
  rcases List.eq_nil_or_concat s with rfl | ⟨t, it, rfl⟩
  ·
   rfl
  ·
   rw [List.concat_eq_append] at *
   obtain ⟨q1, q2, q3, q4⟩ := hs it (by simp)
   have e1 : (((t ++ [it]).length : Int)) - 1 = (t.length : Int) := by rw [List.length_append]; simp
   have e2 : idx (t ++ [it]) (t.length : Int) = some it := by
    rw [Zan (by simp)]; simp
   have hsz : szS (t ++ [it]) = szS t + it.v.size := by rw [Zq0]; simp [szS]
   have hl2 : (t ++ [it]).length = t.length + 1 := by simp
   rw [e1, e2, if_pos (by rw [decide_eq_true_eq]; omega), if_pos (Zio (by omega))]
   simp only [Option.bind_some]
   rw [if_pos (Zio (by omega)), if_pos ⟨by omega, by omega⟩]
   have hfl : ZoB (t ++ [it]) = (it.level.toNat, it.v) :: ((Zba it.v).flatMap (Zgj (it.level.toNat + 1)) ++ ZoB t) := by
    unfold ZoB
    rw [List.reverse_append, List.flatMap_append]
    simp only [List.reverse_cons, List.reverse_nil, List.nil_append, List.flatMap_cons, List.flatMap_nil, List.append_nil]
    rw [Zht]; rfl
   rw [hfl, Zm9]
   by_cases c1 : 4096 < c + 1
   ·
    rw [if_pos (decide_eq_true (by omega)), if_pos c1]
   rw [if_neg (by rw [decide_eq_true_eq]; omega), if_neg c1]
   have hlv : ((it.level.toNat : Nat) : Int) = it.level := by omega
   simp only [hlv]
   by_cases c2 : 8 < it.level
   ·
    rw [if_pos (decide_eq_true c2), if_pos c2]
   have hfn := ZfC it.v
   rw [if_neg (by rw [decide_eq_true_eq]; exact c2), if_neg c2, ZrP n it.v (by omega) (by omega) q3]
   simp only [Option.bind_some]
   by_cases c3 : Zfr it.v = 0
   rotate_left
   ·
    rw [decide_eq_false c3, if_neg c3]; rfl
   rw [decide_eq_true c3, if_pos c3, ZkE n it.v (by omega) (by omega)]
   simp only [Bool.not_true, Bool.false_eq_true, if_false, Option.bind_some, Int.toNat_natCast]
   have hpl := (Zfy it.v).2.2
   have hlt := ZnC t
   have hps := ZmJ it.v
   rw [if_pos (by unfold I64; omega), List.take_left, Zqm n (Zb5 n m) c it (Zba it.v) (by unfold I64; omega) (by unfold I64; omega) (Zba it.v).length n t (Nat.le_refl _) (by omega) (by omega), List.take_length]
   have hz2 : szS (t ++ ((Zba it.v).map fun y => Itm.mk y (it.level + 1)).reverse) = szS t + ((Zba it.v).map Vl.size).sum := by
    rw [Zq0, Zu3, ZqT]
   rw [ZtY n m _ (c + 1) (by omega) (by omega) (fun x hx => ?_) (by omega) (by omega)]
   ·
    congr 2
    unfold ZoB
    rw [List.reverse_append, List.reverse_reverse, List.flatMap_append, List.flatMap_map]
    congr 1
    dsimp only
    rw [show (it.level + 1).toNat = it.level.toNat + 1 by omega]
   ·
    rcases List.mem_append.1 hx with hx | hx
    ·
     exact hs x (by simp [hx])
    ·
     obtain ⟨y, hy, rfl⟩ := List.mem_map.1 (List.mem_reverse.1 hx)
     have := ZeA hy
     exact ⟨by simp only; omega, by simp only; omega, Zoc q3 hy, by simp only; omega⟩
theorem ZkP (n : Nat) (v : Vl) (hn : v.size < n) (hs : v.size ≤ 1000000000) (hv : v.ok) : ZdI n v = some (Zvq v) := by
 have e : szS [Itm.mk v 1] = v.size := by simp [szS]
 rw [ZdI, ZtY n n [Itm.mk v 1] 0 (by omega) (by omega) (fun it hit => by rw [List.mem_singleton.1 hit]; exact ⟨by simp, by simp, hv, hn⟩) (by omega) (by omega)]
 simp [ZoB, Zvq]
def ZaX  : Ty :=
 Ty.mk 9 0 0 0 ([]) ([]) ([(1, (⟨#[110]⟩ : ByteArray), 1, Ty.mk 2 1 9 0 ([]) ([]) ([]), []), (2, (⟨#[108]⟩ : ByteArray), 2, Ty.mk 8 0 3 0 ([]) ([Ty.mk 4 1 5 0 ([]) ([]) ([])]) ([]), [])])
theorem Zls (w0 : World) (B : List (List AV)) (Rw : List RowA) (L : List LoopA)  (r : Ty) (h : ZaX  = r) :
  ACalls Tryz.prog w0 51 [] ⟨B, Rw, L⟩ fun x st => x = .agg (r.cs) ∧ st = ⟨B, Rw, L⟩ := by
 rw [ZaX] at h
 refine hd [.cell 0 26] Tryz.func51 Tryz.ntmps51 fun M0 W0 hN hNR hNL hcalm hu hO hs => ?_
 simp only [Zas]
 refine rg [0] hs ?_
 apply Zab; intro K2 hK2
 apply Zad 1 [0, 1]
 rw [Zaa]; simp +decide only [go_sem, Nat.reduceAdd, ZaZ, ZaA, Zay]
 (repeat' apply And.intro) <;> first | refine hK2 _ _ ?_ | exact cl
 clear hK2
 apply Zab; intro K3 hK3
 apply Zad 1 [0]
 rw [Zaa]; simp +decide only [go_sem, Nat.reduceAdd, ZaZ, ZaA, Zay]
 (repeat' apply And.intro) <;> first | refine hK3 _ _ ?_ | exact cl
 clear hK3
 apply Zag; simp +decide only [go_sem, Nat.reduceAdd]
 subst h
 first | refine ZaD hcalm rfl hO.pre ev ⟨?_, rfl⟩ | refine Za4 hcalm rfl hO.pre ev ⟨?_, rfl⟩
 first | rfl | (simp +decide only [go_sem, Nat.reduceAdd]; done) | (simp +decide only [go_sem, Nat.reduceAdd, Vl.cs, Ty.cs]; done)
theorem Zkj (w0 : World) (B : List (List AV)) (Rw : List RowA) (L : List LoopA)  :
  ACalls Tryz.prog w0 51 [] ⟨B, Rw, L⟩ fun x st => x = .agg ((ZaX ).cs) ∧ st = ⟨B, Rw, L⟩ := Zls w0 B Rw L  _ rfl
def Zfz (rec : Ty → Vl → Option Bool) (a0 : Vl) (a1 : Ty) : Option Bool :=
 (idx a1.elem 0).bind fun x3 =>
 (rec x3 a0).bind fun y4 =>
 some (!y4)
theorem ZoP (w0 : World) (rec : Ty → Vl → Option Bool) (ih : ∀ (B : List (List AV)) (Rw : List RowA) (L : List LoopA) (a0 : Ty) (a1 : Vl) (r : Bool) (h : rec a0 a1 = some r), ACalls Tryz.prog w0 101 [.agg (a0.cs), .agg (a1.cs)] ⟨B, Rw, L⟩ fun x st => x = .val (.bool r) ∧ st = ⟨B, Rw, L⟩) (B : List (List AV)) (Rw : List RowA) (L : List LoopA) (a0 : Vl) (la1 : Nat) (a1 : Ty) (hla1 : B[la1]? = some (a1.cs)) (r : Bool) (h : Zfz rec a0 a1 = some r) :
  ACalls Tryz.prog w0 153 [.agg (a0.cs), .box la1 0] ⟨B, Rw, L⟩ fun x st => x = .val (.bool r) ∧ st = ⟨B, Rw, L⟩ := by
 rw [Zfz] at h
 refine hd [.tmp 3] Tryz.func153 Tryz.ntmps153 fun M0 W0 hN hNR hNL hcalm hu hO hs => ?_
 simp only [Zas]
 have hltla1 := (List.getElem?_eq_some_iff.1 hla1).1
 have hs := And.intro (Zaj hla1) hs
 refine rg [1, 2] hs ?_
 apply Zab; intro K2 hK2
 obtain ⟨x3, hx3a, hx3b, hx3d, h⟩ := ix avT h
 have hx3e : (a1.elem.map avT).getD 0 .junk = _ := hx3d
 obtain ⟨y4, hy4, h⟩ := bind_some h
 apply Zak mix 8 2 1 [3] (by kernel_rfl)
 rw [Zaa]; simp +decide only [go_sem, Nat.reduceAdd, Zaj hla1, hx3d, hx3e]
 have hs := And.intro hx3d hs
 have hs := And.intro hx3e hs
 (repeat' apply And.intro) <;> first | refine Zaf _ (ih _ _ _ x3 a0 _ hy4) (hv hs) ?_ | exact cl
 rw [Zaa]; simp +decide only [go_sem, Nat.reduceAdd, Zaj hla1, hx3d, hx3e]
 (repeat' with_reducible apply And.intro) <;> first | (rw [Zaa]; simp +decide only [go_sem, Nat.reduceAdd, Zaj hla1, hx3d, hx3e]) | exact cl
 (repeat' apply And.intro) <;> first | refine hK2 _ _ ?_ | exact cl
 clear hK2
 exact rt h hs hcalm hO
def Zcl (n : Nat)  : Option Int :=
 some ((-1))
def ZaT (n : Nat) (a0 : List (ByteArray × Vl)) (a1 : (ByteArray × Vl) → Option Bool) : Nat → Int → Option Int
 | 0, _ => none
 | m + 1, x8_l6 =>
  if decide (x8_l6 < ((a0.length : Int))) then
   (idx a0 x8_l6).bind fun x13 =>
   (a1 x13).bind fun y14 =>
   if y14 then
    some (x8_l6)
   else
    if I64 (x8_l6 + 1) then
     (ZaT n a0 a1 m) (x8_l6 + 1)
    else none
  else
   Zcl n 
def Zbm (n : Nat) (a0 : List (ByteArray × Vl)) (a1 : (ByteArray × Vl) → Option Bool) : Option Int :=
 ZaT n a0 a1 n 0
theorem Zed (w0 : World) (n : Nat) (B : List (List AV)) (Rw : List RowA) (L : List LoopA) (a0 : List (ByteArray × Vl)) (fa1 : FuncId) (ca1 : List AV) (a1 : (ByteArray × Vl) → Option Bool) (ha1 : ∀ (x0 : ByteArray × Vl) r, a1 x0 = some r → ∀ B' rows, B <+: B' → Rw <+: rows → ACalls Tryz.prog w0 fa1 ([.agg (.val (.string x0.1) :: (x0.2.cs))] ++ ca1) ⟨B', rows, L⟩ fun v s => v = .val (.bool r) ∧ s = ⟨B', rows, L⟩) (r : Int) (h : Zbm n a0 a1 = some r) :
  ACalls Tryz.prog w0 94 [.list (a0.map avF) .none, .clo fa1 ca1] ⟨B, Rw, L⟩ fun x st => x = .val (.int .i64 r) ∧ st = ⟨B, Rw, L⟩ := by
 rw [Zbm] at h
 refine hd [.tmp 4] Tryz.func94 Tryz.ntmps94 fun M0 W0 hN hNR hNL hcalm hu hO hs => ?_
 simp only [Zas]
 have hU_a1 := ZdD (hu (.clo fa1 ca1) (by simp))
 refine rg [0, 1] hs ?_
 refine Zah (fun e st => Ck e st B Rw L [] [] [] (Zcl n  = some r)) ?_ ?_
 ·
  intro K4 hK4
  refine rg [0, 1, 7, 8] hs ?_
  apply Zae
  refine Zai (fun m e st => ∃ (x8_l6 : Int), Ck e st B Rw L [(0, true, .list (a0.map avF) .none), (1, true, .clo fa1 ca1), (7, true, .val (.int .i64 ((a0.length : Int)))), (8, true, .val (.int .i64 x8_l6))] [] [] (ZaT n a0 a1 m x8_l6 = some r)) n ⟨0, ([]), Rw, ef hs, ef hs, hO, h⟩ ?_
  rintro ml6 e st ⟨x8_l6, Xl6, Rl6, rfl, rfl, hO, h⟩ Ul6 Vl6
  cases ml6 with
  | zero => cases h
  | succ ml6 =>
  rw [ZaT] at h
  refine Za9 hN hNR hNL rfl hcalm hO (by (simp +decide only [go_sem, Nat.reduceAdd]) <;> (try (repeat' apply And.intro)) <;> first | omega | assumption | exact hU_a1 _ _ _ (by omega) (by have := hO.len; omega) (by omega)) (by (simp +decide only [go_sem, Nat.reduceAdd, Zcb]) <;> (try (repeat' apply And.intro)) <;> first | omega | assumption | exact hU_a1 _ _ _ (by omega) (by have := hO.len; omega) (by omega)) ?_
  refine rg [0, 1, 7, 8, 9] hs ?_
  apply Zab; intro K8 hK8
  refine cnd h hs (fun hs h => ?_) (fun hs h => ?_)
  rotate_left
  ·
   refine sx [] hs hK4 ?_
   exact ⟨([]), Rl6, ef hs, ef hs, hO, h⟩
  refine sk [0, 1, 7, 8] hs hK8 ?_
  clear hK8
  apply Zab; intro K10 hK10
  apply Zae
  refine rg [0, 1, 5, 7, 8] hs ?_
  obtain ⟨x13, hx13, h⟩ := bind_some h
  obtain ⟨hx13a, hx13b, hx13c⟩ := Zar hx13
  have hx13d := Zau (f := avF) hx13c
  obtain ⟨y14, hy14, h⟩ := bind_some h
  have hs := And.intro hx13d hs
  refine rc 2 [0, 1, 5, 7, 8, 16] hs ?_; intro K12 hK12
  refine ZnK _ (ha1 x13 _ hy14 _ _ (by first | exact List.prefix_append _ _ | exact List.prefix_refl _) hO.pre) (hv hs) ?_
  refine ne hs hK12 ?_
  clear hK12
  refine cnd h hs (fun hs h => ?_) (fun hs h => ?_)
  ·
   refine rg [4] hs ?_
   exact rt h hs hcalm hO
  refine sk [0, 1, 7, 8] hs hK10 ?_
  clear hK10
  obtain ⟨hg17, h⟩ := Zac h
  refine rl [0, 1, 7, 8] hs (fun e s => Vl6 ml6 e s (Nat.lt_succ_self _)) ?_
  exact ⟨(x8_l6 + 1), ([]), Rl6, ef hs, ef hs, hO, h⟩
 ·
  clear h; rintro e st ⟨Xk3, Rk3, rfl, rfl, hO, h⟩
  rw [Zcl] at h
  refine Za9 hN hNR hNL rfl hcalm hO (by (simp +decide only [go_sem, Nat.reduceAdd]) <;> (try (repeat' apply And.intro)) <;> first | omega | assumption | exact hU_a1 _ _ _ (by omega) (by have := hO.len; omega) (by omega)) (by (simp +decide only [go_sem, Nat.reduceAdd, Zcb]) <;> (try (repeat' apply And.intro)) <;> first | omega | assumption | exact hU_a1 _ _ _ (by omega) (by have := hO.len; omega) (by omega)) ?_
  refine rg [4] hs ?_
  exact rt h hs hcalm hO
def ZdA (a0 : ByteArray × Vl) (a1 : ByteArray) : Bool :=
 sEq a0.1 a1
theorem Zmp (w0 : World) (B : List (List AV)) (Rw : List RowA) (L : List LoopA) (a0 : ByteArray × Vl) (la1 : Nat) (a1 : ByteArray) (hla1 : B[la1]? = some ([.val (.string a1)])) (r : Bool) (h : ZdA a0 a1 = r) :
  ACalls Tryz.prog w0 138 [.agg (.val (.string a0.1) :: (a0.2.cs)), .box la1 0] ⟨B, Rw, L⟩ fun x st => x = .val (.bool r) ∧ st = ⟨B, Rw, L⟩ := by
 rw [ZdA] at h
 refine hd [.tmp 3] Tryz.func138 Tryz.ntmps138 fun M0 W0 hN hNR hNL hcalm hu hO hs => ?_
 simp only [Zas]
 have hltla1 := (List.getElem?_eq_some_iff.1 hla1).1
 have hs := And.intro (Zaj hla1) hs
 refine rg [1, 2] hs ?_
 refine rg [3] hs ?_
 apply Zag; simp +decide only [go_sem, Nat.reduceAdd, Zaj hla1]
 subst h
 first | refine ZaD hcalm rfl hO.pre ev ⟨?_, rfl⟩ | refine Za4 hcalm rfl hO.pre ev ⟨?_, rfl⟩
 first | rfl | (simp +decide only [go_sem, Nat.reduceAdd, Zaj hla1]; done) | (simp +decide only [go_sem, Nat.reduceAdd, Vl.cs, Ty.cs, Zaj hla1]; done)
theorem ZlI (w0 : World) (B : List (List AV)) (Rw : List RowA) (L : List LoopA) (a0 : ByteArray × Vl) (la1 : Nat) (a1 : ByteArray) (hla1 : B[la1]? = some ([.val (.string a1)])) :
  ACalls Tryz.prog w0 138 [.agg (.val (.string a0.1) :: (a0.2.cs)), .box la1 0] ⟨B, Rw, L⟩ fun x st => x = .val (.bool (ZdA a0 a1)) ∧ st = ⟨B, Rw, L⟩ := Zmp w0 B Rw L a0 la1 a1 hla1 _ rfl
def Zic (n : Nat) (a0 : Vl) (a1 : ByteArray) : Option Int :=
 (Zbm n a0.fields (fun (x0 : ByteArray × Vl) => some (ZdA x0 a1))).bind fun y3 =>
 some (y3)
theorem Zpm (w0 : World) (n : Nat) (B : List (List AV)) (Rw : List RowA) (L : List LoopA) (a0 : Vl) (a1 : ByteArray) (r : Int) (h : Zic n a0 a1 = some r) :
  ACalls Tryz.prog w0 92 [.agg (a0.cs), .val (.string a1)] ⟨B, Rw, L⟩ fun x st => x = .val (.int .i64 r) ∧ st = ⟨B, Rw, L⟩ := by
 rw [Zic] at h
 refine hd [.tmp 4] Tryz.func92 Tryz.ntmps92 fun M0 W0 hN hNR hNL hcalm hu hO hs => ?_
 simp only [Zas]
 refine rg [2, 3] hs ?_
 obtain ⟨y3, hy3, h⟩ := bind_some h
 refine rc 2 [4] hs ?_; intro K2 hK2
 refine Zaf _ (Zed w0 n _ _ _ a0.fields 138 [.box (B.length + 1) 0] (fun (x0 : ByteArray × Vl) => some (ZdA x0 a1)) (fun x0 r hx B' rows' hB' hR' => by cases hx; exact ZlI w0 _ _ _ x0 _ a1 (ZeC hB' ev)) _ hy3) (hv hs) ?_
 refine ne hs hK2 ?_
 clear hK2
 exact rt h hs hcalm hO
def ZgO (n : Nat) (a0 : Vl) (a1 : ByteArray) : Option (Vl × Bool) :=
 (Zic n a0 a1).bind fun y3 =>
 if (!(decide (a0.kind = 9))) || (decide (y3 < 0)) then
  some ((Vl.mk 0 0 0 ((⟨#[]⟩ : ByteArray)) ([]) ([]), false))
 else
  (idx a0.fields y3).bind fun x9 =>
  (ZbI n x9.2).bind fun y10 =>
  some ((y10, true))
theorem ZoN (w0 : World) (n : Nat) (B : List (List AV)) (Rw : List RowA) (L : List LoopA) (a0 : Vl) (a1 : ByteArray) (r : Vl × Bool) (h : ZgO n a0 a1 = some r) :
  ACalls Tryz.prog w0 156 [.agg (a0.cs), .val (.string a1)] ⟨B, Rw, L⟩ fun x st => x = .tup [.agg (r.1.cs), .val (.bool r.2)] ∧ st = ⟨B, Rw, L⟩ := by
 rw [ZgO] at h
 refine hd [.cell 4 34, .tmp 5] Tryz.func156 Tryz.ntmps156 fun M0 W0 hN hNR hNL hcalm hu hO hs => ?_
 simp only [Zas]
 refine rg [1, 2, 4] hs ?_
 obtain ⟨y3, hy3, h⟩ := bind_some h
 refine rc 2 [2, 4, 6] hs ?_; intro K2 hK2
 refine Zaf _ (Zpm w0 n _ _ _ a0 a1 _ hy3) (hv hs) ?_
 refine ne hs hK2 ?_
 clear hK2
 apply Zab; intro K4 hK4
 refine rg [2, 4, 6, 16] hs ?_
 refine cnd h hs (fun hs h => ?_) (fun hs h => ?_)
 ·
  have hb6 := hs.1
  apply Zab; intro K7 hK7
  apply Zad 1 [4, 5]
  rw [Zaa]; simp +decide only [go_sem, Nat.reduceAdd, hb6, ZaZ, ZaA, Zay]
  (repeat' apply And.intro) <;> first | refine hK7 _ _ ?_ | exact cl
  clear hK7
  exact rt h hs hcalm hO
 have hb6 := hs.1
 refine sk [2, 4, 6] hs hK4 ?_
 clear hK4
 obtain ⟨x9, hx9, h⟩ := bind_some h
 obtain ⟨hx9a, hx9b, hx9c⟩ := Zar hx9
 have hx9d := Zau (f := avF) hx9c
 obtain ⟨y10, hy10, h⟩ := bind_some h
 have hs := And.intro hx9d hs
 refine rc 2 [4, 5] hs ?_; intro K8 hK8
 refine Zaf _ (Zdc w0 n _ _ _ x9.2 _ hy10) (hv hs) ?_
 refine ne hs hK8 ?_
 clear hK8
 exact rt h hs hcalm hO
def Zfq (n : Nat) (a0 : Int × ByteArray × Int × Ty × List Vl) (a1 : Vl) : Option Bool :=
 (ZgO n a1 a0.2.1).bind fun y3 =>
 some ((!y3.2) && (!(decide (a0.2.2.1 = 2))))
theorem ZoL (w0 : World) (n : Nat) (B : List (List AV)) (Rw : List RowA) (L : List LoopA) (a0 : Int × ByteArray × Int × Ty × List Vl) (la1 : Nat) (a1 : Vl) (hla1 : B[la1]? = some (a1.cs)) (r : Bool) (h : Zfq n a0 a1 = some r) :
  ACalls Tryz.prog w0 155 [.agg (.val (.int .i64 a0.1) :: (.val (.string a0.2.1) :: (.val (.int .i64 a0.2.2.1) :: ((a0.2.2.2.1.cs) ++ ([.list (a0.2.2.2.2.map avV) .none]))))), .box la1 0] ⟨B, Rw, L⟩ fun x st => x = .val (.bool r) ∧ st = ⟨B, Rw, L⟩ := by
 rw [Zfq] at h
 refine hd [.tmp 3] Tryz.func155 Tryz.ntmps155 fun M0 W0 hN hNR hNL hcalm hu hO hs => ?_
 simp only [Zas]
 have hltla1 := (List.getElem?_eq_some_iff.1 hla1).1
 have hs := And.intro (Zaj hla1) hs
 refine rg [1, 2] hs ?_
 obtain ⟨y3, hy3, h⟩ := bind_some h
 refine rc 2 [2, 5] hs ?_; intro K2 hK2
 refine Zaf _ (ZoN w0 n _ _ _ a1 a0.2.1 _ hy3) (hv hs) ?_
 refine ne hs hK2 ?_
 clear hK2
 refine rg [3] hs ?_
 exact rt h hs hcalm hO
def Zaw (n : Nat) (a0 : List (Int × ByteArray × Int × Ty × List Vl)) (a1 : (Int × ByteArray × Int × Ty × List Vl) → Option Bool) : Option Bool :=
 (ZaI n a0 a1).bind fun y3 =>
 some (decide (0 ≤ y3))
theorem Zck (w0 : World) (n : Nat) (B : List (List AV)) (Rw : List RowA) (L : List LoopA) (a0 : List (Int × ByteArray × Int × Ty × List Vl)) (fa1 : FuncId) (ca1 : List AV) (a1 : (Int × ByteArray × Int × Ty × List Vl) → Option Bool) (ha1 : ∀ (x0 : Int × ByteArray × Int × Ty × List Vl) r, a1 x0 = some r → ∀ B' rows, B <+: B' → Rw <+: rows → ACalls Tryz.prog w0 fa1 ([.agg (.val (.int .i64 x0.1) :: (.val (.string x0.2.1) :: (.val (.int .i64 x0.2.2.1) :: ((x0.2.2.2.1.cs) ++ ([.list (x0.2.2.2.2.map avV) .none])))))] ++ ca1) ⟨B', rows, L⟩ fun v s => v = .val (.bool r) ∧ s = ⟨B', rows, L⟩) (r : Bool) (h : Zaw n a0 a1 = some r) :
  ACalls Tryz.prog w0 154 [.list (a0.map Zek) .none, .clo fa1 ca1] ⟨B, Rw, L⟩ fun x st => x = .val (.bool r) ∧ st = ⟨B, Rw, L⟩ := by
 rw [Zaw] at h
 refine hd [.tmp 4] Tryz.func154 Tryz.ntmps154 fun M0 W0 hN hNR hNL hcalm hu hO hs => ?_
 simp only [Zas]
 have hU_a1 := ZdD (hu (.clo fa1 ca1) (by simp))
 refine rg [0, 1] hs ?_
 obtain ⟨y3, hy3, h⟩ := bind_some h
 refine rc 2 [4] hs ?_; intro K2 hK2
 refine Zaf _ (ZcO w0 n _ _ _ a0 fa1 ca1 a1 (fun x0 r hx B'' rows'' q1 q2 => ha1 x0 r hx B'' rows'' (List.IsPrefix.trans (by first | exact List.prefix_append _ _ | exact List.prefix_refl _) q1) (hO.pre.trans q2)) _ hy3) (hv hs) ?_
 refine ne hs hK2 ?_
 clear hK2
 exact rt h hs hcalm hO
def Zcw (n : Nat)  : Option Int :=
 some ((-1))
def ZaQ (n : Nat) (a0 : List Vl) (a1 : Vl → Option Bool) : Nat → Int → Option Int
 | 0, _ => none
 | m + 1, x8_l6 =>
  if decide (x8_l6 < ((a0.length : Int))) then
   (idx a0 x8_l6).bind fun x13 =>
   (a1 x13).bind fun y14 =>
   if y14 then
    some (x8_l6)
   else
    if I64 (x8_l6 + 1) then
     (ZaQ n a0 a1 m) (x8_l6 + 1)
    else none
  else
   Zcw n 
def ZbQ (n : Nat) (a0 : List Vl) (a1 : Vl → Option Bool) : Option Int :=
 ZaQ n a0 a1 n 0
theorem ZgA (w0 : World) (n : Nat) (B : List (List AV)) (Rw : List RowA) (L : List LoopA) (a0 : List Vl) (fa1 : FuncId) (ca1 : List AV) (a1 : Vl → Option Bool) (ha1 : ∀ (x0 : Vl) r, a1 x0 = some r → ∀ B' rows, B <+: B' → Rw <+: rows → ACalls Tryz.prog w0 fa1 ([.agg (x0.cs)] ++ ca1) ⟨B', rows, L⟩ fun v s => v = .val (.bool r) ∧ s = ⟨B', rows, L⟩) (r : Int) (h : ZbQ n a0 a1 = some r) :
  ACalls Tryz.prog w0 182 [.list (a0.map avV) .none, .clo fa1 ca1] ⟨B, Rw, L⟩ fun x st => x = .val (.int .i64 r) ∧ st = ⟨B, Rw, L⟩ := by
 rw [ZbQ] at h
 refine hd [.tmp 4] Tryz.func182 Tryz.ntmps182 fun M0 W0 hN hNR hNL hcalm hu hO hs => ?_
 simp only [Zas]
 have hU_a1 := ZdD (hu (.clo fa1 ca1) (by simp))
 refine rg [0, 1] hs ?_
 refine Zah (fun e st => Ck e st B Rw L [] [] [] (Zcw n  = some r)) ?_ ?_
 ·
  intro K4 hK4
  refine rg [0, 1, 7, 8] hs ?_
  apply Zae
  refine Zai (fun m e st => ∃ (x8_l6 : Int), Ck e st B Rw L [(0, true, .list (a0.map avV) .none), (1, true, .clo fa1 ca1), (7, true, .val (.int .i64 ((a0.length : Int)))), (8, true, .val (.int .i64 x8_l6))] [] [] (ZaQ n a0 a1 m x8_l6 = some r)) n ⟨0, ([]), Rw, ef hs, ef hs, hO, h⟩ ?_
  rintro ml6 e st ⟨x8_l6, Xl6, Rl6, rfl, rfl, hO, h⟩ Ul6 Vl6
  cases ml6 with
  | zero => cases h
  | succ ml6 =>
  rw [ZaQ] at h
  refine Za9 hN hNR hNL rfl hcalm hO (by (simp +decide only [go_sem, Nat.reduceAdd]) <;> (try (repeat' apply And.intro)) <;> first | omega | assumption | exact hU_a1 _ _ _ (by omega) (by have := hO.len; omega) (by omega)) (by (simp +decide only [go_sem, Nat.reduceAdd, Zcb]) <;> (try (repeat' apply And.intro)) <;> first | omega | assumption | exact hU_a1 _ _ _ (by omega) (by have := hO.len; omega) (by omega)) ?_
  refine rg [0, 1, 7, 8, 9] hs ?_
  apply Zab; intro K8 hK8
  refine cnd h hs (fun hs h => ?_) (fun hs h => ?_)
  rotate_left
  ·
   refine sx [] hs hK4 ?_
   exact ⟨([]), Rl6, ef hs, ef hs, hO, h⟩
  refine sk [0, 1, 7, 8] hs hK8 ?_
  clear hK8
  apply Zab; intro K10 hK10
  apply Zae
  refine rg [0, 1, 5, 7, 8] hs ?_
  obtain ⟨x13, hx13, h⟩ := bind_some h
  obtain ⟨hx13a, hx13b, hx13c⟩ := Zar hx13
  have hx13d := Zau (f := avV) hx13c
  obtain ⟨y14, hy14, h⟩ := bind_some h
  have hs := And.intro hx13d hs
  refine rc 2 [0, 1, 5, 7, 8, 16] hs ?_; intro K12 hK12
  refine ZnK _ (ha1 x13 _ hy14 _ _ (by first | exact List.prefix_append _ _ | exact List.prefix_refl _) hO.pre) (hv hs) ?_
  refine ne hs hK12 ?_
  clear hK12
  refine cnd h hs (fun hs h => ?_) (fun hs h => ?_)
  ·
   refine rg [4] hs ?_
   exact rt h hs hcalm hO
  refine sk [0, 1, 7, 8] hs hK10 ?_
  clear hK10
  obtain ⟨hg17, h⟩ := Zac h
  refine rl [0, 1, 7, 8] hs (fun e s => Vl6 ml6 e s (Nat.lt_succ_self _)) ?_
  exact ⟨(x8_l6 + 1), ([]), Rl6, ef hs, ef hs, hO, h⟩
 ·
  clear h; rintro e st ⟨Xk3, Rk3, rfl, rfl, hO, h⟩
  rw [Zcw] at h
  refine Za9 hN hNR hNL rfl hcalm hO (by (simp +decide only [go_sem, Nat.reduceAdd]) <;> (try (repeat' apply And.intro)) <;> first | omega | assumption | exact hU_a1 _ _ _ (by omega) (by have := hO.len; omega) (by omega)) (by (simp +decide only [go_sem, Nat.reduceAdd, Zcb]) <;> (try (repeat' apply And.intro)) <;> first | omega | assumption | exact hU_a1 _ _ _ (by omega) (by have := hO.len; omega) (by omega)) ?_
  refine rg [4] hs ?_
  exact rt h hs hcalm hO
def Za5 (n : Nat) (a0 : List Vl) (a1 : Vl → Option Bool) : Option Bool :=
 (ZbQ n a0 a1).bind fun y3 =>
 some (decide (0 ≤ y3))
theorem ZfA (w0 : World) (n : Nat) (B : List (List AV)) (Rw : List RowA) (L : List LoopA) (a0 : List Vl) (fa1 : FuncId) (ca1 : List AV) (a1 : Vl → Option Bool) (ha1 : ∀ (x0 : Vl) r, a1 x0 = some r → ∀ B' rows, B <+: B' → Rw <+: rows → ACalls Tryz.prog w0 fa1 ([.agg (x0.cs)] ++ ca1) ⟨B', rows, L⟩ fun v s => v = .val (.bool r) ∧ s = ⟨B', rows, L⟩) (r : Bool) (h : Za5 n a0 a1 = some r) :
  ACalls Tryz.prog w0 152 [.list (a0.map avV) .none, .clo fa1 ca1] ⟨B, Rw, L⟩ fun x st => x = .val (.bool r) ∧ st = ⟨B, Rw, L⟩ := by
 rw [Za5] at h
 refine hd [.tmp 4] Tryz.func152 Tryz.ntmps152 fun M0 W0 hN hNR hNL hcalm hu hO hs => ?_
 simp only [Zas]
 have hU_a1 := ZdD (hu (.clo fa1 ca1) (by simp))
 refine rg [0, 1] hs ?_
 obtain ⟨y3, hy3, h⟩ := bind_some h
 refine rc 2 [4] hs ?_; intro K2 hK2
 refine Zaf _ (ZgA w0 n _ _ _ a0 fa1 ca1 a1 (fun x0 r hx B'' rows'' q1 q2 => ha1 x0 r hx B'' rows'' (List.IsPrefix.trans (by first | exact List.prefix_append _ _ | exact List.prefix_refl _) q1) (hO.pre.trans q2)) _ hy3) (hv hs) ?_
 refine ne hs hK2 ?_
 clear hK2
 exact rt h hs hcalm hO
def Zdt (n : Nat)  : Option Int :=
 some ((-1))
def Za6 (n : Nat) (a0 : List ByteArray) (a1 : ByteArray) : Nat → Int → Option Int
 | 0, _ => none
 | m + 1, x8_l6 =>
  if decide (x8_l6 < ((a0.length : Int))) then
   (idx a0 x8_l6).bind fun x13 =>
   if sEq a1 x13 then
    some (x8_l6)
   else
    if I64 (x8_l6 + 1) then
     (Za6 n a0 a1 m) (x8_l6 + 1)
    else none
  else
   Zdt n 
def ZcI (n : Nat) (a0 : List ByteArray) (a1 : ByteArray) : Option Int :=
 Za6 n a0 a1 n 0
theorem Zih (w0 : World) (n : Nat) (B : List (List AV)) (Rw : List RowA) (L : List LoopA) (a0 : List ByteArray) (a1 : ByteArray) (r : Int) (h : ZcI n a0 a1 = some r) :
  ACalls Tryz.prog w0 181 [.list (a0.map avS) .none, .val (.string a1)] ⟨B, Rw, L⟩ fun x st => x = .val (.int .i64 r) ∧ st = ⟨B, Rw, L⟩ := by
 rw [ZcI] at h
 refine hd [.tmp 4] Tryz.func181 Tryz.ntmps181 fun M0 W0 hN hNR hNL hcalm hu hO hs => ?_
 simp only [Zas]
 refine rg [0, 1] hs ?_
 refine Zah (fun e st => Ck e st B Rw L [] [] [] (Zdt n  = some r)) ?_ ?_
 ·
  intro K4 hK4
  refine rg [0, 1, 7, 8] hs ?_
  apply Zae
  refine Zai (fun m e st => ∃ (x8_l6 : Int), Ck e st B Rw L [(0, true, .list (a0.map avS) .none), (1, true, .val (.string a1)), (7, true, .val (.int .i64 ((a0.length : Int)))), (8, true, .val (.int .i64 x8_l6))] [] [] (Za6 n a0 a1 m x8_l6 = some r)) n ⟨0, ([]), Rw, ef hs, ef hs, hO, h⟩ ?_
  rintro ml6 e st ⟨x8_l6, Xl6, Rl6, rfl, rfl, hO, h⟩ Ul6 Vl6
  cases ml6 with
  | zero => cases h
  | succ ml6 =>
  rw [Za6] at h
  refine td hN hNR hNL hcalm hO ?_
  refine rg [0, 1, 7, 8, 9] hs ?_
  apply Zab; intro K8 hK8
  refine cnd h hs (fun hs h => ?_) (fun hs h => ?_)
  rotate_left
  ·
   refine sx [] hs hK4 ?_
   exact ⟨([]), Rl6, ef hs, ef hs, hO, h⟩
  refine sk [0, 1, 7, 8] hs hK8 ?_
  clear hK8
  apply Zab; intro K10 hK10
  apply Zae
  refine rg [0, 1, 5, 7, 8] hs ?_
  obtain ⟨x13, hx13, h⟩ := bind_some h
  obtain ⟨hx13a, hx13b, hx13c⟩ := Zar hx13
  have hx13d := Zau (f := avS) hx13c
  have hs := And.intro hx13d hs
  refine rg [0, 1, 5, 7, 8, 16] hs ?_
  refine cnd h hs (fun hs h => ?_) (fun hs h => ?_)
  ·
   refine rg [4] hs ?_
   exact rt h hs hcalm hO
  refine sk [0, 1, 7, 8] hs hK10 ?_
  clear hK10
  obtain ⟨hg16, h⟩ := Zac h
  refine rl [0, 1, 7, 8] hs (fun e s => Vl6 ml6 e s (Nat.lt_succ_self _)) ?_
  exact ⟨(x8_l6 + 1), ([]), Rl6, ef hs, ef hs, hO, h⟩
 ·
  clear h; rintro e st ⟨Xk3, Rk3, rfl, rfl, hO, h⟩
  rw [Zdt] at h
  refine td hN hNR hNL hcalm hO ?_
  refine rg [4] hs ?_
  exact rt h hs hcalm hO
def Zbn (n : Nat) (a0 : List ByteArray) (a1 : ByteArray) : Option Bool :=
 (ZcI n a0 a1).bind fun y3 =>
 some (decide (0 ≤ y3))
theorem ZgI (w0 : World) (n : Nat) (B : List (List AV)) (Rw : List RowA) (L : List LoopA) (a0 : List ByteArray) (a1 : ByteArray) (r : Bool) (h : Zbn n a0 a1 = some r) :
  ACalls Tryz.prog w0 151 [.list (a0.map avS) .none, .val (.string a1)] ⟨B, Rw, L⟩ fun x st => x = .val (.bool r) ∧ st = ⟨B, Rw, L⟩ := by
 rw [Zbn] at h
 refine hd [.tmp 4] Tryz.func151 Tryz.ntmps151 fun M0 W0 hN hNR hNL hcalm hu hO hs => ?_
 simp only [Zas]
 refine rg [0, 1] hs ?_
 obtain ⟨y3, hy3, h⟩ := bind_some h
 refine rc 2 [4] hs ?_; intro K2 hK2
 refine Zaf _ (Zih w0 n _ _ _ a0 a1 _ hy3) (hv hs) ?_
 refine ne hs hK2 ?_
 clear hK2
 exact rt h hs hcalm hO
def Zh9 (rec : Ty → Vl → Option Bool) (n : Nat) (a0 : Ty) (a1 : Vl) : Option Bool :=
 (Zaw n a0.fields (fun (x0 : Int × ByteArray × Int × Ty × List Vl) => Zfq n x0 a1)).bind fun y69 =>
 some (!y69)
def Zje (rec : Ty → Vl → Option Bool) (n : Nat)  : Option Bool :=
 some (true)
def Zeh (rec : Ty → Vl → Option Bool) (n : Nat) (a0 : Ty) (a1 : Vl) : Nat → Int → Option Bool
 | 0, _ => none
 | m + 1, x107_l51 =>
  if decide (x107_l51 < ((a1.fields.length : Int))) then
   (idx a1.fields x107_l51).bind fun x57 =>
   (Zef n a0 x57.1).bind fun y59 =>
   if !y59.2 then
    some (false)
   else
    (rec y59.1.2.2.2.1 x57.2).bind fun y64 =>
    if !y64 then
     some (false)
    else
     if I64 (x107_l51 + 1) then
      (Zeh rec n a0 a1 m) (x107_l51 + 1)
     else none
  else
   Zh9 rec n a0 a1 
def Zbe (rec : Ty → Vl → Option Bool) (n : Nat) (a0 : Ty) (a1 : Vl) (x18_k11 : Bool) : Option Bool :=
 if x18_k11 then
  some ((decide (a0.min ≤ a1.int) && decide (a1.int ≤ a0.max)) && (decide (a1.scale = a0.scale)))
 else
  if decide (a0.kind = 4) then
   if decide (0 < ((a0.words.length : Int))) then
    (Zbn n a0.words a1.text).bind fun y27 =>
    some (y27)
   else
    some (decide (a0.min ≤ ((a1.text.size : Int))) && decide (((a1.text.size : Int)) ≤ a0.max))
  else
   if decide (a0.kind = 5) then
    some (decide (a0.min ≤ ((a1.text.size : Int))) && decide (((a1.text.size : Int)) ≤ a0.max))
   else
    if decide (a0.kind = 8) then
     if decide (a0.min ≤ ((a1.list.length : Int))) && decide (((a1.list.length : Int)) ≤ a0.max) then
      (Za5 n a1.list (fun (x0 : Vl) => Zfz rec x0 a0)).bind fun y36 =>
      some (!y36)
     else
      some (false)
    else
     if decide (a0.kind = 10) then
      (Zef n a0 a1.text).bind fun y40 =>
      if y40.2 then
       (idx a1.list 0).bind fun x43 =>
       (rec y40.1.2.2.2.1 x43).bind fun y44 =>
       some (y44)
      else
       some (false)
     else
      if decide (a0.kind = 9) then
       Zeh rec n a0 a1 n 0
      else
       Zje rec n 
def Zle (rec : Ty → Vl → Option Bool) (n : Nat) (a0 : Ty) (a1 : Vl) : Option Bool :=
 if !(decide (a1.kind = a0.kind)) then
  some (false)
 else
  if decide (a0.kind = 2) then
   Zbe rec n a0 a1 true
  else
   if decide (a0.kind = 6) then
    Zbe rec n a0 a1 true
   else
    if decide (a0.kind = 7) then
     Zbe rec n a0 a1 true
    else
     Zbe rec n a0 a1 (decide (a0.kind = 3))
def Zdn : Nat → Ty → Vl → Option Bool
 | 0, _, _ => none
 | n + 1, a0, a1 => Zle (Zdn n) n a0 a1
def Znk (w0 : World) (F : Ty → Vl → Option Bool) : Prop := ∀ (B : List (List AV)) (Rw : List RowA) (L : List LoopA) (a0 : Ty) (a1 : Vl) (r : Bool), F a0 a1 = some r → ACalls Tryz.prog w0 101 [.agg (a0.cs), .agg (a1.cs)] ⟨B, Rw, L⟩ fun x st => x = .val (.bool r) ∧ st = ⟨B, Rw, L⟩
theorem ZoZ (w0 : World) (rec : Ty → Vl → Option Bool) (ih : Znk w0 rec) (n : Nat) : Znk w0 (Zle rec n) := by
 intro B Rw L a0 a1 r h
 rw [Zle] at h
 refine hd [.tmp 4] Tryz.func101 Tryz.ntmps101 fun M0 W0 hN hNR hNL hcalm hu hO hs => ?_
 simp only [Zas]
 refine rg [2, 3] hs ?_
 apply Zab; intro K2 hK2
 refine rg [2, 3, 15] hs ?_
 refine cnd h hs (fun hs h => ?_) (fun hs h => ?_)
 ·
  have hb4 := hs.1
  refine rg [4] hs ?_
  exact rt h hs hcalm hO
 have hb4 := hs.1
 refine sk [2, 3] hs hK2 ?_
 clear hK2
 refine Zah (fun e st => Ck e st B Rw L [] [a0.cs, a1.cs] [] (Zje rec n  = some r)) ?_ ?_
 ·
  intro K8 hK8
  refine rg [2, 3, 17] hs ?_
  apply Zae
  refine Zah (fun e st => ∃ (x18_k11 : Bool), Ck e st B Rw L [(2, true, .box B.length 0), (3, true, .box (B.length + 1) 0), (17, true, .val (.int .i64 a0.kind)), (18, true, .val (.bool x18_k11))] [a0.cs, a1.cs] [] (Zbe rec n a0 a1 x18_k11 = some r)) ?_ ?_
  ·
   intro K12 hK12
   refine rg [2, 3, 17, 18] hs ?_
   refine cnd h hs (fun hs h => ?_) (fun hs h => ?_)
   ·
    refine sk [2, 3, 17, 18] hs hK12 ?_
    exact ⟨true, ([]), Rw, ef hs, ef hs, hO, h⟩
   refine rg [2, 3, 17, 18] hs ?_
   refine cnd h hs (fun hs h => ?_) (fun hs h => ?_)
   ·
    refine sk [2, 3, 17, 18] hs hK12 ?_
    exact ⟨true, ([]), Rw, ef hs, ef hs, hO, h⟩
   refine rg [2, 3, 17, 18] hs ?_
   refine cnd h hs (fun hs h => ?_) (fun hs h => ?_)
   ·
    refine sk [2, 3, 17, 18] hs hK12 ?_
    exact ⟨true, ([]), Rw, ef hs, ef hs, hO, h⟩
   refine rl [2, 3, 17, 18] hs hK12 ?_
   exact ⟨(decide (a0.kind = 3)), ([]), Rw, ef hs, ef hs, hO, h⟩
  ·
   clear h; rintro e st ⟨x18_k11, Xk11, Rk11, rfl, rfl, hO, h⟩
   rw [Zbe] at h
   refine td hN hNR hNL hcalm hO ?_
   refine cnd h hs (fun hs h => ?_) (fun hs h => ?_)
   ·
    have hb19 := hs.1
    refine rc 2 [4] hs ?_; intro K20 hK20
    refine Zaf _ (Zlt w0 _ _ _ a1.int a0.min a0.max) (hv hs) ?_
    refine ne hs hK20 ?_
    clear hK20
    exact rt h hs hcalm hO
   have hb19 := hs.1
   refine rg [2, 3, 17, 37] hs ?_
   refine cnd h hs (fun hs h => ?_) (fun hs h => ?_)
   ·
    have hb22 := hs.1
    apply Zab; intro K23 hK23
    refine rg [2, 3, 42] hs ?_
    refine cnd h hs (fun hs h => ?_) (fun hs h => ?_)
    ·
     obtain ⟨y27, hy27, h⟩ := bind_some h
     refine rc 2 [4] hs ?_; intro K26 hK26
     refine Zaf _ (ZgI w0 n _ _ _ a0.words a1.text _ hy27) (hv hs) ?_
     refine ne hs hK26 ?_
     clear hK26
     exact rt h hs hcalm hO
    refine sk [2, 3] hs hK23 ?_
    clear hK23
    refine rc 2 [4] hs ?_; intro K28 hK28
    refine Zaf _ (Zlt w0 _ _ _ ((a1.text.size : Int)) a0.min a0.max) (hv hs) ?_
    refine ne hs hK28 ?_
    clear hK28
    exact rt h hs hcalm hO
   have hb22 := hs.1
   refine rg [2, 3, 17, 56] hs ?_
   refine cnd h hs (fun hs h => ?_) (fun hs h => ?_)
   ·
    have hb30 := hs.1
    refine rc 2 [4] hs ?_; intro K31 hK31
    refine Zaf _ (Zlt w0 _ _ _ ((a1.text.size : Int)) a0.min a0.max) (hv hs) ?_
    refine ne hs hK31 ?_
    clear hK31
    exact rt h hs hcalm hO
   have hb30 := hs.1
   refine rg [2, 3, 17, 66] hs ?_
   refine cnd h hs (fun hs h => ?_) (fun hs h => ?_)
   ·
    have hb33 := hs.1
    apply Zab; intro K34 hK34
    rcases Bool.eq_false_or_eq_true (decide (a0.min ≤ ((a1.list.length : Int))) && decide (((a1.list.length : Int)) ≤ a0.max)) with hf35 | hf35
    ·
     replace h := ZaN h hf35
     obtain ⟨y36, hy36, h⟩ := bind_some h
     have hs := And.intro hf35 hs
     refine rk 3 [4] hs ?_
     refine Zaf _ (Zlt w0 _ _ _ ((a1.list.length : Int)) a0.min a0.max) (hv hs) ?_
     refine nc hs ?_
     refine Zaf _ (ZfA w0 n _ _ _ a1.list 153 [.box B.length 0] (fun (x0 : Vl) => Zfz rec x0 a0) (fun x0 r hx B' rows' hB' hR' => by exact ZoP w0 rec ih _ _ _ x0 _ a0 (ZeC hB' (ef hs)) _ hx) _ hy36) (hv hs) ?_
     refine ne hs hK34 ?_
     clear hK34
     exact rt h hs hcalm hO
    ·
     replace h := ZaM h hf35
     apply Zad 3 [4]
     rw [Zaa]; simp +decide only [go_sem, Nat.reduceAdd, hb4, hb19, hb22, hb30, hb33, hf35]
     have hs := And.intro hf35 hs
     (repeat' apply And.intro) <;> first | refine Zaf _ (Zlt w0 _ _ _ ((a1.list.length : Int)) a0.min a0.max) (hv hs) ?_ | exact cl
     rw [Zaa]; simp +decide only [go_sem, Nat.reduceAdd, hb4, hb19, hb22, hb30, hb33, hf35]
     (repeat' apply And.intro) <;> first | refine ZaE ?_ | exact cl
     rw [Zaa]; simp +decide only [go_sem, Nat.reduceAdd, hb4, hb19, hb22, hb30, hb33, hf35]
     (repeat' apply And.intro) <;> first | refine hK34 _ _ ?_ | exact cl
     clear hK34
     exact rt h hs hcalm hO
   have hb33 := hs.1
   refine rg [2, 3, 17, 83] hs ?_
   refine cnd h hs (fun hs h => ?_) (fun hs h => ?_)
   ·
    have hb38 := hs.1
    obtain ⟨y40, hy40, h⟩ := bind_some h
    refine rc 2 [3, 5, 6] hs ?_; intro K39 hK39
    refine Zaf _ (ZiN w0 n _ _ _ a0 a1.text _ hy40) (hv hs) ?_
    refine ne hs hK39 ?_
    clear hK39
    apply Zab; intro K41 hK41
    rcases Bool.eq_false_or_eq_true (y40.2) with hf42 | hf42
    ·
     replace h := ZaN h hf42
     obtain ⟨x43, hx43a, hx43b, hx43d, h⟩ := ix avV h
     have hx43e : (a1.list.map avV).getD 0 .junk = _ := hx43d
     obtain ⟨y44, hy44, h⟩ := bind_some h
     apply Zak mix 11 2 1 [4] (by kernel_rfl)
     rw [Zaa]; simp +decide only [go_sem, Nat.reduceAdd, hb4, hb19, hb22, hb30, hb33, hb38, hf42, hx43d, hx43e]
     have hs := And.intro hf42 hs
     have hs := And.intro hx43d hs
     have hs := And.intro hx43e hs
     (repeat' apply And.intro) <;> first | refine Zaf _ (ih _ _ _ y40.1.2.2.2.1 x43 _ hy44) (hv hs) ?_ | exact cl
     rw [Zaa]; simp +decide only [go_sem, Nat.reduceAdd, hb4, hb19, hb22, hb30, hb33, hb38, hf42, hx43d, hx43e]
     (repeat' with_reducible apply And.intro) <;> first | (rw [Zaa]; simp +decide only [go_sem, Nat.reduceAdd, hb4, hb19, hb22, hb30, hb33, hb38, hf42, hx43d, hx43e]) | exact cl
     (repeat' apply And.intro) <;> first | refine hK41 _ _ ?_ | exact cl
     clear hK41
     exact rt h hs hcalm hO
    ·
     replace h := ZaM h hf42
     apply Zak mix 11 2 1 [4] (by kernel_rfl)
     rw [Zaa]; simp +decide only [go_sem, Nat.reduceAdd, hb4, hb19, hb22, hb30, hb33, hb38, hf42]
     (repeat' apply And.intro) <;> first | refine ZaE ?_ | exact cl
     rw [Zaa]; simp +decide only [go_sem, Nat.reduceAdd, hb4, hb19, hb22, hb30, hb33, hb38, hf42]
     (repeat' with_reducible apply And.intro) <;> first | (rw [Zaa]; simp +decide only [go_sem, Nat.reduceAdd, hb4, hb19, hb22, hb30, hb33, hb38, hf42]) | exact cl
     (repeat' apply And.intro) <;> first | refine hK41 _ _ ?_ | exact cl
     clear hK41
     have hs := And.intro hf42 hs
     exact rt h hs hcalm hO
   have hb38 := hs.1
   refine rg [2, 3, 102] hs ?_
   refine cnd h hs (fun hs h => ?_) (fun hs h => ?_)
   ·
    have hb46 := hs.1
    refine Zah (fun e st => Ck e st B Rw L [(2, true, .box B.length 0), (3, true, .box (B.length + 1) 0)] [a0.cs, a1.cs] [] (Zh9 rec n a0 a1  = some r)) ?_ ?_
    ·
     intro K49 hK49
     refine rg [2, 3, 105, 106, 107] hs ?_
     apply Zae
     refine Zai (fun m e st => ∃ (x107_l51 : Int), Ck e st B Rw L [(2, true, .box B.length 0), (3, true, .box (B.length + 1) 0), (105, true, .list (a1.fields.map avF) .none), (106, true, .val (.int .i64 ((a1.fields.length : Int)))), (107, true, .val (.int .i64 x107_l51))] [a0.cs, a1.cs] [] (Zeh rec n a0 a1 m x107_l51 = some r)) n ⟨0, ([]), Rk11, ef hs, ef hs, hO, h⟩ ?_
     rintro ml51 e st ⟨x107_l51, Xl51, Rl51, rfl, rfl, hO, h⟩ Ul51 Vl51
     cases ml51 with
     | zero => cases h
     | succ ml51 =>
     rw [Zeh] at h
     refine td hN hNR hNL hcalm hO ?_
     refine rg [2, 3, 105, 106, 107, 108] hs ?_
     apply Zab; intro K53 hK53
     refine cnd h hs (fun hs h => ?_) (fun hs h => ?_)
     rotate_left
     ·
      have hb54 := hs.1
      refine sx [2, 3] hs hK49 ?_
      exact ⟨([]), Rl51, ef hs, ef hs, hO, h⟩
     have hb54 := hs.1
     refine sk [2, 3, 105, 106, 107] hs hK53 ?_
     clear hK53
     apply Zab; intro K55 hK55
     apply Zae
     obtain ⟨x57, hx57, h⟩ := bind_some h
     obtain ⟨hx57a, hx57b, hx57c⟩ := Zar hx57
     have hx57d := Zau (f := avF) hx57c
     have hs := And.intro hx57d hs
     refine rg [2, 3, 8, 105, 106, 107] hs ?_
     obtain ⟨y59, hy59, h⟩ := bind_some h
     refine rc 2 [2, 3, 8, 9, 10, 105, 106, 107] hs ?_; intro K58 hK58
     refine Zaf _ (ZiN w0 n _ _ _ a0 x57.1 _ hy59) (hv hs) ?_
     refine ne hs hK58 ?_
     clear hK58
     apply Zab; intro K60 hK60
     rcases Bool.eq_false_or_eq_true (!y59.2) with hf61 | hf61
     ·
      replace h := ZaN h hf61
      apply Zad 2 [2, 3, 105, 106, 107, 127]
      rw [Zaa]; simp +decide only [go_sem, Nat.reduceAdd, hb4, hb19, hb22, hb30, hb33, hb38, hb46, hb54, hx57d, hf61]
      (repeat' apply And.intro) <;> first | refine ZaE ?_ | exact cl
      rw [Zaa]; simp +decide only [go_sem, Nat.reduceAdd, hb4, hb19, hb22, hb30, hb33, hb38, hb46, hb54, hx57d, hf61]
      (repeat' apply And.intro) <;> first | refine hK60 _ _ ?_ | exact cl
      clear hK60
      have hs := And.intro hf61 hs
      refine Zap true ev (ef hs) (fun hb62 => ?_) (fun hb62 => by cases hb62)
      refine rg [4] hs ?_
      exact rt h hs hcalm hO
     ·
      replace h := ZaM h hf61
      obtain ⟨y64, hy64, h⟩ := bind_some h
      have hs := And.intro hf61 hs
      refine rk 2 [2, 3, 105, 106, 107, 127] hs ?_
      refine Zaf _ (ih _ _ _ y59.1.2.2.2.1 x57.2 _ hy64) (hv hs) ?_
      refine ne hs hK60 ?_
      clear hK60
      refine cnd h hs (fun hs h => ?_) (fun hs h => ?_)
      ·
       refine rg [4] hs ?_
       exact rt h hs hcalm hO
      refine sk [2, 3, 105, 106, 107] hs hK55 ?_
      clear hK55
      obtain ⟨hg67, h⟩ := Zac h
      refine rl [2, 3, 105, 106, 107] hs (fun e s => Vl51 ml51 e s (Nat.lt_succ_self _)) ?_
      exact ⟨(x107_l51 + 1), ([.val (.string x57.1) :: (x57.2.cs), .val (.int .i64 y59.1.1) :: (.val (.string y59.1.2.1) :: (.val (.int .i64 y59.1.2.2.1) :: ((y59.1.2.2.2.1.cs) ++ ([.list (y59.1.2.2.2.2.map avV) .none]))))]), Rl51, ef hs, ef hs, hO, h⟩
    ·
     clear h; rintro e st ⟨Xk48, Rk48, rfl, rfl, hO, h⟩
     rw [Zh9] at h
     refine td hN hNR hNL hcalm hO ?_
     obtain ⟨y69, hy69, h⟩ := bind_some h
     refine rc 2 [4] hs ?_; intro K68 hK68
     refine Zaf _ (Zck w0 n _ _ _ a0.fields 155 [.box (B.length + 1) 0] (fun (x0 : Int × ByteArray × Int × Ty × List Vl) => Zfq n x0 a1) (fun x0 r hx B' rows' hB' hR' => by exact ZoL w0 n _ _ _ x0 _ a1 (ZeC hB' (ef hs)) _ hx) _ hy69) (hv hs) ?_
     refine ne hs hK68 ?_
     clear hK68
     exact rt h hs hcalm hO
   have hb46 := hs.1
   refine sk [] hs hK8 ?_
   exact ⟨([]), Rk11, ef hs, ef hs, hO, h⟩
 ·
  clear h; rintro e st ⟨Xk7, Rk7, rfl, rfl, hO, h⟩
  rw [Zje] at h
  refine td hN hNR hNL hcalm hO ?_
  refine rg [4] hs ?_
  exact rt h hs hcalm hO
theorem ZnX (w0 : World) : ∀ n : Nat, Znk w0 (Zdn n)
 | 0 => fun _ _ _ _ _ _ h => (nomatch h)
 | n + 1 => ZoZ w0 (Zdn n) (ZnX w0 n) n
def ZdJ (n : Nat) (a0 : Ty) (a1 : Vl) : Option Bool :=
 (ZeR n a1).bind fun y3 =>
 if decide (y3 = 0) then
  (Zdn n a0 a1).bind fun y5 =>
  some (y5)
 else
  some (false)
theorem ZiV (w0 : World) (hT : Lib.Utf8Tabs 0 1 w0) (n : Nat) (B : List (List AV)) (Rw : List RowA) (L : List LoopA) (a0 : Ty) (a1 : Vl) (r : Bool) (h : ZdJ n a0 a1 = some r) :
  ACalls Tryz.prog w0 58 [.agg (a0.cs), .agg (a1.cs)] ⟨B, Rw, L⟩ fun x st => x = .val (.bool r) ∧ st = ⟨B, Rw, L⟩ := by
 rw [ZdJ] at h
 refine hd [.tmp 4] Tryz.func58 Tryz.ntmps58 fun M0 W0 hN hNR hNL hcalm hu hO hs => ?_
 simp only [Zas]
 refine rg [2, 3] hs ?_
 apply Zab; intro K2 hK2
 obtain ⟨y3, hy3, h⟩ := bind_some h
 rcases Bool.eq_false_or_eq_true (decide (y3 = 0)) with hf4 | hf4
 ·
  replace h := ZaN h hf4
  obtain ⟨y5, hy5, h⟩ := bind_some h
  have hs := And.intro hf4 hs
  refine rk 3 [4] hs ?_
  refine Zaf _ (Zij w0 hT n _ _ _ a1 _ hy3) (hv hs) ?_
  refine nc hs ?_
  refine Zaf _ (ZnX w0 n _ _ _ a0 a1 _ hy5) (hv hs) ?_
  refine ne hs hK2 ?_
  clear hK2
  exact rt h hs hcalm hO
 ·
  replace h := ZaM h hf4
  apply Zad 3 [4]
  rw [Zaa]; simp +decide only [go_sem, Nat.reduceAdd, hf4]
  have hs := And.intro hf4 hs
  (repeat' apply And.intro) <;> first | refine Zaf _ (Zij w0 hT n _ _ _ a1 _ hy3) (hv hs) ?_ | exact cl
  rw [Zaa]; simp +decide only [go_sem, Nat.reduceAdd, hf4]
  (repeat' apply And.intro) <;> first | refine ZaE ?_ | exact cl
  rw [Zaa]; simp +decide only [go_sem, Nat.reduceAdd, hf4]
  (repeat' apply And.intro) <;> first | refine hK2 _ _ ?_ | exact cl
  clear hK2
  exact rt h hs hcalm hO
def ZaS (a0 : Int × ByteArray × Int × Ty × List Vl) (a1 : Int × ByteArray × Int × Ty × List Vl) : Bool :=
 (sEq a0.2.1 a1.2.1) || (decide (a0.1 = a1.1))
theorem ZmN (w0 : World) (B : List (List AV)) (Rw : List RowA) (L : List LoopA) (a0 : Int × ByteArray × Int × Ty × List Vl) (la1 : Nat) (a1 : Int × ByteArray × Int × Ty × List Vl) (hla1 : B[la1]? = some (.val (.int .i64 a1.1) :: (.val (.string a1.2.1) :: (.val (.int .i64 a1.2.2.1) :: ((a1.2.2.2.1.cs) ++ ([.list (a1.2.2.2.2.map avV) .none])))))) (r : Bool) (h : ZaS a0 a1 = r) :
  ACalls Tryz.prog w0 180 [.agg (.val (.int .i64 a0.1) :: (.val (.string a0.2.1) :: (.val (.int .i64 a0.2.2.1) :: ((a0.2.2.2.1.cs) ++ ([.list (a0.2.2.2.2.map avV) .none]))))), .box la1 0] ⟨B, Rw, L⟩ fun x st => x = .val (.bool r) ∧ st = ⟨B, Rw, L⟩ := by
 rw [ZaS] at h
 refine hd [.tmp 3] Tryz.func180 Tryz.ntmps180 fun M0 W0 hN hNR hNL hcalm hu hO hs => ?_
 simp only [Zas]
 have hltla1 := (List.getElem?_eq_some_iff.1 hla1).1
 have hs := And.intro (Zaj hla1) hs
 refine rg [1, 2] hs ?_
 refine rg [3] hs ?_
 apply Zag; simp +decide only [go_sem, Nat.reduceAdd, Zaj hla1]
 subst h
 first | refine ZaD hcalm rfl hO.pre ev ⟨?_, rfl⟩ | refine Za4 hcalm rfl hO.pre ev ⟨?_, rfl⟩
 first | rfl | (simp +decide only [go_sem, Nat.reduceAdd, Zaj hla1]; done) | (simp +decide only [go_sem, Nat.reduceAdd, Vl.cs, Ty.cs, Zaj hla1]; done)
theorem ZkY (w0 : World) (B : List (List AV)) (Rw : List RowA) (L : List LoopA) (a0 : Int × ByteArray × Int × Ty × List Vl) (la1 : Nat) (a1 : Int × ByteArray × Int × Ty × List Vl) (hla1 : B[la1]? = some (.val (.int .i64 a1.1) :: (.val (.string a1.2.1) :: (.val (.int .i64 a1.2.2.1) :: ((a1.2.2.2.1.cs) ++ ([.list (a1.2.2.2.2.map avV) .none])))))) :
  ACalls Tryz.prog w0 180 [.agg (.val (.int .i64 a0.1) :: (.val (.string a0.2.1) :: (.val (.int .i64 a0.2.2.1) :: ((a0.2.2.2.1.cs) ++ ([.list (a0.2.2.2.2.map avV) .none]))))), .box la1 0] ⟨B, Rw, L⟩ fun x st => x = .val (.bool (ZaS a0 a1)) ∧ st = ⟨B, Rw, L⟩ := ZmN w0 B Rw L a0 la1 a1 hla1 _ rfl
def ZgH (n : Nat) (a0 : Ty) (a1 : Int) : Option Int :=
 (idx a0.fields a1).bind fun x3 =>
 if x3.2.1.size ≤ maxLen then
  if !(Zcf x3.2.1) then
   some (12)
  else
   if !(decide (1 ≤ x3.1) && decide (x3.1 ≤ 9999)) then
    some (2)
   else
    if 0 ≤ 0 ∧ 0 ≤ a1 ∧ a1 ≤ (a0.fields.length : Int) then
     (Zaw n (a0.fields.take a1.toNat) (fun (x0 : Int × ByteArray × Int × Ty × List Vl) => some (ZaS x0 x3))).bind fun y14 =>
     if y14 then
      some (7)
     else
      if (!(decide (1 ≤ x3.2.2.1) && decide (x3.2.2.1 ≤ 3))) || ((decide (a0.kind = 10)) && (!(decide (x3.2.2.1 = 1)))) then
       some (11)
      else
       if (decide (x3.2.2.1 = 3)) && (decide (((x3.2.2.2.2.length : Int)) = 0)) then
        some (4)
       else
        if (decide (1 < ((x3.2.2.2.2.length : Int)))) || ((!(decide (x3.2.2.1 = 3))) && (decide (0 < ((x3.2.2.2.2.length : Int))))) then
         some (3)
        else
         some (0)
    else none
 else none
theorem ZoR (w0 : World) (n : Nat) (B : List (List AV)) (Rw : List RowA) (L : List LoopA) (a0 : Ty) (a1 : Int) (r : Int) (h : ZgH n a0 a1 = some r) :
  ACalls Tryz.prog w0 143 [.agg (a0.cs), .val (.int .i64 a1)] ⟨B, Rw, L⟩ fun x st => x = .val (.int .i64 r) ∧ st = ⟨B, Rw, L⟩ := by
 rw [ZgH] at h
 refine hd [.tmp 4] Tryz.func143 Tryz.ntmps143 fun M0 W0 hN hNR hNL hcalm hu hO hs => ?_
 simp only [Zas]
 refine rg [1, 2] hs ?_
 obtain ⟨x3, hx3, h⟩ := bind_some h
 obtain ⟨hx3a, hx3b, hx3c⟩ := Zar hx3
 have hx3d := Zau (f := Zek) hx3c
 have hs := And.intro hx3d hs
 refine rg [1, 2, 5] hs ?_
 apply Zab; intro K4 hK4
 apply Zae
 obtain ⟨hg6, h⟩ := Zac h
 refine rc 2 [1, 2, 5, 11] hs ?_; intro K5 hK5
 refine Zaf _ (ZhS w0 _ _ _ x3.2.1 hg6) (hv hs) ?_
 refine ne hs hK5 ?_
 clear hK5
 refine cnd h hs (fun hs h => ?_) (fun hs h => ?_)
 ·
  refine rg [4] hs ?_
  exact rt h hs hcalm hO
 refine rc 2 [1, 2, 5, 16] hs ?_; intro K9 hK9
 refine Zaf _ (Zlt w0 _ _ _ x3.1 1 9999) (hv hs) ?_
 refine ne hs hK9 ?_
 clear hK9
 refine cnd h hs (fun hs h => ?_) (fun hs h => ?_)
 ·
  refine rg [4] hs ?_
  exact rt h hs hcalm hO
 obtain ⟨hg13, h⟩ := Zac h
 obtain ⟨y14, hy14, h⟩ := bind_some h
 refine rc 2 [2, 5, 21] hs ?_; intro K12 hK12
 refine Zaf _ (Zck w0 n _ _ _ (a0.fields.take a1.toNat) 180 [.box (B.length + 1) 0] (fun (x0 : Int × ByteArray × Int × Ty × List Vl) => some (ZaS x0 x3)) (fun x0 r hx B' rows' hB' hR' => by cases hx; exact ZkY w0 _ _ _ x0 _ x3 (ZeC hB' (ef hs))) _ hy14) (hv hs) ?_
 refine ne hs hK12 ?_
 clear hK12
 refine cnd h hs (fun hs h => ?_) (fun hs h => ?_)
 ·
  refine rg [4] hs ?_
  exact rt h hs hcalm hO
 refine rc 2 [5, 28] hs ?_; intro K17 hK17
 refine Zaf _ (Zlt w0 _ _ _ x3.2.2.1 1 3) (hv hs) ?_
 refine ne hs hK17 ?_
 clear hK17
 refine cnd h hs (fun hs h => ?_) (fun hs h => ?_)
 ·
  refine rg [4] hs ?_
  exact rt h hs hcalm hO
 refine rg [5, 43] hs ?_
 refine cnd h hs (fun hs h => ?_) (fun hs h => ?_)
 ·
  refine rg [4] hs ?_
  exact rt h hs hcalm hO
 refine rg [53] hs ?_
 refine cnd h hs (fun hs h => ?_) (fun hs h => ?_)
 ·
  refine rg [4] hs ?_
  exact rt h hs hcalm hO
 refine sk [] hs hK4 ?_
 clear hK4
 refine rg [4] hs ?_
 exact rt h hs hcalm hO
def Zec  (x5_k4 : Bool) : Int :=
 if x5_k4 then
  3
 else
  0
def ZfR (a0 : Ty) (a1 : Lim) : Int :=
 if (!a1.bounds) && ((!(decide (a0.min = 0))) || (!(decide (a0.max = 0)))) then
  Zec  true
 else
  if (!a1.scale) && (!(decide (a0.scale = 0))) then
   Zec  true
  else
   if (!a1.text) && (decide (0 < ((a0.words.length : Int)))) then
    Zec  true
   else
    if (!a1.list) && (decide (0 < ((a0.elem.length : Int)))) then
     Zec  true
    else
     Zec  ((!a1.fields) && (decide (0 < ((a0.fields.length : Int)))))
theorem ZqU (w0 : World) (B : List (List AV)) (Rw : List RowA) (L : List LoopA) (a0 : Ty) (a1 : Lim) (r : Int) (h : ZfR a0 a1 = r) :
  ACalls Tryz.prog w0 141 [.agg (a0.cs), .agg (.val (.string a1.name) :: (.val (.int .i64 a1.low) :: (.val (.int .i64 a1.high) :: (.val (.bool a1.bounds) :: (.val (.bool a1.scale) :: (.val (.bool a1.text) :: (.val (.bool a1.list) :: ([.val (.bool a1.fields)]))))))))] ⟨B, Rw, L⟩ fun x st => x = .val (.int .i64 r) ∧ st = ⟨B, Rw, L⟩ := by
 rw [ZfR] at h
 refine hd [.tmp 4] Tryz.func141 Tryz.ntmps141 fun M0 W0 hN hNR hNL hcalm hu hO hs => ?_
 simp only [Zas]
 refine rg [2, 3] hs ?_
 apply Zab; intro K2 hK2
 apply Zae
 refine Zah (fun e st => ∃ (x5_k4 : Bool), Ck e st B Rw L [(5, true, .val (.bool x5_k4))] [a0.cs, .val (.string a1.name) :: (.val (.int .i64 a1.low) :: (.val (.int .i64 a1.high) :: (.val (.bool a1.bounds) :: (.val (.bool a1.scale) :: (.val (.bool a1.text) :: (.val (.bool a1.list) :: ([.val (.bool a1.fields)])))))))] [] (Zec  x5_k4 = r)) ?_ ?_
 ·
  intro K5 hK5
  refine rg [2, 3, 5] hs ?_
  refine cnd h hs (fun hs h => ?_) (fun hs h => ?_)
  ·
   refine sk [5] hs hK5 ?_
   exact ⟨true, ([]), Rw, ef hs, ef hs, hO, h⟩
  refine rg [2, 3, 5] hs ?_
  refine cnd h hs (fun hs h => ?_) (fun hs h => ?_)
  ·
   refine sk [5] hs hK5 ?_
   exact ⟨true, ([]), Rw, ef hs, ef hs, hO, h⟩
  refine rg [2, 3, 5] hs ?_
  refine cnd h hs (fun hs h => ?_) (fun hs h => ?_)
  ·
   refine sk [5] hs hK5 ?_
   exact ⟨true, ([]), Rw, ef hs, ef hs, hO, h⟩
  refine rg [2, 3, 5] hs ?_
  refine cnd h hs (fun hs h => ?_) (fun hs h => ?_)
  ·
   refine sk [5] hs hK5 ?_
   exact ⟨true, ([]), Rw, ef hs, ef hs, hO, h⟩
  refine rl [5] hs hK5 ?_
  exact ⟨((!a1.fields) && (decide (0 < ((a0.fields.length : Int))))), ([]), Rw, ef hs, ef hs, hO, h⟩
 ·
  clear h; rintro e st ⟨x5_k4, Xk4, Rk4, rfl, rfl, hO, h⟩
  rw [Zec] at h
  refine td hN hNR hNL hcalm hO ?_
  refine cnd h hs (fun hs h => ?_) (fun hs h => ?_)
  ·
   have hb14 := hs.1
   refine rg [4] hs ?_
   apply Zag; simp +decide only [go_sem, Nat.reduceAdd, hb14]
   subst h
   first | refine ZaD hcalm rfl hO.pre ev ⟨?_, rfl⟩ | refine Za4 hcalm rfl hO.pre ev ⟨?_, rfl⟩
   first | rfl | (simp +decide only [go_sem, Nat.reduceAdd, hb14]; done) | (simp +decide only [go_sem, Nat.reduceAdd, Vl.cs, Ty.cs, hb14]; done)
  have hb14 := hs.1
  refine sk [] hs hK2 ?_
  clear hK2
  refine rg [4] hs ?_
  apply Zag; simp +decide only [go_sem, Nat.reduceAdd, hb14]
  subst h
  first | refine ZaD hcalm rfl hO.pre ev ⟨?_, rfl⟩ | refine Za4 hcalm rfl hO.pre ev ⟨?_, rfl⟩
  first | rfl | (simp +decide only [go_sem, Nat.reduceAdd, hb14]; done) | (simp +decide only [go_sem, Nat.reduceAdd, Vl.cs, Ty.cs, hb14]; done)
theorem ZoJ (w0 : World) (B : List (List AV)) (Rw : List RowA) (L : List LoopA) (a0 : Ty) (a1 : Lim) :
  ACalls Tryz.prog w0 141 [.agg (a0.cs), .agg (.val (.string a1.name) :: (.val (.int .i64 a1.low) :: (.val (.int .i64 a1.high) :: (.val (.bool a1.bounds) :: (.val (.bool a1.scale) :: (.val (.bool a1.text) :: (.val (.bool a1.list) :: ([.val (.bool a1.fields)]))))))))] ⟨B, Rw, L⟩ fun x st => x = .val (.int .i64 (ZfR a0 a1)) ∧ st = ⟨B, Rw, L⟩ := ZqU w0 B Rw L a0 a1 _ rfl
def Zeg  : ((List Lim)) :=
 [Lim.mk ((⟨#[]⟩ : ByteArray)) 0 0 false false false false false, Lim.mk ((⟨#[98, 111, 111, 108]⟩ : ByteArray)) 0 0 false false false false false, Lim.mk ((⟨#[105, 110, 116]⟩ : ByteArray)) ((-999999999999999)) 999999999999999 true false false false false, Lim.mk ((⟨#[100, 101, 99, 105, 109, 97, 108]⟩ : ByteArray)) ((-999999999999999)) 999999999999999 true true false false false, Lim.mk ((⟨#[116, 101, 120, 116]⟩ : ByteArray)) 0 1024 true false true false false, Lim.mk ((⟨#[98, 121, 116, 101, 115]⟩ : ByteArray)) 0 1024 true false false false false, Lim.mk ((⟨#[100, 97, 116, 101]⟩ : ByteArray)) ((-719162)) 2932896 true false false false false, Lim.mk ((⟨#[116, 105, 109, 101]⟩ : ByteArray)) ((-62135596800000)) 253402300799999 true false false false false, Lim.mk ((⟨#[108, 105, 115, 116]⟩ : ByteArray)) 0 256 true false false true false, Lim.mk ((⟨#[114, 101, 99, 111, 114, 100]⟩ : ByteArray)) 0 0 false false false false true, Lim.mk ((⟨#[118, 97, 114, 105, 97, 110, 116]⟩ : ByteArray)) 0 0 false false false false true]
theorem Zpf (w0 : World) (B : List (List AV)) (Rw : List RowA) (L : List LoopA)  (r : (List Lim)) (h : Zeg  = r) :
  ACalls Tryz.prog w0 75 [] ⟨B, Rw, L⟩ fun x st => x = .agg (r.flatMap fun x => (Zta x).cells) ∧ st = ⟨B, Rw, L⟩ := by
 rw [Zeg] at h
 refine hd [.cell 0 102] Tryz.func75 Tryz.ntmps75 fun M0 W0 hN hNR hNL hcalm hu hO hs => ?_
 simp only [Zas]
 refine rg [0] hs ?_
 apply Zab; intro K2 hK2
 apply Zad 1 [0]
 rw [Zaa]; simp +decide only [go_sem, Nat.reduceAdd, ZaZ, ZaA, Zay, List.getElem?_cons_zero, List.getElem?_cons_succ, List.nil_append, List.cons_append]
 (repeat' apply And.intro) <;> first | refine hK2 _ _ ?_ | exact cl
 clear hK2
 apply Zag; simp +decide only [go_sem, Nat.reduceAdd]
 subst h
 first | refine ZaD hcalm rfl hO.pre ev ⟨?_, rfl⟩ | refine Za4 hcalm rfl hO.pre ev ⟨?_, rfl⟩
 first | rfl | (simp +decide only [go_sem, Nat.reduceAdd]; done) | (simp +decide only [go_sem, Nat.reduceAdd, Vl.cs, Ty.cs]; done)
theorem Znu (w0 : World) (B : List (List AV)) (Rw : List RowA) (L : List LoopA)  :
  ACalls Tryz.prog w0 75 [] ⟨B, Rw, L⟩ fun x st => x = .agg ((Zeg ).flatMap fun x => (Zta x).cells) ∧ st = ⟨B, Rw, L⟩ := Zpf w0 B Rw L  _ rfl
def Zeu (a0 : ByteArray) : Vl :=
 Vl.mk 4 0 0 a0 ([]) ([])
theorem ZqA (w0 : World) (B : List (List AV)) (Rw : List RowA) (L : List LoopA) (a0 : ByteArray) (r : Vl) (h : Zeu a0 = r) :
  ACalls Tryz.prog w0 105 [.val (.string a0)] ⟨B, Rw, L⟩ fun x st => x = .agg (r.cs) ∧ st = ⟨B, Rw, L⟩ := by
 rw [Zeu] at h
 refine hd [.cell 2 34] Tryz.func105 Tryz.ntmps105 fun M0 W0 hN hNR hNL hcalm hu hO hs => ?_
 simp only [Zas]
 refine rg [0, 2] hs ?_
 apply Zab; intro K2 hK2
 apply Zad 1 [2]
 rw [Zaa]; simp +decide only [go_sem, Nat.reduceAdd, ZaZ, ZaA, Zay]
 (repeat' apply And.intro) <;> first | refine hK2 _ _ ?_ | exact cl
 clear hK2
 apply Zag; simp +decide only [go_sem, Nat.reduceAdd]
 subst h
 first | refine ZaD hcalm rfl hO.pre ev ⟨?_, rfl⟩ | refine Za4 hcalm rfl hO.pre ev ⟨?_, rfl⟩
 first | rfl | (simp +decide only [go_sem, Nat.reduceAdd]; done) | (simp +decide only [go_sem, Nat.reduceAdd, Vl.cs, Ty.cs]; done)
theorem Zir (w0 : World) (B : List (List AV)) (Rw : List RowA) (L : List LoopA) (a0 : ByteArray) :
  ACalls Tryz.prog w0 105 [.val (.string a0)] ⟨B, Rw, L⟩ fun x st => x = .agg ((Zeu a0).cs) ∧ st = ⟨B, Rw, L⟩ := ZqA w0 B Rw L a0 _ rfl
def Zf8 (n : Nat)  : Option Int :=
 some (0)
def ZcC (n : Nat) (a0 : Ty) : Nat → Int → Option Int
 | 0, _ => none
 | m + 1, x23_l13 =>
  if decide (x23_l13 < ((a0.words.length : Int))) then
   (idx a0.words x23_l13).bind fun x19 =>
   (ZeR n (Zeu x19)).bind fun y22 =>
   if !(decide (y22 = 0)) then
    some (y22)
   else
    if decide (0 < x23_l13) then
     if I64 (x23_l13 - 1) then
      (idx a0.words (x23_l13 - 1)).bind fun x30 =>
      if sEq x19 x30 then
       some (7)
      else
       if I64 (x23_l13 - 1) then
        if sLt x19 x30 then
         some (24)
        else
         if I64 (x23_l13 + 1) then
          (ZcC n a0 m) (x23_l13 + 1)
         else none
       else none
     else none
    else
     if I64 (x23_l13 + 1) then
      (ZcC n a0 m) (x23_l13 + 1)
     else none
  else
   Zf8 n 
def Zgw (n : Nat) (a0 : Ty) : Option Int :=
 if (!(decide (a0.min = 0))) || (!(decide (a0.max = 0))) then
  some (3)
 else
  if decide (64 < ((a0.words.length : Int))) then
   some (9)
  else
   ZcC n a0 n 0
theorem Zpa (w0 : World) (hT : Lib.Utf8Tabs 0 1 w0) (n : Nat) (B : List (List AV)) (Rw : List RowA) (L : List LoopA) (a0 : Ty) (r : Int) (h : Zgw n a0 = some r) :
  ACalls Tryz.prog w0 142 [.agg (a0.cs)] ⟨B, Rw, L⟩ fun x st => x = .val (.int .i64 r) ∧ st = ⟨B, Rw, L⟩ := by
 rw [Zgw] at h
 refine hd [.tmp 2] Tryz.func142 Tryz.ntmps142 fun M0 W0 hN hNR hNL hcalm hu hO hs => ?_
 simp only [Zas]
 refine rg [1] hs ?_
 apply Zab; intro K2 hK2
 apply Zae
 refine rg [1, 6] hs ?_
 refine cnd h hs (fun hs h => ?_) (fun hs h => ?_)
 ·
  refine rg [2] hs ?_
  exact rt h hs hcalm hO
 refine rg [1, 15] hs ?_
 refine cnd h hs (fun hs h => ?_) (fun hs h => ?_)
 ·
  refine rg [2] hs ?_
  exact rt h hs hcalm hO
 refine sk [1] hs hK2 ?_
 clear hK2
 refine Zah (fun e st => Ck e st B Rw L [] [a0.cs] [] (Zf8 n  = some r)) ?_ ?_
 ·
  intro K11 hK11
  refine rg [1, 21, 22, 23] hs ?_
  apply Zae
  refine Zai (fun m e st => ∃ (x23_l13 : Int), Ck e st B Rw L [(1, true, .box B.length 0), (21, true, .list (a0.words.map avS) .none), (22, true, .val (.int .i64 ((a0.words.length : Int)))), (23, true, .val (.int .i64 x23_l13))] [a0.cs] [] (ZcC n a0 m x23_l13 = some r)) n ⟨0, ([]), Rw, ef hs, ef hs, hO, h⟩ ?_
  rintro ml13 e st ⟨x23_l13, Xl13, Rl13, rfl, rfl, hO, h⟩ Ul13 Vl13
  cases ml13 with
  | zero => cases h
  | succ ml13 =>
  rw [ZcC] at h
  refine td hN hNR hNL hcalm hO ?_
  refine rg [1, 21, 22, 23, 24] hs ?_
  apply Zab; intro K15 hK15
  refine cnd h hs (fun hs h => ?_) (fun hs h => ?_)
  rotate_left
  ·
   refine sx [] hs hK11 ?_
   exact ⟨([]), Rl13, ef hs, ef hs, hO, h⟩
  refine sk [1, 21, 22, 23] hs hK15 ?_
  clear hK15
  apply Zab; intro K17 hK17
  apply Zae
  obtain ⟨x19, hx19, h⟩ := bind_some h
  obtain ⟨hx19a, hx19b, hx19c⟩ := Zar hx19
  have hx19d := Zau (f := avS) hx19c
  have hs := And.intro hx19d hs
  refine rg [1, 3, 4, 21, 22, 23] hs ?_
  apply Zab; intro K20 hK20
  obtain ⟨y22, hy22, h⟩ := bind_some h
  refine rc 3 [1, 3, 4, 5, 21, 22, 23] hs ?_; intro K21 hK21
  refine Zaf _ (Zir w0 _ _ _ x19) (hv hs) ?_
  refine nc hs ?_
  refine Zaf _ (Zij w0 hT n _ _ _ (Zeu x19) _ hy22) (hv hs) ?_
  refine ne hs hK21 ?_
  clear hK21
  refine rg [1, 3, 4, 5, 21, 22, 23, 32] hs ?_
  refine cnd h hs (fun hs h => ?_) (fun hs h => ?_)
  ·
   refine rg [2] hs ?_
   exact rt h hs hcalm hO
  refine sk [1, 3, 4, 21, 22, 23] hs hK20 ?_
  clear hK20
  apply Zab; intro K26 hK26
  apply Zab; intro K27 hK27
  rcases Bool.eq_false_or_eq_true (decide (0 < x23_l13)) with hf28 | hf28
  ·
   replace h := ZaN h hf28
   obtain ⟨hg29, h⟩ := Zac h
   obtain ⟨x30, hx30a, hx30b, hx30d, h⟩ := ix avS h
   have hs := And.intro hf28 hs
   have hs := And.intro hx30d hs
   refine rl [1, 3, 4, 21, 22, 23, 45] hs hK27 ?_
   clear hK27
   refine cnd h hs (fun hs h => ?_) (fun hs h => ?_)
   ·
    refine rg [2] hs ?_
    exact rt h hs hcalm hO
   refine sk [1, 3, 4, 21, 22, 23] hs hK26 ?_
   clear hK26
   obtain ⟨hg34, h⟩ := Zac h
   refine rg [1, 21, 22, 23, 57] hs ?_
   refine cnd h hs (fun hs h => ?_) (fun hs h => ?_)
   ·
    refine rg [2] hs ?_
    exact rt h hs hcalm hO
   refine sk [1, 21, 22, 23] hs hK17 ?_
   clear hK17
   obtain ⟨hg37, h⟩ := Zac h
   refine rl [1, 21, 22, 23] hs (fun e s => Vl13 ml13 e s (Nat.lt_succ_self _)) ?_
   exact ⟨(x23_l13 + 1), ([]), Rl13, ef hs, ef hs, hO, h⟩
  ·
   replace h := ZaM h hf28
   have hs := And.intro hf28 hs
   refine rl [1, 3, 4, 21, 22, 23, 45] hs hK27 ?_
   clear hK27
   refine Zap false ev (ef hs) (fun hb38 => by cases hb38) (fun hb38 => ?_)
   refine sk [1, 3, 4, 21, 22, 23] hs hK26 ?_
   clear hK26
   refine rg [1, 21, 22, 23, 57] hs ?_
   refine Zap false ev (ef hs) (fun hb40 => by cases hb40) (fun hb40 => ?_)
   refine sk [1, 21, 22, 23] hs hK17 ?_
   clear hK17
   obtain ⟨hg41, h⟩ := Zac h
   refine rl [1, 21, 22, 23] hs (fun e s => Vl13 ml13 e s (Nat.lt_succ_self _)) ?_
   exact ⟨(x23_l13 + 1), ([]), Rl13, ef hs, ef hs, hO, h⟩
 ·
  clear h; rintro e st ⟨Xk10, Rk10, rfl, rfl, hO, h⟩
  rw [Zf8] at h
  refine td hN hNR hNL hcalm hO ?_
  refine rg [2] hs ?_
  exact rt h hs hcalm hO
def ZjI (n : Nat)  : Option Int :=
 some (0)
def Zd0 (n : Nat) (a0 : Ty) : Nat → Int → Option Int
 | 0, _ => none
 | m + 1, x106_l48 =>
  if decide (x106_l48 < ((a0.fields.length : Int))) then
   (ZgH n a0 x106_l48).bind fun y55 =>
   if !(decide (y55 = 0)) then
    some (y55)
   else
    if I64 (x106_l48 + 1) then
     (Zd0 n a0 m) (x106_l48 + 1)
    else none
  else
   ZjI n 
def Zd8 (n : Nat) (a0 : Ty) (x69_k32 : Bool) : Option Int :=
 if x69_k32 then
  some (4)
 else
  if (decide (a0.kind = 8)) && (decide (1 < ((a0.elem.length : Int)))) then
   some (3)
  else
   if decide (64 < ((a0.fields.length : Int))) then
    some (9)
   else
    Zd0 n a0 n 0
def ZfJ (n : Nat) (a0 : Ty) : Option Int :=
 if (decide (a0.kind = 8)) && (decide (((a0.elem.length : Int)) = 0)) then
  Zd8 n a0 true
 else
  Zd8 n a0 ((decide (a0.kind = 10)) && (decide (((a0.fields.length : Int)) = 0)))
def Zgo (n : Nat) (a0 : Ty) (x37_k24 : Bool) : Option Int :=
 if x37_k24 then
  some (2)
 else
  ZfJ n a0 
def ZjE (n : Nat) (a0 : Ty) : Option Int :=
 if !(decide (1 ≤ a0.kind) && decide (a0.kind ≤ 10)) then
  some (11)
 else
  (idx (Zeg ) a0.kind).bind fun x7 =>
  if !(decide ((ZfR a0 x7) = 0)) then
   some (ZfR a0 x7)
  else
   if (decide (a0.kind = 4)) && (decide (0 < ((a0.words.length : Int)))) then
    (Zgw n a0).bind fun y19 =>
    if !(decide (y19 = 0)) then
     some (y19)
    else
     ZfJ n a0 
   else
    if x7.bounds && (((decide (a0.max < a0.min)) || (decide (a0.min < x7.low))) || (decide (x7.high < a0.max))) then
     Zgo n a0 true
    else
     Zgo n a0 (x7.scale && (!(decide (0 ≤ a0.scale) && decide (a0.scale ≤ 12))))
theorem ZsJ (w0 : World) (hT : Lib.Utf8Tabs 0 1 w0) (n : Nat) (B : List (List AV)) (Rw : List RowA) (L : List LoopA) (a0 : Ty) (r : Int) (h : ZjE n a0 = some r) :
  ACalls Tryz.prog w0 97 [.agg (a0.cs)] ⟨B, Rw, L⟩ fun x st => x = .val (.int .i64 r) ∧ st = ⟨B, Rw, L⟩ := by
 rw [ZjE] at h
 refine hd [.tmp 2] Tryz.func97 Tryz.ntmps97 fun M0 W0 hN hNR hNL hcalm hu hO hs => ?_
 simp only [Zas]
 refine rg [1] hs ?_
 apply Zab; intro K2 hK2
 refine rc 2 [1, 11] hs ?_; intro K3 hK3
 refine Zaf _ (Zlt w0 _ _ _ a0.kind 1 10) (hv hs) ?_
 refine ne hs hK3 ?_
 clear hK3
 refine cnd h hs (fun hs h => ?_) (fun hs h => ?_)
 ·
  have hb4 := hs.1
  refine rg [2] hs ?_
  exact rt h hs hcalm hO
 have hb4 := hs.1
 refine sk [1] hs hK2 ?_
 clear hK2
 apply Zab; intro K6 hK6
 obtain ⟨x7, hx7, h⟩ := bind_some h
 obtain ⟨hx7a, hx7b, hx7c⟩ := Zar hx7
 have hx7d := ZiY (f := fun x => (Zta x).cells) 8 (fun _ => rfl) hx7c
 have hx7n : (Zeg ).length = 11 := rfl
 first | rw [hx7n] at hx7b | simp only [List.length_cons, List.length_nil, Nat.reduceAdd, Nat.zero_add] at hx7b
 simp only [Zeo, ZeZ, ZeI, ZeW, Ze2, Zen, ZcY, Zc1, ZeL, ZbO, ZbP, Zc5, Zjm] at hx7d
 apply Zhu mix [4, 5] [1, 3] (by kernel_rfl) (fun s => ∃ (X : List (List AV)) (rows : List RowA), s = ⟨B ++ ([a0.cs] ++ X), rows, L⟩) 3 (B.length + 1)
 ·
  simp +decide only [go_sem, Nat.reduceAdd]
 ·
  rintro s ⟨X, rows, rfl⟩
  refine ⟨2, ?_⟩
  rw [Zaa]; simp +decide only [go_sem, Nat.reduceAdd, Zfp, hb4, hx7d, Nat.mul_one]
  (repeat' apply And.intro) <;> first | refine Zaf _ (Znu w0 _ _ _ ) (by first | rfl | (simp +decide only [go_sem, Nat.reduceAdd, hb4, hx7d, Nat.mul_one]; done) | (simp +decide only [go_sem, Nat.reduceAdd, Vl.cs, Ty.cs, hb4, hx7d, Nat.mul_one]; done)) ?_ | exact cl
  rw [Zaa]; simp +decide only [go_sem, Nat.reduceAdd, hb4, hx7d, Nat.mul_one]
  (repeat' apply And.intro) <;> first | rfl | exact cl
 ·
  refine Good.mk [4] (by kernel_rfl) ⟨[], _, by first | rfl | simp only [List.append_nil, List.nil_append]⟩ ?_ ?_
  ·
   intro h; exact absurd h (by decide)
  ·
   intro i hi; simp only [List.mem_cons, List.not_mem_nil, or_false] at hi
   subst hi
   ·
    apply Zby rfl rfl ev
    ·
     simp +decide only [go_sem, Nat.reduceAdd, ZcR, hb4, hx7d, Nat.mul_one]
     (repeat' apply And.intro) <;> first | rfl | exact cl
    ·
     simp +decide only [go_sem, Nat.reduceAdd, hb4, hx7d, Nat.mul_one]
     refine Good.mk [5] (by kernel_rfl) ⟨_, _, by first | rfl | simp only [List.append_nil, List.nil_append]⟩ ?_ ?_
     ·
      intro h; exact absurd h (by decide)
     ·
      intro i hi; simp only [List.mem_cons, List.not_mem_nil, or_false] at hi
      subst hi
      ·
       apply Zby rfl rfl ev
       ·
        simp +decide only [go_sem, Nat.reduceAdd, ZcR, hb4, hx7d, Nat.mul_one]
        (repeat' apply And.intro) <;> first | rfl | exact cl
       ·
        simp +decide only [go_sem, Nat.reduceAdd, hb4, hx7d, Nat.mul_one]
        refine Good.mk [] (by kernel_rfl) ⟨_, _, by first | rfl | simp only [List.append_nil, List.nil_append]⟩ ?_ ?_
        ·
         intro _; apply ZeN [1, 3]; first | (simp +decide only [go_sem, Nat.reduceAdd, hb4, hx7d, Nat.mul_one]; done) | (simp +decide only [go_sem, Nat.reduceAdd, hb4, hx7d, Nat.mul_one]; rfl)
        ·
         intro i hi; cases hi
 simp +decide only [go_sem, Nat.reduceAdd, hb4, hx7d, Nat.mul_one]
 (repeat' apply And.intro) <;> first | refine hK6 _ _ ?_ | exact cl
 clear hK6
 apply Zab; intro K8 hK8
 have hs := And.intro hx7d hs
 refine rc 2 [1, 3, 4] hs ?_; intro K9 hK9
 refine Zaf _ (ZoJ w0 _ _ _ a0 x7) (hv hs) ?_
 refine ne hs hK9 ?_
 clear hK9
 refine rg [1, 3, 4, 20] hs ?_
 refine cnd h hs (fun hs h => ?_) (fun hs h => ?_)
 ·
  refine rg [2] hs ?_
  exact rt h hs hcalm hO
 refine sk [1, 3] hs hK8 ?_
 clear hK8
 refine Zah (fun e st => Ck e st B Rw L [(1, true, .box B.length 0)] [a0.cs, .val (.string x7.name) :: (.val (.int .i64 x7.low) :: (.val (.int .i64 x7.high) :: (.val (.bool x7.bounds) :: (.val (.bool x7.scale) :: (.val (.bool x7.text) :: (.val (.bool x7.list) :: ([.val (.bool x7.fields)])))))))] [] (ZfJ n a0  = some r)) ?_ ?_
 ·
  intro K15 hK15
  apply Zae
  refine rg [1, 3, 22] hs ?_
  refine cnd h hs (fun hs h => ?_) (fun hs h => ?_)
  ·
   obtain ⟨y19, hy19, h⟩ := bind_some h
   refine rc 2 [1, 5] hs ?_; intro K18 hK18
   refine Zaf _ (Zpa w0 hT n _ _ _ a0 _ hy19) (hv hs) ?_
   refine ne hs hK18 ?_
   clear hK18
   refine rg [1, 5, 35] hs ?_
   refine cnd h hs (fun hs h => ?_) (fun hs h => ?_)
   ·
    refine rg [2] hs ?_
    exact rt h hs hcalm hO
   refine sk [1] hs hK15 ?_
   exact ⟨([]), Rw, ef hs, ef hs, hO, h⟩
  refine Zah (fun e st => ∃ (x37_k24 : Bool), Ck e st B Rw L [(1, true, .box B.length 0), (37, true, .val (.bool x37_k24))] [a0.cs, .val (.string x7.name) :: (.val (.int .i64 x7.low) :: (.val (.int .i64 x7.high) :: (.val (.bool x7.bounds) :: (.val (.bool x7.scale) :: (.val (.bool x7.text) :: (.val (.bool x7.list) :: ([.val (.bool x7.fields)])))))))] [] (Zgo n a0 x37_k24 = some r)) ?_ ?_
  ·
   intro K25 hK25
   refine rg [1, 3, 37] hs ?_
   refine cnd h hs (fun hs h => ?_) (fun hs h => ?_)
   ·
    refine sk [1, 37] hs hK25 ?_
    exact ⟨true, ([]), Rw, ef hs, ef hs, hO, h⟩
   refine rk 2 [1, 37] hs ?_
   refine ZdK _ (fun _ => Zlt w0 _ _ _ a0.scale 0 12) (hv hs) ?_
   refine ne hs hK25 ?_
   exact ⟨(x7.scale && (!(decide (0 ≤ a0.scale) && decide (a0.scale ≤ 12)))), ([]), Rw, ef hs, ef hs, hO, h⟩
  ·
   clear h; rintro e st ⟨x37_k24, Xk24, Rk24, rfl, rfl, hO, h⟩
   rw [Zgo] at h
   refine td hN hNR hNL hcalm hO ?_
   refine cnd h hs (fun hs h => ?_) (fun hs h => ?_)
   ·
    refine rg [2] hs ?_
    exact rt h hs hcalm hO
   refine sk [1] hs hK15 ?_
   exact ⟨([]), Rk24, ef hs, ef hs, hO, h⟩
 ·
  clear h; rintro e st ⟨Xk14, Rk14, rfl, rfl, hO, h⟩
  rw [ZfJ] at h
  refine td hN hNR hNL hcalm hO ?_
  apply Zab; intro K30 hK30
  apply Zae
  refine Zah (fun e st => ∃ (x69_k32 : Bool), Ck e st B Rw L [(1, true, .box B.length 0), (69, true, .val (.bool x69_k32))] [a0.cs, .val (.string x7.name) :: (.val (.int .i64 x7.low) :: (.val (.int .i64 x7.high) :: (.val (.bool x7.bounds) :: (.val (.bool x7.scale) :: (.val (.bool x7.text) :: (.val (.bool x7.list) :: ([.val (.bool x7.fields)])))))))] [] (Zd8 n a0 x69_k32 = some r)) ?_ ?_
  ·
   intro K33 hK33
   refine rg [1, 69] hs ?_
   refine cnd h hs (fun hs h => ?_) (fun hs h => ?_)
   ·
    refine sk [1, 69] hs hK33 ?_
    exact ⟨true, ([]), Rk14, ef hs, ef hs, hO, h⟩
   refine rl [1, 69] hs hK33 ?_
   exact ⟨((decide (a0.kind = 10)) && (decide (((a0.fields.length : Int)) = 0))), ([]), Rk14, ef hs, ef hs, hO, h⟩
  ·
   clear h; rintro e st ⟨x69_k32, Xk32, Rk32, rfl, rfl, hO, h⟩
   rw [Zd8] at h
   refine td hN hNR hNL hcalm hO ?_
   refine cnd h hs (fun hs h => ?_) (fun hs h => ?_)
   ·
    refine rg [2] hs ?_
    exact rt h hs hcalm hO
   refine rg [1, 88] hs ?_
   refine cnd h hs (fun hs h => ?_) (fun hs h => ?_)
   ·
    refine rg [2] hs ?_
    exact rt h hs hcalm hO
   refine rg [1, 98] hs ?_
   refine cnd h hs (fun hs h => ?_) (fun hs h => ?_)
   ·
    refine rg [2] hs ?_
    exact rt h hs hcalm hO
   refine sk [1] hs hK30 ?_
   clear hK30
   refine Zah (fun e st => Ck e st B Rw L [] [a0.cs, .val (.string x7.name) :: (.val (.int .i64 x7.low) :: (.val (.int .i64 x7.high) :: (.val (.bool x7.bounds) :: (.val (.bool x7.scale) :: (.val (.bool x7.text) :: (.val (.bool x7.list) :: ([.val (.bool x7.fields)])))))))] [] (ZjI n  = some r)) ?_ ?_
   ·
    intro K46 hK46
    refine rg [1, 105, 106] hs ?_
    apply Zae
    refine Zai (fun m e st => ∃ (x106_l48 : Int), Ck e st B Rw L [(1, true, .box B.length 0), (105, true, .val (.int .i64 ((a0.fields.length : Int)))), (106, true, .val (.int .i64 x106_l48))] [a0.cs, .val (.string x7.name) :: (.val (.int .i64 x7.low) :: (.val (.int .i64 x7.high) :: (.val (.bool x7.bounds) :: (.val (.bool x7.scale) :: (.val (.bool x7.text) :: (.val (.bool x7.list) :: ([.val (.bool x7.fields)])))))))] [] (Zd0 n a0 m x106_l48 = some r)) n ⟨0, ([]), Rk32, ef hs, ef hs, hO, h⟩ ?_
    rintro ml48 e st ⟨x106_l48, Xl48, Rl48, rfl, rfl, hO, h⟩ Ul48 Vl48
    cases ml48 with
    | zero => cases h
    | succ ml48 =>
    rw [Zd0] at h
    refine td hN hNR hNL hcalm hO ?_
    refine rg [1, 105, 106, 107] hs ?_
    apply Zab; intro K50 hK50
    refine cnd h hs (fun hs h => ?_) (fun hs h => ?_)
    rotate_left
    ·
     refine sx [] hs hK46 ?_
     exact ⟨([]), Rl48, ef hs, ef hs, hO, h⟩
    refine sk [1, 105, 106] hs hK50 ?_
    clear hK50
    apply Zab; intro K52 hK52
    apply Zae
    refine rg [1, 6, 105, 106] hs ?_
    obtain ⟨y55, hy55, h⟩ := bind_some h
    refine rc 2 [1, 7, 105, 106] hs ?_; intro K54 hK54
    refine Zaf _ (ZoR w0 n _ _ _ a0 x106_l48 _ hy55) (hv hs) ?_
    refine ne hs hK54 ?_
    clear hK54
    refine rg [1, 7, 105, 106, 113] hs ?_
    refine cnd h hs (fun hs h => ?_) (fun hs h => ?_)
    ·
     refine rg [2] hs ?_
     exact rt h hs hcalm hO
    refine sk [1, 105, 106] hs hK52 ?_
    clear hK52
    obtain ⟨hg59, h⟩ := Zac h
    refine rl [1, 105, 106] hs (fun e s => Vl48 ml48 e s (Nat.lt_succ_self _)) ?_
    exact ⟨(x106_l48 + 1), ([]), Rl48, ef hs, ef hs, hO, h⟩
   ·
    clear h; rintro e st ⟨Xk45, Rk45, rfl, rfl, hO, h⟩
    rw [ZjI] at h
    refine td hN hNR hNL hcalm hO ?_
    refine rg [2] hs ?_
    exact rt h hs hcalm hO
def Zhv (rec : Ty → Int → Int → Option (Int × Int)) (n : Nat)  (pla2_k18 : Int) : Option (Int × Int) :=
 some ((0, pla2_k18))
def Zbc (rec : Ty → Int → Int → Option (Int × Int)) (n : Nat) (a0 : Ty) (a1 : Int) (y21 : (List Ty)) : Nat → Int → Int → Option (Int × Int)
 | 0, _, _ => none
 | m + 1, x32_l22, pla2_l22 =>
  if decide (x32_l22 < ((y21.length : Int))) then
   (idx y21 x32_l22).bind fun x28 =>
   if I64 (a1 + 1) then
    (rec x28 (a1 + 1) pla2_l22).bind fun y32 =>
    if !(decide (y32.1 = 0)) then
     some ((y32.1, y32.2))
    else
     if decide (a0.kind = 9) then
      (idx a0.fields x32_l22).bind fun x38 =>
      if decide (x38.2.2.1 = 3) then
       (idx x38.2.2.2.2 0).bind fun x40 =>
       (ZdJ n x28 x40).bind fun y41 =>
       if !y41 then
        some ((18, y32.2))
       else
        if I64 (x32_l22 + 1) then
         (Zbc rec n a0 a1 y21 m) (x32_l22 + 1) y32.2
        else none
      else
       if I64 (x32_l22 + 1) then
        (Zbc rec n a0 a1 y21 m) (x32_l22 + 1) y32.2
       else none
     else
      if I64 (x32_l22 + 1) then
       (Zbc rec n a0 a1 y21 m) (x32_l22 + 1) y32.2
      else none
   else none
  else
   Zhv rec n pla2_l22
def ZhV (rec : Ty → Int → Int → Option (Int × Int)) (n : Nat) (a0 : Ty) (a1 : Int) (a2 : Int) : Option (Int × Int) :=
 if decide (a2 = 0) then
  some ((9, a2))
 else
  if decide (8 < a1) then
   some ((23, a2))
  else
   if I64 (a2 - 1) then
    (ZjE n a0).bind fun y13 =>
    if !(decide (y13 = 0)) then
     some ((y13, a2 - 1))
    else
     (Zgu n a0).bind fun y21 =>
     Zbc rec n a0 a1 y21 n 0 (a2 - 1)
   else none
def ZeO : Nat → Ty → Int → Int → Option (Int × Int)
 | 0, _, _, _ => none
 | n + 1, a0, a1, a2 => ZhV (ZeO n) n a0 a1 a2
def ZjV (w0 : World) (F : Ty → Int → Int → Option (Int × Int)) : Prop := ∀ (B : List (List AV)) (Rw : List RowA) (L : List LoopA) (a0 : Ty) (a1 : Int) (la2 : Nat) (a2 : Int) (hla2 : B[la2]? = some ([.val (.int .i64 a2)])) (r : Int × Int), F a0 a1 a2 = some r → ACalls Tryz.prog w0 53 [.agg (a0.cs), .val (.int .i64 a1), .box la2 0] ⟨B, Rw, L⟩ fun x st => x = .val (.int .i64 r.1) ∧ st = ⟨(B.set la2 [.val (.int .i64 r.2)]), Rw, L⟩
theorem Zmd (w0 : World) (hT : Lib.Utf8Tabs 0 1 w0) (rec : Ty → Int → Int → Option (Int × Int)) (ih : ZjV w0 rec) (n : Nat) : ZjV w0 (ZhV rec n) := by
 intro B Rw L a0 a1 la2 a2 hla2 r h
 rw [ZhV] at h
 refine hd [.tmp 6] Tryz.func53 Tryz.ntmps53 fun M0 W0 hN hNR hNL hcalm hu hO hs => ?_
 simp only [Zas]
 have hltla2 := (List.getElem?_eq_some_iff.1 hla2).1
 have hs := And.intro (Zaj hla2) hs
 refine rg [1, 2, 3] hs ?_
 apply Zab; intro K2 hK2
 apply Zae
 refine rg [1, 2, 3, 11] hs ?_
 refine cnd h hs (fun hs h => ?_) (fun hs h => ?_)
 ·
  have hb4 := hs.1
  refine rg [6] hs ?_
  exact rt h hs hcalm hO
 have hb4 := hs.1
 refine rg [1, 2, 3, 16] hs ?_
 refine cnd h hs (fun hs h => ?_) (fun hs h => ?_)
 ·
  have hb7 := hs.1
  refine rg [6] hs ?_
  exact rt h hs hcalm hO
 have hb7 := hs.1
 refine sk [1, 2, 3] hs hK2 ?_
 clear hK2
 obtain ⟨hg10, h⟩ := Zac h
 refine rg [1, 2, 3] hs ?_
 apply Zab; intro K11 hK11
 obtain ⟨y13, hy13, h⟩ := bind_some h
 refine rc 2 [1, 2, 3, 7] hs ?_; intro K12 hK12
 refine Zaf _ (ZsJ w0 hT n _ _ _ a0 _ hy13) (hv hs) ?_
 refine ne hs hK12 ?_
 clear hK12
 refine rg [1, 2, 3, 7, 27] hs ?_
 refine cnd h hs (fun hs h => ?_) (fun hs h => ?_)
 ·
  have hb15 := hs.1
  refine rg [6] hs ?_
  apply Zag; simp +decide only [go_sem, Nat.reduceAdd, Zaj hla2, hb4, hb7, hb15]
  have hgt := Option.some.inj h; subst hgt
  first | refine ZaD (Zam hcalm ev) (by simp only [List.length_set]) hO.pre ev ⟨?_, rfl⟩ | refine Za4 (Zam hcalm ev) (by simp only [List.length_set]) hO.pre ev ⟨?_, rfl⟩
  first | rfl | (simp +decide only [go_sem, Nat.reduceAdd, Zaj hla2, hb4, hb7, hb15]; done) | (simp +decide only [go_sem, Nat.reduceAdd, Vl.cs, Ty.cs, Zaj hla2, hb4, hb7, hb15]; done)
 have hb15 := hs.1
 refine sk [1, 2, 3] hs hK11 ?_
 clear hK11
 refine Zah (fun e st => ∃ (pla2_k18 : Int) (Xk18 : List (List AV)) (Rk18 : List RowA), e = [] ∧ st = ⟨(B.set la2 ([.val (.int .i64 pla2_k18)])) ++ ([a0.cs] ++ Xk18), Rk18, L⟩ ∧ Owns Rw Rk18 [] ∧ Zhv rec n pla2_k18 = some r) ?_ ?_
 ·
  intro K19 hK19
  obtain ⟨y21, hy21, h⟩ := bind_some h
  refine rc 2 [1, 2, 3, 30, 31, 32] hs ?_; intro K20 hK20
  refine Zaf _ (ZoY w0 n _ _ _ a0 _ hy21) (hv hs) ?_
  refine ne hs hK20 ?_
  clear hK20
  apply Zae
  refine Zai (fun m e st => ∃ (x32_l22 : Int) (pla2_l22 : Int) (Xl22 : List (List AV)) (Rl22 : List RowA), e = [(1, true, .val (.int .i64 a1)), (2, true, .box la2 0), (3, true, .box B.length 0), (30, true, .list (y21.map avT) .none), (31, true, .val (.int .i64 ((y21.length : Int)))), (32, true, .val (.int .i64 x32_l22))] ∧ st = ⟨(B.set la2 ([.val (.int .i64 pla2_l22)])) ++ ([a0.cs] ++ Xl22), Rl22, L⟩ ∧ Owns Rw Rl22 [] ∧ Zbc rec n a0 a1 y21 m x32_l22 pla2_l22 = some r) n ⟨0, (a2 - 1), ([]), Rw, ef hs, ef hs, hO, h⟩ ?_
  rintro ml22 e st ⟨x32_l22, pla2_l22, Xl22, Rl22, rfl, rfl, hO, h⟩ Ul22 Vl22
  cases ml22 with
  | zero => cases h
  | succ ml22 =>
  rw [Zbc] at h
  refine Za9 hN hNR hNL (by simp only [List.length_set]) (Zam hcalm ev) hO (by (simp +decide only [go_sem, Nat.reduceAdd]) <;> (try (repeat' apply And.intro)) <;> first | omega | assumption) (by (simp +decide only [go_sem, Nat.reduceAdd, Zcb]) <;> (try (repeat' apply And.intro)) <;> first | omega | assumption) ?_
  refine rg [1, 2, 3, 30, 31, 32, 33] hs ?_
  apply Zab; intro K24 hK24
  refine cnd h hs (fun hs h => ?_) (fun hs h => ?_)
  rotate_left
  ·
   have hb25 := hs.1
   refine sx [] hs hK19 ?_
   exact ⟨pla2_l22, ([]), Rl22, ef hs, ef hs, hO, h⟩
  have hb25 := hs.1
  refine sk [1, 2, 3, 30, 31, 32] hs hK24 ?_
  clear hK24
  apply Zab; intro K26 hK26
  apply Zae
  obtain ⟨x28, hx28, h⟩ := bind_some h
  obtain ⟨hx28a, hx28b, hx28c⟩ := Zar hx28
  have hx28d := Zau (f := avT) hx28c
  have hs := And.intro hx28d hs
  refine rg [1, 2, 3, 8, 9, 30, 31, 32] hs ?_
  apply Zab; intro K29 hK29
  obtain ⟨hg31, h⟩ := Zac h
  obtain ⟨y32, hy32, h⟩ := bind_some h
  refine rc 2 [1, 2, 3, 8, 9, 10, 30, 31, 32] hs ?_; intro K30 hK30
  refine Zch _ (ih _ _ _ x28 (a1 + 1) la2 pla2_l22 (ef hs) _ hy32) (hv hs) ?_; rintro _ _ ⟨rfl, rfl⟩
  refine ne hs hK30 ?_
  clear hK30
  refine rg [1, 2, 3, 8, 9, 10, 30, 31, 32, 43] hs ?_
  refine cnd h hs (fun hs h => ?_) (fun hs h => ?_)
  ·
   have hb34 := hs.1
   refine rg [6] hs ?_
   apply Zag; simp +decide only [go_sem, Nat.reduceAdd, Zaj hla2, hb4, hb7, hb15, hb25, hx28d, hb34]
   have hgt := Option.some.inj h; subst hgt
   first | refine ZaD (Zam hcalm ev) (by simp only [List.length_set]) hO.pre ev ⟨?_, rfl⟩ | refine Za4 (Zam hcalm ev) (by simp only [List.length_set]) hO.pre ev ⟨?_, rfl⟩
   first | rfl | (simp +decide only [go_sem, Nat.reduceAdd, Zaj hla2, hb4, hb7, hb15, hb25, hx28d, hb34]; done) | (simp +decide only [go_sem, Nat.reduceAdd, Vl.cs, Ty.cs, Zaj hla2, hb4, hb7, hb15, hb25, hx28d, hb34]; done)
  have hb34 := hs.1
  refine sk [1, 2, 3, 8, 9, 30, 31, 32] hs hK29 ?_
  clear hK29
  apply Zab; intro K36 hK36
  rcases Bool.eq_false_or_eq_true (decide (a0.kind = 9)) with hf37 | hf37
  ·
   replace h := ZaN h hf37
   obtain ⟨x38, hx38a, hx38b, hx38d, h⟩ := ix Zek h
   rcases Bool.eq_false_or_eq_true (decide (x38.2.2.1 = 3)) with hf39 | hf39
   ·
    replace h := ZaN h hf39
    obtain ⟨x40, hx40a, hx40b, hx40d, h⟩ := ix avV h
    have hx40e : (x38.2.2.2.2.map avV).getD 0 .junk = _ := hx40d
    obtain ⟨y41, hy41, h⟩ := bind_some h
    apply Zak mix 25 2 1 [1, 2, 3, 30, 31, 32, 69] (by kernel_rfl)
    rw [Zaa]; simp +decide only [go_sem, Nat.reduceAdd, Zaj hla2, hb4, hb7, hb15, hb25, hx28d, hb34, hf37, hx38d, hf39, hx40d, hx40e]
    have hs := And.intro hf37 hs
    have hs := And.intro hx38d hs
    have hs := And.intro hf39 hs
    have hs := And.intro hx40d hs
    have hs := And.intro hx40e hs
    (repeat' apply And.intro) <;> first | refine Zaf _ (ZiV w0 hT n _ _ _ x28 x40 _ hy41) (hv hs) ?_ | exact cl
    rw [Zaa]; simp +decide only [go_sem, Nat.reduceAdd, Zaj hla2, hb4, hb7, hb15, hb25, hx28d, hb34, hf37, hx38d, hf39, hx40d, hx40e]
    (repeat' with_reducible apply And.intro) <;> first | (rw [Zaa]; simp +decide only [go_sem, Nat.reduceAdd, Zaj hla2, hb4, hb7, hb15, hb25, hx28d, hb34, hf37, hx38d, hf39, hx40d, hx40e]) | exact cl
    (repeat' apply And.intro) <;> first | refine hK36 _ _ ?_ | exact cl
    clear hK36
    refine cnd h hs (fun hs h => ?_) (fun hs h => ?_)
    ·
     have hb42 := hs.1
     refine rg [6] hs ?_
     apply Zag; simp +decide only [go_sem, Nat.reduceAdd, Zaj hla2, hb4, hb7, hb15, hb25, hx28d, hb34, hf37, hx38d, hf39, hx40d, hx40e, hb42]
     have hgt := Option.some.inj h; subst hgt
     first | refine ZaD (Zam hcalm ev) (by simp only [List.length_set]) hO.pre ev ⟨?_, rfl⟩ | refine Za4 (Zam hcalm ev) (by simp only [List.length_set]) hO.pre ev ⟨?_, rfl⟩
     first | rfl | (simp +decide only [go_sem, Nat.reduceAdd, Zaj hla2, hb4, hb7, hb15, hb25, hx28d, hb34, hf37, hx38d, hf39, hx40d, hx40e, hb42]; done) | (simp +decide only [go_sem, Nat.reduceAdd, Vl.cs, Ty.cs, Zaj hla2, hb4, hb7, hb15, hb25, hx28d, hb34, hf37, hx38d, hf39, hx40d, hx40e, hb42]; done)
    have hb42 := hs.1
    refine sk [1, 2, 3, 30, 31, 32] hs hK26 ?_
    clear hK26
    obtain ⟨hg44, h⟩ := Zac h
    refine rl [1, 2, 3, 30, 31, 32] hs (fun e s => Vl22 ml22 e s (Nat.lt_succ_self _)) ?_
    exact ⟨(x32_l22 + 1), y32.2, ([x28.cs]), Rl22, ef hs, ef hs, hO, h⟩
   ·
    replace h := ZaM h hf39
    apply Zak mix 25 2 1 [1, 2, 3, 30, 31, 32, 69] (by kernel_rfl)
    rw [Zaa]; simp +decide only [go_sem, Nat.reduceAdd, Zaj hla2, hb4, hb7, hb15, hb25, hx28d, hb34, hf37, hx38d, hf39]
    (repeat' apply And.intro) <;> first | refine ZaE ?_ | exact cl
    rw [Zaa]; simp +decide only [go_sem, Nat.reduceAdd, Zaj hla2, hb4, hb7, hb15, hb25, hx28d, hb34, hf37, hx38d, hf39]
    (repeat' with_reducible apply And.intro) <;> first | (rw [Zaa]; simp +decide only [go_sem, Nat.reduceAdd, Zaj hla2, hb4, hb7, hb15, hb25, hx28d, hb34, hf37, hx38d, hf39]) | exact cl
    (repeat' apply And.intro) <;> first | refine hK36 _ _ ?_ | exact cl
    clear hK36
    have hs := And.intro hf37 hs
    have hs := And.intro hx38d hs
    have hs := And.intro hf39 hs
    refine Zap false ev (ef hs) (fun hb45 => by cases hb45) (fun hb45 => ?_)
    refine sk [1, 2, 3, 30, 31, 32] hs hK26 ?_
    clear hK26
    obtain ⟨hg46, h⟩ := Zac h
    refine rl [1, 2, 3, 30, 31, 32] hs (fun e s => Vl22 ml22 e s (Nat.lt_succ_self _)) ?_
    exact ⟨(x32_l22 + 1), y32.2, ([x28.cs]), Rl22, ef hs, ef hs, hO, h⟩
  ·
   replace h := ZaM h hf37
   apply Zak mix 25 2 1 [1, 2, 3, 30, 31, 32, 69] (by kernel_rfl)
   rw [Zaa]; simp +decide only [go_sem, Nat.reduceAdd, Zaj hla2, hb4, hb7, hb15, hb25, hx28d, hb34, hf37]
   (repeat' apply And.intro) <;> first | refine ZaE ?_ | exact cl
   rw [Zaa]; simp +decide only [go_sem, Nat.reduceAdd, Zaj hla2, hb4, hb7, hb15, hb25, hx28d, hb34, hf37]
   (repeat' with_reducible apply And.intro) <;> first | (rw [Zaa]; simp +decide only [go_sem, Nat.reduceAdd, Zaj hla2, hb4, hb7, hb15, hb25, hx28d, hb34, hf37]) | exact cl
   (repeat' apply And.intro) <;> first | refine hK36 _ _ ?_ | exact cl
   clear hK36
   have hs := And.intro hf37 hs
   refine Zap false ev (ef hs) (fun hb47 => by cases hb47) (fun hb47 => ?_)
   refine sk [1, 2, 3, 30, 31, 32] hs hK26 ?_
   clear hK26
   obtain ⟨hg48, h⟩ := Zac h
   refine rl [1, 2, 3, 30, 31, 32] hs (fun e s => Vl22 ml22 e s (Nat.lt_succ_self _)) ?_
   exact ⟨(x32_l22 + 1), y32.2, ([x28.cs]), Rl22, ef hs, ef hs, hO, h⟩
 ·
  clear h; rintro e st ⟨pla2_k18, Xk18, Rk18, rfl, rfl, hO, h⟩
  rw [Zhv] at h
  refine Za9 hN hNR hNL (by simp only [List.length_set]) (Zam hcalm ev) hO (by (simp +decide only [go_sem, Nat.reduceAdd]) <;> (try (repeat' apply And.intro)) <;> first | omega | assumption) (by (simp +decide only [go_sem, Nat.reduceAdd, Zcb]) <;> (try (repeat' apply And.intro)) <;> first | omega | assumption) ?_
  refine rg [6] hs ?_
  apply Zag; simp +decide only [go_sem, Nat.reduceAdd, Zaj hla2, hb4, hb7, hb15]
  have hgt := Option.some.inj h; subst hgt
  first | refine ZaD (Zam hcalm ev) (by simp only [List.length_set]) hO.pre ev ⟨?_, rfl⟩ | refine Za4 (Zam hcalm ev) (by simp only [List.length_set]) hO.pre ev ⟨?_, rfl⟩
  first | rfl | (simp +decide only [go_sem, Nat.reduceAdd, Zaj hla2, hb4, hb7, hb15]; done) | (simp +decide only [go_sem, Nat.reduceAdd, Vl.cs, Ty.cs, Zaj hla2, hb4, hb7, hb15]; done)
theorem Zkv (w0 : World) (hT : Lib.Utf8Tabs 0 1 w0) : ∀ n : Nat, ZjV w0 (ZeO n)
 | 0 => fun _ _ _ _ _ _ _ _ _ h => (nomatch h)
 | n + 1 => Zmd w0 hT (ZeO n) (Zkv w0 hT n) n
def Zd4  : List (Nat × Vl) → Int → Option Int
 | [], b1_r6 =>
  some (b1_r6)
 | p_r6 :: rest, b1_r6 =>
  if I64 (b1_r6 + 1) then
   (Zd4  rest) (b1_r6 + 1)
  else none
def Zid (a0 : Vl) : Option Int :=
 if a0.size < 1048576 then
  Zd4  (Zgj 1 a0) 0
 else none
theorem Zqw (w0 : World) (B : List (List AV)) (Rw : List RowA) (L : List LoopA) (a0 : Vl) (r : Int) (h : Zid a0 = some r) :
  ACalls Tryz.prog w0 144 [.agg (a0.cs)] ⟨B, Rw, L⟩ fun x st => x = .val (.int .i64 r) ∧ st = ⟨B, Rw, L⟩ := by
 rw [Zid] at h
 refine hd [.tmp 2] Tryz.func144 Tryz.ntmps144 fun M0 W0 hN hNR hNL hcalm hu hO hs => ?_
 simp only [Zas]
 refine rg [1] hs ?_
 refine rg [1, 3] hs ?_
 apply Zab; intro K3 hK3
 refine rc 2 [3, 5] hs ?_; intro K4 hK4
 refine Zch _ (Zj1 w0 _ _ _ a0) (hv hs) ?_; rintro _ _ ⟨rfl, rfl⟩
 refine ne hs hK4 ?_
 clear hK4
 apply Zae
 obtain ⟨hg5, h⟩ := Zac h
 refine ZmB (Zgk a0) (fun st => st.boxes[(B.length + 2)]? = some a0.cs) (fun i st => ∃ (b1_r6 : Int) (Rr6 : List RowA), st = ⟨B ++ ([a0.cs, [.val (.int .i64 b1_r6)], a0.cs]), Rr6, L⟩ ∧ Owns Rw Rr6 [] ∧ Zd4  ((Zgj 1 a0).drop i) b1_r6 = some r) (fun _ _ => False) ev ev (ZhL w0 a0 hg5 _) (fun x hx => Zkm a0 x hx) (by decide) ?_ ⟨0, Rw, ef hs, hO, h⟩ (fun _ _ h => h.elim) ?_ ?_ ?_
 ·
  rintro i st la ⟨b1_r6, Rr6, rfl, hO, h⟩ _ _; simp +decide [St.push]
 ·
  rintro i s1 ⟨XB, XR, XL⟩ x M1 W1 l la la' hX hI hlike hloops hx hra K hK
  obtain ⟨p_r6, hpi, rfl, hi⟩ := Zku a0 i x hx
  (try simp only at hX)
  subst hX
  obtain ⟨b1_r6, Rr6, rfl, hO, h⟩ := hI
  rw [ZnR hpi, Zd4] at h
  have hra0_r6 := hO
  simp only [St.ext, St.push, List.append_assoc, List.append_nil]
  refine Zel (Zdl [3] _) ?_ (Zbg _ _)
  apply ZaK; simp +decide only [go_sem, Nat.reduceAdd]
  (repeat' apply And.intro) <;> first | refine hK _ _ (by simp [St.ext, St.push]) (fun KQ hKQ => ?_) | exact cl
  clear hK
  dsimp only [St.ext, St.push]
  apply Zae
  obtain ⟨hg7, h⟩ := Zac h
  apply Zad 1 [3]
  rw [Zaa]; simp +decide only [go_sem, Nat.reduceAdd]
  (repeat' apply And.intro) <;> first | refine hKQ _ _ _ ⟨⟨B ++ [a0.cs, [.val (.int .i64 (b1_r6 + 1))], a0.cs], Rr6, L⟩, [], by first | rfl | (simp only [List.append_assoc, List.append_nil, List.cons_append, List.nil_append]; done), ⟨by simp, by first | exact Nat.le_refl _ | (have := hO.len; simp; omega), rfl⟩, rfl, ⟨(b1_r6 + 1), Rr6, ef hs, hO, h⟩, ?_⟩ | exact cl
  exact .inl rfl
 ·
  rintro s la ⟨XB, XR, XL⟩ hXR ⟨b1_r6, Rr6, rfl, hO, h⟩ _ _
  simp only at hXR
  subst hXR
  rw [List.drop_eq_nil_of_le (by rw [Zh4]; exact Nat.le_refl _), Zd4] at h
  simp only [St.ext, St.push, List.append_assoc, List.append_nil]
  (repeat' apply And.intro) <;> first | refine hK3 _ _ ?_ | exact cl
  clear hK3
  refine Zmh (bs := [a0.cs, [.val (.int .i64 b1_r6)], a0.cs]) hN hNR hNL rfl hcalm hO (by (simp +decide only [go_sem, Nat.reduceAdd]) <;> (try (repeat' apply And.intro)) <;> first | omega | assumption) (by (simp +decide only [go_sem, Nat.reduceAdd, Zcb]) <;> (try (repeat' apply And.intro)) <;> first | omega | assumption) ?_
  refine rg [2] hs ?_
  exact rt h hs hcalm hO
 ·
  rintro ex s la X hX h; exact h.elim
def ZbA (rec : Ty → Option Int) (n : Nat) (again_l23 : Int → Int → Option Int) (x38_l23 : Int) (x3_k28 : Int) : Option Int :=
 if I64 (x38_l23 + 1) then
  again_l23 x3_k28 (x38_l23 + 1)
 else none
def ZbL (rec : Ty → Option Int) (n : Nat)  (x3_k4 : Int) : Option Int :=
 some ((if 4097 < x3_k4 then 4097 else x3_k4))
def ZaP (rec : Ty → Option Int) (n : Nat) (a0 : Ty) : Nat → Int → Int → Option Int
 | 0, _, _ => none
 | m + 1, x3_l23, x38_l23 =>
  if decide (x38_l23 < ((a0.fields.length : Int))) then
   (idx a0.fields x38_l23).bind fun x31 =>
   if decide (x31.2.2.1 = 1) then
    (rec x31.2.2.2.1).bind fun y35 =>
    if I64 (x3_l23 + y35) then
     ZbA rec n (ZaP rec n a0 m) x38_l23 (x3_l23 + y35)
    else none
   else
    if decide (x31.2.2.1 = 3) then
     (idx x31.2.2.2.2 0).bind fun x39 =>
     (Zid x39).bind fun y40 =>
     if I64 (x3_l23 + y40) then
      ZbA rec n (ZaP rec n a0 m) x38_l23 (x3_l23 + y40)
     else none
    else
     ZbA rec n (ZaP rec n a0 m) x38_l23 x3_l23
  else
   ZbL rec n x3_l23
def Zes (rec : Ty → Option Int) (n : Nat) (a0 : Ty) : Option Int :=
 if decide (a0.kind = 8) then
  if decide (0 < a0.min) then
   (idx a0.elem 0).bind fun x11 =>
   (rec x11).bind fun y12 =>
   if I64 (a0.min * y12) then
    if I64 (1 + (a0.min * y12)) then
     ZbL rec n (1 + (a0.min * y12))
    else none
   else none
  else
   ZbL rec n 1
 else
  if decide (a0.kind = 10) then
   (idx a0.fields 0).bind fun x17 =>
   (rec x17.2.2.2.1).bind fun y18 =>
   if I64 (1 + y18) then
    ZbL rec n (1 + y18)
   else none
  else
   if decide (a0.kind = 9) then
    ZaP rec n a0 n 1 0
   else
    ZbL rec n 1
def Zb7 : Nat → Ty → Option Int
 | 0, _ => none
 | n + 1, a0 => Zes (Zb7 n) n a0
def ZfT (w0 : World) (F : Ty → Option Int) : Prop := ∀ (B : List (List AV)) (Rw : List RowA) (L : List LoopA) (a0 : Ty) (r : Int), F a0 = some r → ACalls Tryz.prog w0 98 [.agg (a0.cs)] ⟨B, Rw, L⟩ fun x st => x = .val (.int .i64 r) ∧ st = ⟨B, Rw, L⟩
theorem Zi4 (w0 : World) (rec : Ty → Option Int) (ih : ZfT w0 rec) (n : Nat) : ZfT w0 (Zes rec n) := by
 intro B Rw L a0 r h
 rw [Zes] at h
 refine hd [.tmp 2] Tryz.func98 Tryz.ntmps98 fun M0 W0 hN hNR hNL hcalm hu hO hs => ?_
 simp only [Zas]
 refine rg [1] hs ?_
 refine rg [1, 3] hs ?_
 refine Zah (fun e st => ∃ (x3_k4 : Int), Ck e st B Rw L [(3, true, .val (.int .i64 x3_k4))] [a0.cs] [] (ZbL rec n x3_k4 = some r)) ?_ ?_
 ·
  intro K5 hK5
  refine rg [1, 3, 7] hs ?_
  apply Zae
  refine rg [1, 3, 7, 8] hs ?_
  refine cnd h hs (fun hs h => ?_) (fun hs h => ?_)
  ·
   have hb8 := hs.1
   refine rg [1, 3, 12] hs ?_
   refine cnd h hs (fun hs h => ?_) (fun hs h => ?_)
   ·
    have hb10 := hs.1
    obtain ⟨x11, hx11a, hx11b, hx11d, h⟩ := ix avT h
    have hx11e : (a0.elem.map avT).getD 0 .junk = _ := hx11d
    obtain ⟨y12, hy12, h⟩ := bind_some h
    obtain ⟨hg13, h⟩ := Zac h
    obtain ⟨hg14, h⟩ := Zac h
    apply Zak mix 10 2 1 [3] (by kernel_rfl)
    rw [Zaa]; simp +decide only [go_sem, Nat.reduceAdd, hb8, hb10, hx11d, hx11e]
    have hs := And.intro hx11d hs
    have hs := And.intro hx11e hs
    (repeat' apply And.intro) <;> first | refine Zaf _ (ih _ _ _ x11 _ hy12) (hv hs) ?_ | exact cl
    rw [Zaa]; simp +decide only [go_sem, Nat.reduceAdd, hb8, hb10, hx11d, hx11e]
    (repeat' with_reducible apply And.intro) <;> first | (rw [Zaa]; simp +decide only [go_sem, Nat.reduceAdd, hb8, hb10, hx11d, hx11e]) | exact cl
    (repeat' apply And.intro) <;> first | refine hK5 _ _ ⟨(1 + (a0.min * y12)), ([]), Rw, ef hs, ef hs, hO, h⟩ | exact cl
   have hb10 := hs.1
   refine sk [3] hs hK5 ?_
   exact ⟨1, ([]), Rw, ef hs, ef hs, hO, h⟩
  have hb8 := hs.1
  refine rg [1, 3, 7, 23] hs ?_
  refine cnd h hs (fun hs h => ?_) (fun hs h => ?_)
  ·
   obtain ⟨x17, hx17a, hx17b, hx17d, h⟩ := ix Zek h
   have hx17e : (a0.fields.map Zek).getD 0 .junk = _ := hx17d
   obtain ⟨y18, hy18, h⟩ := bind_some h
   obtain ⟨hg19, h⟩ := Zac h
   have hs := And.intro hx17d hs
   have hs := And.intro hx17e hs
   refine rk 2 [3] hs ?_
   refine Zaf _ (ih _ _ _ x17.2.2.2.1 _ hy18) (hv hs) ?_
   refine ne hs hK5 ?_
   exact ⟨(1 + y18), ([]), Rw, ef hs, ef hs, hO, h⟩
  refine rg [1, 3, 33] hs ?_
  refine cnd h hs (fun hs h => ?_) (fun hs h => ?_)
  ·
   refine rg [3, 36, 37, 38] hs ?_
   apply Zae
   refine Zai (fun m e st => ∃ (x3_l23 : Int) (x38_l23 : Int), Ck e st B Rw L [(3, true, .val (.int .i64 x3_l23)), (36, true, .list (a0.fields.map Zek) .none), (37, true, .val (.int .i64 ((a0.fields.length : Int)))), (38, true, .val (.int .i64 x38_l23))] [a0.cs] [] (ZaP rec n a0 m x3_l23 x38_l23 = some r)) n ⟨1, 0, ([]), Rw, ef hs, ef hs, hO, h⟩ ?_
   rintro ml23 e st ⟨x3_l23, x38_l23, Xl23, Rl23, rfl, rfl, hO, h⟩ Ul23 Vl23
   cases ml23 with
   | zero => cases h
   | succ ml23 =>
   rw [ZaP] at h
   refine td hN hNR hNL hcalm hO ?_
   refine rg [3, 36, 37, 38, 39] hs ?_
   apply Zab; intro K25 hK25
   refine cnd h hs (fun hs h => ?_) (fun hs h => ?_)
   rotate_left
   ·
    refine sx [3] hs hK5 ?_
    exact ⟨x3_l23, ([]), Rl23, ef hs, ef hs, hO, h⟩
   refine sk [3, 36, 37, 38] hs hK25 ?_
   clear hK25
   refine Zah (fun e st => ∃ (x3_k28 : Int), Ck e st B Rw L [(3, true, .val (.int .i64 x3_k28)), (36, true, .list (a0.fields.map Zek) .none), (37, true, .val (.int .i64 ((a0.fields.length : Int)))), (38, true, .val (.int .i64 x38_l23))] [a0.cs] [] (ZbA rec n (ZaP rec n a0 ml23) x38_l23 x3_k28 = some r)) ?_ ?_
   ·
    intro K29 hK29
    apply Zae
    obtain ⟨x31, hx31, h⟩ := bind_some h
    obtain ⟨hx31a, hx31b, hx31c⟩ := Zar hx31
    have hx31d := Zau (f := Zek) hx31c
    have hs := And.intro hx31d hs
    refine rg [3, 5, 36, 37, 38] hs ?_
    refine rg [3, 5, 36, 37, 38, 43] hs ?_
    apply Zae
    refine rg [3, 5, 36, 37, 38, 43, 44] hs ?_
    refine cnd h hs (fun hs h => ?_) (fun hs h => ?_)
    ·
     obtain ⟨y35, hy35, h⟩ := bind_some h
     obtain ⟨hg36, h⟩ := Zac h
     refine rk 2 [3, 36, 37, 38] hs ?_
     refine Zaf _ (ih _ _ _ x31.2.2.2.1 _ hy35) (hv hs) ?_
     refine ne hs hK29 ?_
     exact ⟨(x3_l23 + y35), ([.val (.int .i64 x31.1) :: (.val (.string x31.2.1) :: (.val (.int .i64 x31.2.2.1) :: ((x31.2.2.2.1.cs) ++ ([.list (x31.2.2.2.2.map avV) .none]))))]), Rl23, ef hs, ef hs, hO, h⟩
    refine rg [3, 5, 36, 37, 38, 51] hs ?_
    refine cnd h hs (fun hs h => ?_) (fun hs h => ?_)
    ·
     obtain ⟨x39, hx39a, hx39b, hx39d, h⟩ := ix avV h
     have hx39e : (x31.2.2.2.2.map avV).getD 0 .junk = _ := hx39d
     obtain ⟨y40, hy40, h⟩ := bind_some h
     obtain ⟨hg41, h⟩ := Zac h
     have hs := And.intro hx39d hs
     have hs := And.intro hx39e hs
     refine rk 2 [3, 36, 37, 38] hs ?_
     refine Zaf _ (Zqw w0 _ _ _ x39 _ hy40) (hv hs) ?_
     refine ne hs hK29 ?_
     exact ⟨(x3_l23 + y40), ([.val (.int .i64 x31.1) :: (.val (.string x31.2.1) :: (.val (.int .i64 x31.2.2.1) :: ((x31.2.2.2.1.cs) ++ ([.list (x31.2.2.2.2.map avV) .none]))))]), Rl23, ef hs, ef hs, hO, h⟩
    refine sk [3, 36, 37, 38] hs hK29 ?_
    exact ⟨x3_l23, ([.val (.int .i64 x31.1) :: (.val (.string x31.2.1) :: (.val (.int .i64 x31.2.2.1) :: ((x31.2.2.2.1.cs) ++ ([.list (x31.2.2.2.2.map avV) .none]))))]), Rl23, ef hs, ef hs, hO, h⟩
   ·
    clear h; rintro e st ⟨x3_k28, Xk28, Rk28, rfl, rfl, hO, h⟩
    rw [ZbA] at h
    refine td hN hNR hNL hcalm hO ?_
    obtain ⟨hg42, h⟩ := Zac h
    refine rl [3, 36, 37, 38] hs (fun e s => Vl23 ml23 e s (Nat.lt_succ_self _)) ?_
    exact ⟨x3_k28, (x38_l23 + 1), ([]), Rk28, ef hs, ef hs, hO, h⟩
  refine sk [3] hs hK5 ?_
  exact ⟨1, ([]), Rw, ef hs, ef hs, hO, h⟩
 ·
  clear h; rintro e st ⟨x3_k4, Xk4, Rk4, rfl, rfl, hO, h⟩
  rw [ZbL] at h
  refine td hN hNR hNL hcalm hO ?_
  refine rg [2] hs ?_
  exact rt h hs hcalm hO
theorem Zhn (w0 : World) : ∀ n : Nat, ZfT w0 (Zb7 n)
 | 0 => fun _ _ _ _ _ h => (nomatch h)
 | n + 1 => Zi4 w0 (Zb7 n) (Zhn w0 n) n
def Zdm (rec : Ty → Option Int) (n : Nat)  (x3_k18 : Int) : Option Int :=
 some (x3_k18)
def Za7 (rec : Ty → Option Int) (n : Nat) (a0 : Ty) : Nat → Int → Int → Option Int
 | 0, _, _ => none
 | m + 1, x3_l21, x25_l21 =>
  if decide (x25_l21 < ((a0.fields.length : Int))) then
   (idx a0.fields x25_l21).bind fun x27 =>
   (rec x27.2.2.2.1).bind fun y28 =>
   if I64 (x25_l21 + 1) then
    (Za7 rec n a0 m) ((if x3_l21 < y28 then y28 else x3_l21)) (x25_l21 + 1)
   else none
  else
   Zdm rec n x3_l21
def ZcL (rec : Ty → Option Int) (n : Nat) (a0 : Ty) (x3_k5 : Int) : Option Int :=
 Za7 rec n a0 n x3_k5 0
def Zbb (rec : Ty → Option Int) (n : Nat) (a0 : Ty) : Nat → Int → Int → Option Int
 | 0, _, _ => none
 | m + 1, x3_l8, x13_l8 =>
  if decide (x13_l8 < ((a0.elem.length : Int))) then
   (idx a0.elem x13_l8).bind fun x14 =>
   (rec x14).bind fun y15 =>
   if I64 (x13_l8 + 1) then
    (Zbb rec n a0 m) ((if x3_l8 < y15 then y15 else x3_l8)) (x13_l8 + 1)
   else none
  else
   ZcL rec n a0 x3_l8
def ZcV (rec : Ty → Option Int) (n : Nat) (a0 : Ty) : Option Int :=
 (Zb7 n a0).bind fun y3 =>
 Zbb rec n a0 n y3 0
def Zbl : Nat → Ty → Option Int
 | 0, _ => none
 | n + 1, a0 => ZcV (Zbl n) n a0
def Zem (w0 : World) (F : Ty → Option Int) : Prop := ∀ (B : List (List AV)) (Rw : List RowA) (L : List LoopA) (a0 : Ty) (r : Int), F a0 = some r → ACalls Tryz.prog w0 54 [.agg (a0.cs)] ⟨B, Rw, L⟩ fun x st => x = .val (.int .i64 r) ∧ st = ⟨B, Rw, L⟩
theorem Zhs (w0 : World) (rec : Ty → Option Int) (ih : Zem w0 rec) (n : Nat) : Zem w0 (ZcV rec n) := by
 intro B Rw L a0 r h
 rw [ZcV] at h
 refine hd [.tmp 2] Tryz.func54 Tryz.ntmps54 fun M0 W0 hN hNR hNL hcalm hu hO hs => ?_
 simp only [Zas]
 refine rg [1] hs ?_
 obtain ⟨y3, hy3, h⟩ := bind_some h
 refine rc 2 [1, 3] hs ?_; intro K2 hK2
 refine Zaf _ (Zhn w0 n _ _ _ a0 _ hy3) (hv hs) ?_
 refine ne hs hK2 ?_
 clear hK2
 refine Zah (fun e st => ∃ (x3_k5 : Int), Ck e st B Rw L [(1, true, .box B.length 0), (3, true, .val (.int .i64 x3_k5))] [a0.cs] [] (ZcL rec n a0 x3_k5 = some r)) ?_ ?_
 ·
  intro K6 hK6
  refine rg [1, 3, 11, 12, 13] hs ?_
  apply Zae
  refine Zai (fun m e st => ∃ (x3_l8 : Int) (x13_l8 : Int), Ck e st B Rw L [(1, true, .box B.length 0), (3, true, .val (.int .i64 x3_l8)), (11, true, .list (a0.elem.map avT) .none), (12, true, .val (.int .i64 ((a0.elem.length : Int)))), (13, true, .val (.int .i64 x13_l8))] [a0.cs] [] (Zbb rec n a0 m x3_l8 x13_l8 = some r)) n ⟨y3, 0, ([]), Rw, ef hs, ef hs, hO, h⟩ ?_
  rintro ml8 e st ⟨x3_l8, x13_l8, Xl8, Rl8, rfl, rfl, hO, h⟩ Ul8 Vl8
  cases ml8 with
  | zero => cases h
  | succ ml8 =>
  rw [Zbb] at h
  refine td hN hNR hNL hcalm hO ?_
  refine rg [1, 3, 11, 12, 13, 14] hs ?_
  apply Zab; intro K10 hK10
  refine cnd h hs (fun hs h => ?_) (fun hs h => ?_)
  rotate_left
  ·
   refine sx [1, 3] hs hK6 ?_
   exact ⟨x3_l8, ([]), Rl8, ef hs, ef hs, hO, h⟩
  refine sk [1, 3, 11, 12, 13] hs hK10 ?_
  clear hK10
  apply Zab; intro K12 hK12
  apply Zae
  obtain ⟨x14, hx14, h⟩ := bind_some h
  obtain ⟨hx14a, hx14b, hx14c⟩ := Zar hx14
  have hx14d := Zau (f := avT) hx14c
  have hs := And.intro hx14d hs
  refine rg [1, 3, 5, 11, 12, 13] hs ?_
  obtain ⟨y15, hy15, h⟩ := bind_some h
  refine rk 2 [1, 3, 11, 12, 13] hs ?_
  refine Zaf _ (ih _ _ _ x14 _ hy15) (hv hs) ?_
  refine ne hs hK12 ?_
  clear hK12
  obtain ⟨hg16, h⟩ := Zac h
  refine rl [1, 3, 11, 12, 13] hs (fun e s => Vl8 ml8 e s (Nat.lt_succ_self _)) ?_
  exact ⟨((if x3_l8 < y15 then y15 else x3_l8)), (x13_l8 + 1), ([x14.cs]), Rl8, ef hs, ef hs, hO, h⟩
 ·
  clear h; rintro e st ⟨x3_k5, Xk5, Rk5, rfl, rfl, hO, h⟩
  rw [ZcL] at h
  refine td hN hNR hNL hcalm hO ?_
  refine Zah (fun e st => ∃ (x3_k18 : Int), Ck e st B Rw L [(3, true, .val (.int .i64 x3_k18))] [a0.cs] [] (Zdm rec n x3_k18 = some r)) ?_ ?_
  ·
   intro K19 hK19
   refine rg [3, 23, 24, 25] hs ?_
   apply Zae
   refine Zai (fun m e st => ∃ (x3_l21 : Int) (x25_l21 : Int), Ck e st B Rw L [(3, true, .val (.int .i64 x3_l21)), (23, true, .list (a0.fields.map Zek) .none), (24, true, .val (.int .i64 ((a0.fields.length : Int)))), (25, true, .val (.int .i64 x25_l21))] [a0.cs] [] (Za7 rec n a0 m x3_l21 x25_l21 = some r)) n ⟨x3_k5, 0, ([]), Rk5, ef hs, ef hs, hO, h⟩ ?_
   rintro ml21 e st ⟨x3_l21, x25_l21, Xl21, Rl21, rfl, rfl, hO, h⟩ Ul21 Vl21
   cases ml21 with
   | zero => cases h
   | succ ml21 =>
   rw [Za7] at h
   refine td hN hNR hNL hcalm hO ?_
   refine rg [3, 23, 24, 25, 26] hs ?_
   apply Zab; intro K23 hK23
   refine cnd h hs (fun hs h => ?_) (fun hs h => ?_)
   rotate_left
   ·
    refine sx [3] hs hK19 ?_
    exact ⟨x3_l21, ([]), Rl21, ef hs, ef hs, hO, h⟩
   refine sk [3, 23, 24, 25] hs hK23 ?_
   clear hK23
   apply Zab; intro K25 hK25
   apply Zae
   obtain ⟨x27, hx27, h⟩ := bind_some h
   obtain ⟨hx27a, hx27b, hx27c⟩ := Zar hx27
   have hx27d := Zau (f := Zek) hx27c
   have hs := And.intro hx27d hs
   refine rg [3, 7, 23, 24, 25] hs ?_
   obtain ⟨y28, hy28, h⟩ := bind_some h
   refine rk 2 [3, 23, 24, 25] hs ?_
   refine Zaf _ (ih _ _ _ x27.2.2.2.1 _ hy28) (hv hs) ?_
   refine ne hs hK25 ?_
   clear hK25
   obtain ⟨hg29, h⟩ := Zac h
   refine rl [3, 23, 24, 25] hs (fun e s => Vl21 ml21 e s (Nat.lt_succ_self _)) ?_
   exact ⟨((if x3_l21 < y28 then y28 else x3_l21)), (x25_l21 + 1), ([.val (.int .i64 x27.1) :: (.val (.string x27.2.1) :: (.val (.int .i64 x27.2.2.1) :: ((x27.2.2.2.1.cs) ++ ([.list (x27.2.2.2.2.map avV) .none]))))]), Rl21, ef hs, ef hs, hO, h⟩
  ·
   clear h; rintro e st ⟨x3_k18, Xk18, Rk18, rfl, rfl, hO, h⟩
   rw [Zdm] at h
   refine td hN hNR hNL hcalm hO ?_
   refine rg [2] hs ?_
   exact rt h hs hcalm hO
theorem ZfH (w0 : World) : ∀ n : Nat, Zem w0 (Zbl n)
 | 0 => fun _ _ _ _ _ h => (nomatch h)
 | n + 1 => Zhs w0 (Zbl n) (ZfH w0 n) n
def Zea (n : Nat) (a0 : Ty) : Option Int :=
 (ZeO n a0 1 4096).bind fun y5 =>
 if !(decide (y5.1 = 0)) then
  some (y5.1)
 else
  (Zbl n a0).bind fun y11 =>
  if decide (4096 < y11) then
   some (9)
  else
   some (0)
theorem Zdf (w0 : World) (hT : Lib.Utf8Tabs 0 1 w0) (n : Nat) (B : List (List AV)) (Rw : List RowA) (L : List LoopA) (a0 : Ty) (r : Int) (h : Zea n a0 = some r) :
  ACalls Tryz.prog w0 16 [.agg (a0.cs)] ⟨B, Rw, L⟩ fun x st => x = .val (.int .i64 r) ∧ st = ⟨B, Rw, L⟩ := by
 rw [Zea] at h
 refine hd [.tmp 2] Tryz.func16 Tryz.ntmps16 fun M0 W0 hN hNR hNL hcalm hu hO hs => ?_
 simp only [Zas]
 refine rg [1] hs ?_
 refine rg [1, 3] hs ?_
 apply Zab; intro K3 hK3
 obtain ⟨y5, hy5, h⟩ := bind_some h
 refine rc 2 [1, 4] hs ?_; intro K4 hK4
 refine Zch _ (Zkv w0 hT n _ _ _ a0 1 (B.length + 1) 4096 ev _ hy5) (hv hs) ?_; rintro _ _ ⟨rfl, rfl⟩
 refine ne hs hK4 ?_
 clear hK4
 refine rg [1, 4, 8] hs ?_
 refine cnd h hs (fun hs h => ?_) (fun hs h => ?_)
 ·
  refine rg [2] hs ?_
  exact rt h hs hcalm hO
 refine sk [1] hs hK3 ?_
 clear hK3
 apply Zab; intro K9 hK9
 obtain ⟨y11, hy11, h⟩ := bind_some h
 refine rc 2 [12] hs ?_; intro K10 hK10
 refine Zaf _ (ZfH w0 n _ _ _ a0 _ hy11) (hv hs) ?_
 refine ne hs hK10 ?_
 clear hK10
 refine cnd h hs (fun hs h => ?_) (fun hs h => ?_)
 ·
  refine rg [2] hs ?_
  exact rt h hs hcalm hO
 refine sk [] hs hK9 ?_
 clear hK9
 refine rg [2] hs ?_
 exact rt h hs hcalm hO
def ZhG (n : Nat) (a0 : Ty) (a1 : Vl) : Option Bool :=
 (Zea n a0).bind fun y3 =>
 if decide (y3 = 0) then
  (ZdJ n a0 a1).bind fun y5 =>
  some (y5)
 else
  some (false)
theorem Zmz (w0 : World) (hT : Lib.Utf8Tabs 0 1 w0) (n : Nat) (B : List (List AV)) (Rw : List RowA) (L : List LoopA) (a0 : Ty) (a1 : Vl) (r : Bool) (h : ZhG n a0 a1 = some r) :
  ACalls Tryz.prog w0 19 [.agg (a0.cs), .agg (a1.cs)] ⟨B, Rw, L⟩ fun x st => x = .val (.bool r) ∧ st = ⟨B, Rw, L⟩ := by
 rw [ZhG] at h
 refine hd [.tmp 4] Tryz.func19 Tryz.ntmps19 fun M0 W0 hN hNR hNL hcalm hu hO hs => ?_
 simp only [Zas]
 refine rg [2, 3] hs ?_
 apply Zab; intro K2 hK2
 obtain ⟨y3, hy3, h⟩ := bind_some h
 rcases Bool.eq_false_or_eq_true (decide (y3 = 0)) with hf4 | hf4
 ·
  replace h := ZaN h hf4
  obtain ⟨y5, hy5, h⟩ := bind_some h
  have hs := And.intro hf4 hs
  refine rk 3 [4] hs ?_
  refine Zaf _ (Zdf w0 hT n _ _ _ a0 _ hy3) (hv hs) ?_
  refine nc hs ?_
  refine Zaf _ (ZiV w0 hT n _ _ _ a0 a1 _ hy5) (hv hs) ?_
  refine ne hs hK2 ?_
  clear hK2
  exact rt h hs hcalm hO
 ·
  replace h := ZaM h hf4
  apply Zad 3 [4]
  rw [Zaa]; simp +decide only [go_sem, Nat.reduceAdd, hf4]
  have hs := And.intro hf4 hs
  (repeat' apply And.intro) <;> first | refine Zaf _ (Zdf w0 hT n _ _ _ a0 _ hy3) (hv hs) ?_ | exact cl
  rw [Zaa]; simp +decide only [go_sem, Nat.reduceAdd, hf4]
  (repeat' apply And.intro) <;> first | refine ZaE ?_ | exact cl
  rw [Zaa]; simp +decide only [go_sem, Nat.reduceAdd, hf4]
  (repeat' apply And.intro) <;> first | refine hK2 _ _ ?_ | exact cl
  clear hK2
  exact rt h hs hcalm hO
def Zdq (a0 : Part) : Option ByteArray :=
 if decide (a0.kind = 1) then
  if ((⟨#[46]⟩ : ByteArray)).size + a0.name.size ≤ 9223372036854775807 then
   some (((⟨#[46]⟩ : ByteArray)) ++ a0.name)
  else none
 else
  if decide (a0.kind = 2) then
   if I64 (a0.index) then
    if ((⟨#[91]⟩ : ByteArray)).size + ((⟨(Lib.itoa a0.index).toArray⟩ : ByteArray)).size ≤ 9223372036854775807 then
     if (((⟨#[91]⟩ : ByteArray)) ++ ((⟨(Lib.itoa a0.index).toArray⟩ : ByteArray))).size + ((⟨#[93]⟩ : ByteArray)).size ≤ 9223372036854775807 then
      some ((((⟨#[91]⟩ : ByteArray)) ++ ((⟨(Lib.itoa a0.index).toArray⟩ : ByteArray))) ++ ((⟨#[93]⟩ : ByteArray)))
     else none
    else none
   else none
  else
   if decide (a0.kind = 3) then
    some ((⟨#[91, 42, 93]⟩ : ByteArray))
   else
    if ((⟨#[63]⟩ : ByteArray)).size + a0.name.size ≤ 9223372036854775807 then
     some (((⟨#[63]⟩ : ByteArray)) ++ a0.name)
    else none
theorem Zkk (w0 : World) (hP : Pow10 w0) (B : List (List AV)) (Rw : List RowA) (L : List LoopA) (a0 : Part) (r : ByteArray) (h : Zdq a0 = some r) :
  ACalls Tryz.prog w0 115 [.agg (.val (.int .i64 a0.kind) :: (.val (.int .i64 a0.index) :: ([.val (.string a0.name)])))] ⟨B, Rw, L⟩ fun x st => x = .val (.string r) ∧ st = ⟨B, Rw, L⟩ := by
 rw [Zdq] at h
 refine hd [.tmp 2] Tryz.func115 Tryz.ntmps115 fun M0 W0 hN hNR hNL hcalm hu hO hs => ?_
 simp only [Zas]
 refine rg [1] hs ?_
 apply Zab; intro K2 hK2
 refine rg [1, 4] hs ?_
 apply Zae
 refine rg [1, 4, 5] hs ?_
 refine cnd h hs (fun hs h => ?_) (fun hs h => ?_)
 ·
  obtain ⟨hg7, h⟩ := Zac h
  have hg7s := hg7
  try simp +decide only [go_sem] at hg7s
  refine rg [2] hs ?_
  exact rt h hs hcalm hO
 refine rg [1, 4, 10] hs ?_
 refine cnd h hs (fun hs h => ?_) (fun hs h => ?_)
 ·
  obtain ⟨hg11, h⟩ := Zac h
  obtain ⟨hg12, h⟩ := Zac h
  have hg12s := hg12
  try simp +decide only [go_sem] at hg12s
  obtain ⟨hg13, h⟩ := Zac h
  have hg13s := hg13
  try simp +decide only [go_sem] at hg13s
  refine rc 2 [2] hs ?_; intro K10 hK10
  refine Zaf _ (Zs3 w0 _ _ _ hP a0.index hg11) (hv hs) ?_
  refine ne hs hK10 ?_
  clear hK10
  exact rt h hs hcalm hO
 refine rg [1, 17] hs ?_
 refine cnd h hs (fun hs h => ?_) (fun hs h => ?_)
 ·
  refine rg [2] hs ?_
  exact rt h hs hcalm hO
 refine sk [1] hs hK2 ?_
 clear hK2
 obtain ⟨hg18, h⟩ := Zac h
 have hg18s := hg18
 try simp +decide only [go_sem] at hg18s
 refine rg [2] hs ?_
 exact rt h hs hcalm hO
def ZbS (a0 : Part) (x5_k5 : Bool) : Option Bool :=
 if x5_k5 then
  if decide (a0.index = 0) then
   if a0.name.size ≤ maxLen then
    some (Zcf a0.name)
   else none
  else
   some (false)
 else
  if decide (a0.kind = 2) then
   some (((sEq a0.name ((⟨#[]⟩ : ByteArray))) && (decide (0 ≤ a0.index))) && (decide (a0.index < 256)))
  else
   if decide (a0.kind = 3) then
    some ((sEq a0.name ((⟨#[]⟩ : ByteArray))) && (decide (a0.index = 0)))
   else
    some (false)
def ZcP (a0 : Part) : Option Bool :=
 if decide (a0.kind = 1) then
  ZbS a0 true
 else
  ZbS a0 (decide (a0.kind = 4))
theorem ZjG (w0 : World) (B : List (List AV)) (Rw : List RowA) (L : List LoopA) (a0 : Part) (r : Bool) (h : ZcP a0 = some r) :
  ACalls Tryz.prog w0 114 [.agg (.val (.int .i64 a0.kind) :: (.val (.int .i64 a0.index) :: ([.val (.string a0.name)])))] ⟨B, Rw, L⟩ fun x st => x = .val (.bool r) ∧ st = ⟨B, Rw, L⟩ := by
 rw [ZcP] at h
 refine hd [.tmp 2] Tryz.func114 Tryz.ntmps114 fun M0 W0 hN hNR hNL hcalm hu hO hs => ?_
 simp only [Zas]
 refine rg [1] hs ?_
 apply Zab; intro K2 hK2
 refine rg [1, 4] hs ?_
 apply Zae
 refine Zah (fun e st => ∃ (x5_k5 : Bool), Ck e st B Rw L [(1, true, .box B.length 0), (4, true, .val (.int .i64 a0.kind)), (5, true, .val (.bool x5_k5))] [.val (.int .i64 a0.kind) :: (.val (.int .i64 a0.index) :: ([.val (.string a0.name)]))] [] (ZbS a0 x5_k5 = some r)) ?_ ?_
 ·
  intro K6 hK6
  refine rg [1, 4, 5] hs ?_
  refine cnd h hs (fun hs h => ?_) (fun hs h => ?_)
  ·
   refine sk [1, 4, 5] hs hK6 ?_
   exact ⟨true, ([]), Rw, ef hs, ef hs, hO, h⟩
  refine rl [1, 4, 5] hs hK6 ?_
  exact ⟨(decide (a0.kind = 4)), ([]), Rw, ef hs, ef hs, hO, h⟩
 ·
  clear h; rintro e st ⟨x5_k5, Xk5, Rk5, rfl, rfl, hO, h⟩
  rw [ZbS] at h
  refine td hN hNR hNL hcalm hO ?_
  refine cnd h hs (fun hs h => ?_) (fun hs h => ?_)
  ·
   have hb9 := hs.1
   apply Zab; intro K10 hK10
   rcases Bool.eq_false_or_eq_true (decide (a0.index = 0)) with hf11 | hf11
   ·
    replace h := ZaN h hf11
    obtain ⟨hg12, h⟩ := Zac h
    have hs := And.intro hf11 hs
    refine rk 2 [2] hs ?_
    refine Zaf _ (ZhS w0 _ _ _ a0.name hg12) (hv hs) ?_
    refine ne hs hK10 ?_
    clear hK10
    exact rt h hs hcalm hO
   ·
    replace h := ZaM h hf11
    apply Zad 2 [2]
    rw [Zaa]; simp +decide only [go_sem, Nat.reduceAdd, hb9, hf11]
    (repeat' apply And.intro) <;> first | refine ZaE ?_ | exact cl
    rw [Zaa]; simp +decide only [go_sem, Nat.reduceAdd, hb9, hf11]
    (repeat' apply And.intro) <;> first | refine hK10 _ _ ?_ | exact cl
    clear hK10
    have hs := And.intro hf11 hs
    exact rt h hs hcalm hO
  have hb9 := hs.1
  refine rg [1, 4, 16] hs ?_
  refine cnd h hs (fun hs h => ?_) (fun hs h => ?_)
  ·
   refine rg [2] hs ?_
   exact rt h hs hcalm hO
  refine rg [1, 31] hs ?_
  refine cnd h hs (fun hs h => ?_) (fun hs h => ?_)
  ·
   refine rg [2] hs ?_
   exact rt h hs hcalm hO
  refine sk [] hs hK2 ?_
  clear hK2
  refine rg [2] hs ?_
  exact rt h hs hcalm hO
def Zf1 (n : Nat)  (x3_k12 : Int) : Option Int :=
 if decide (200 < x3_k12) then
  some (3)
 else
  some (0)
def Zcy (n : Nat) (a0 : List Part) : Nat → Int → Int → Option Int
 | 0, _, _ => none
 | m + 1, x3_l15, x23_l15 =>
  if decide (x23_l15 < ((a0.length : Int))) then
   (idx a0 x23_l15).bind fun x21 =>
   (ZcP x21).bind fun y24 =>
   if !y24 then
    some (3)
   else
    (Zdq x21).bind fun y27 =>
    if I64 (x3_l15 + ((y27.size : Int))) then
     if I64 (x23_l15 + 1) then
      (Zcy n a0 m) (x3_l15 + ((y27.size : Int))) (x23_l15 + 1)
     else none
    else none
  else
   Zf1 n x3_l15
def ZgN (n : Nat) (a0 : List Part) : Option Int :=
 if (decide (((a0.length : Int)) < 1)) || (decide (16 < ((a0.length : Int)))) then
  some (3)
 else
  (idx a0 0).bind fun x7 =>
  if !(decide (x7.kind = 1)) then
   some (3)
  else
   Zcy n a0 n ((-1)) 0
theorem Zpq (w0 : World) (hP : Pow10 w0) (n : Nat) (B : List (List AV)) (Rw : List RowA) (L : List LoopA) (a0 : List Part) (r : Int) (h : ZgN n a0 = some r) :
  ACalls Tryz.prog w0 64 [.list (a0.map ZfK) .none] ⟨B, Rw, L⟩ fun x st => x = .val (.int .i64 r) ∧ st = ⟨B, Rw, L⟩ := by
 rw [ZgN] at h
 refine hd [.tmp 2] Tryz.func64 Tryz.ntmps64 fun M0 W0 hN hNR hNL hcalm hu hO hs => ?_
 simp only [Zas]
 refine rg [0] hs ?_
 apply Zab; intro K2 hK2
 apply Zab; intro K3 hK3
 rcases Bool.eq_false_or_eq_true ((decide (((a0.length : Int)) < 1)) || (decide (16 < ((a0.length : Int))))) with hf4 | hf4
 ·
  replace h := ZaN h hf4
  have hs := And.intro hf4 hs
  refine rl [0, 20] hs hK3 ?_
  clear hK3
  refine Zap true ev (ef hs) (fun hb5 => ?_) (fun hb5 => by cases hb5)
  refine rg [2] hs ?_
  exact rt h hs hcalm hO
 ·
  replace h := ZaM h hf4
  obtain ⟨x7, hx7a, hx7b, hx7d, h⟩ := ix ZfK h
  have hx7e : (a0.map ZfK).getD 0 .junk = _ := hx7d
  have hs := And.intro hf4 hs
  have hs := And.intro hx7d hs
  have hs := And.intro hx7e hs
  refine rl [0, 20] hs hK3 ?_
  clear hK3
  refine cnd h hs (fun hs h => ?_) (fun hs h => ?_)
  ·
   refine rg [2] hs ?_
   exact rt h hs hcalm hO
  refine sk [0] hs hK2 ?_
  clear hK2
  refine rg [0, 3] hs ?_
  refine Zah (fun e st => ∃ (x3_k12 : Int), Ck e st B Rw L [(3, true, .val (.int .i64 x3_k12))] [] [] (Zf1 n x3_k12 = some r)) ?_ ?_
  ·
   intro K13 hK13
   refine rg [3, 21, 22, 23] hs ?_
   apply Zae
   refine Zai (fun m e st => ∃ (x3_l15 : Int) (x23_l15 : Int), Ck e st B Rw L [(3, true, .val (.int .i64 x3_l15)), (21, true, .list (a0.map ZfK) .none), (22, true, .val (.int .i64 ((a0.length : Int)))), (23, true, .val (.int .i64 x23_l15))] [] [] (Zcy n a0 m x3_l15 x23_l15 = some r)) n ⟨((-1)), 0, ([]), Rw, ef hs, ef hs, hO, h⟩ ?_
   rintro ml15 e st ⟨x3_l15, x23_l15, Xl15, Rl15, rfl, rfl, hO, h⟩ Ul15 Vl15
   cases ml15 with
   | zero => cases h
   | succ ml15 =>
   rw [Zcy] at h
   refine td hN hNR hNL hcalm hO ?_
   refine rg [3, 21, 22, 23, 24] hs ?_
   apply Zab; intro K17 hK17
   refine cnd h hs (fun hs h => ?_) (fun hs h => ?_)
   rotate_left
   ·
    refine sx [3] hs hK13 ?_
    exact ⟨x3_l15, ([]), Rl15, ef hs, ef hs, hO, h⟩
   refine sk [3, 21, 22, 23] hs hK17 ?_
   clear hK17
   apply Zab; intro K19 hK19
   apply Zae
   obtain ⟨x21, hx21, h⟩ := bind_some h
   obtain ⟨hx21a, hx21b, hx21c⟩ := Zar hx21
   have hx21d := Zau (f := ZfK) hx21c
   have hs := And.intro hx21d hs
   refine rg [3, 5, 21, 22, 23] hs ?_
   apply Zab; intro K22 hK22
   obtain ⟨y24, hy24, h⟩ := bind_some h
   refine rc 2 [3, 5, 21, 22, 23, 29] hs ?_; intro K23 hK23
   refine Zaf _ (ZjG w0 _ _ _ x21 _ hy24) (hv hs) ?_
   refine ne hs hK23 ?_
   clear hK23
   refine cnd h hs (fun hs h => ?_) (fun hs h => ?_)
   ·
    refine rg [2] hs ?_
    exact rt h hs hcalm hO
   refine sk [3, 5, 21, 22, 23] hs hK22 ?_
   clear hK22
   obtain ⟨y27, hy27, h⟩ := bind_some h
   obtain ⟨hg28, h⟩ := Zac h
   refine rk 2 [3, 21, 22, 23] hs ?_
   refine Zaf _ (Zkk w0 hP _ _ _ x21 _ hy27) (hv hs) ?_
   refine ne hs hK19 ?_
   clear hK19
   obtain ⟨hg29, h⟩ := Zac h
   refine rl [3, 21, 22, 23] hs (fun e s => Vl15 ml15 e s (Nat.lt_succ_self _)) ?_
   exact ⟨(x3_l15 + ((y27.size : Int))), (x23_l15 + 1), ([.val (.int .i64 x21.kind) :: (.val (.int .i64 x21.index) :: ([.val (.string x21.name)]))]), Rl15, ef hs, ef hs, hO, h⟩
  ·
   clear h; rintro e st ⟨x3_k12, Xk12, Rk12, rfl, rfl, hO, h⟩
   rw [Zf1] at h
   refine td hN hNR hNL hcalm hO ?_
   apply Zab; intro K30 hK30
   refine rg [37] hs ?_
   refine cnd h hs (fun hs h => ?_) (fun hs h => ?_)
   ·
    refine rg [2] hs ?_
    exact rt h hs hcalm hO
   refine sk [] hs hK30 ?_
   clear hK30
   refine rg [2] hs ?_
   exact rt h hs hcalm hO
def Zg9 (n : Nat) (a0 : Ty) (a1 : Part) : Option (Ty × Bool × Int) :=
 (idx ([0, 9, 8, 8, 10]) a1.kind).bind fun x3 =>
 if !(decide (a0.kind = x3)) then
  some ((Ty.mk 0 0 0 0 ([]) ([]) ([]), false, 11))
 else
  if decide (a1.kind = 3) then
   (idx a0.elem 0).bind fun x13 =>
   some ((x13, decide (a0.min = 0), 0))
  else
   if decide (a1.kind = 2) then
    if decide (a0.max ≤ a1.index) then
     some ((Ty.mk 0 0 0 0 ([]) ([]) ([]), false, 2))
    else
     (idx a0.elem 0).bind fun x21 =>
     some ((x21, decide (a0.min ≤ a1.index), 0))
   else
    (Zef n a0 a1.name).bind fun y23 =>
    if !y23.2 then
     some ((Ty.mk 0 0 0 0 ([]) ([]) ([]), false, 21))
    else
     if decide (a1.kind = 4) then
      some ((y23.1.2.2.2.1, decide (1 < ((a0.fields.length : Int))), 0))
     else
      some ((y23.1.2.2.2.1, decide (y23.1.2.2.1 = 2), 0))
theorem Zq9 (w0 : World) (n : Nat) (B : List (List AV)) (Rw : List RowA) (L : List LoopA) (a0 : Ty) (a1 : Part) (r : Ty × Bool × Int) (h : Zg9 n a0 a1 = some r) :
  ACalls Tryz.prog w0 65 [.agg (a0.cs), .agg (.val (.int .i64 a1.kind) :: (.val (.int .i64 a1.index) :: ([.val (.string a1.name)])))] ⟨B, Rw, L⟩ fun x st => x = .tup [.agg (r.1.cs), .val (.bool r.2.1), .val (.int .i64 r.2.2)] ∧ st = ⟨B, Rw, L⟩ := by
 rw [Zg9] at h
 refine hd [.cell 4 26, .tmp 5, .tmp 6] Tryz.func65 Tryz.ntmps65 fun M0 W0 hN hNR hNL hcalm hu hO hs => ?_
 simp only [Zas]
 refine rg [2, 3, 4] hs ?_
 apply Zab; intro K2 hK2
 obtain ⟨x3, hx3a, hx3b, hx3d, h⟩ := ix avI h
 simp only [List.map_cons, List.map_nil, Zeo] at hx3d
 have hx3n : ([0, 9, 8, 8, 10]).length = 5 := rfl
 first | rw [hx3n] at hx3b | simp only [List.length_cons, List.length_nil, Nat.reduceAdd, Nat.zero_add] at hx3b
 apply Zad 1 [2, 3, 4, 7]
 rw [Zaa]; simp +decide only [go_sem, Nat.reduceAdd, hx3d, ZaZ, ZaA, Zay, List.getElem?_cons_zero, List.getElem?_cons_succ, List.nil_append, List.cons_append, Nat.mul_one]
 (repeat' apply And.intro) <;> first | refine hK2 _ _ ?_ | exact cl
 clear hK2
 apply Zab; intro K4 hK4
 have hs := And.intro hx3d hs
 refine rg [2, 3, 4, 17] hs ?_
 refine cnd h hs (fun hs h => ?_) (fun hs h => ?_)
 ·
  have hb6 := hs.1
  apply Zab; intro K7 hK7
  apply Zad 1 [4, 5, 6]
  rw [Zaa]; simp +decide only [go_sem, Nat.reduceAdd, hx3d, hb6, ZaZ, ZaA, Zay]
  (repeat' apply And.intro) <;> first | refine hK7 _ _ ?_ | exact cl
  clear hK7
  exact rt h hs hcalm hO
 have hb6 := hs.1
 refine sk [2, 3, 4] hs hK4 ?_
 clear hK4
 apply Zab; intro K8 hK8
 refine rg [2, 3, 4, 20] hs ?_
 apply Zae
 refine rg [2, 3, 4, 20, 21] hs ?_
 refine cnd h hs (fun hs h => ?_) (fun hs h => ?_)
 ·
  have hb11 := hs.1
  apply Zab; intro K12 hK12
  obtain ⟨x13, hx13a, hx13b, hx13d, h⟩ := ix avT h
  have hx13e : (a0.elem.map avT).getD 0 .junk = _ := hx13d
  apply Zhu mix [7] [4, 5, 6] (by kernel_rfl) (fun s => ∃ (X : List (List AV)) (rows : List RowA) (c2 : List AV), s = ⟨B ++ ([a0.cs, .val (.int .i64 a1.kind) :: (.val (.int .i64 a1.index) :: ([.val (.string a1.name)])), c2] ++ X), rows, L⟩) 2 (B.length + 3)
  ·
   simp +decide only [go_sem, Nat.reduceAdd]
  ·
   rintro s ⟨X, rows, c2, rfl⟩
   refine ⟨1, ?_⟩
   rw [Zaa]; simp +decide only [go_sem, Nat.reduceAdd, Zfp, hx3d, hb6, hb11, hx13d, hx13e]
   (repeat' apply And.intro) <;> first | rfl | exact cl
  ·
   refine Good.mk [7] (by kernel_rfl) ⟨[], _, _, by first | rfl | simp only [List.append_nil, List.nil_append]⟩ ?_ ?_
   ·
    intro h; exact absurd h (by decide)
   ·
    intro i hi; simp only [List.mem_cons, List.not_mem_nil, or_false] at hi
    subst hi
    ·
     apply Zby rfl rfl ev
     ·
      simp +decide only [go_sem, Nat.reduceAdd, ZcR, hx3d, hb6, hb11, hx13d, hx13e]
      (repeat' apply And.intro) <;> first | rfl | exact cl
     ·
      simp +decide only [go_sem, Nat.reduceAdd, hx3d, hb6, hb11, hx13d, hx13e]
      refine Good.mk [] (by kernel_rfl) ⟨[], _, _, by first | rfl | simp only [List.append_nil, List.nil_append]⟩ ?_ ?_
      ·
       intro _; apply ZeN [4, 5, 6]; first | (simp +decide only [go_sem, Nat.reduceAdd, hx3d, hb6, hb11, hx13d, hx13e]; done) | (simp +decide only [go_sem, Nat.reduceAdd, hx3d, hb6, hb11, hx13d, hx13e]; rfl)
      ·
       intro i hi; cases hi
  simp +decide only [go_sem, Nat.reduceAdd, hx3d, hb6, hb11, hx13d, hx13e]
  (repeat' apply And.intro) <;> first | refine hK12 _ _ ?_ | exact cl
  clear hK12
  have hs := And.intro hx13d hs
  have hs := And.intro hx13e hs
  exact rt h hs hcalm hO
 have hb11 := hs.1
 refine rg [2, 3, 4, 30] hs ?_
 refine cnd h hs (fun hs h => ?_) (fun hs h => ?_)
 ·
  have hb15 := hs.1
  apply Zab; intro K16 hK16
  refine rg [2, 3, 4, 36] hs ?_
  refine cnd h hs (fun hs h => ?_) (fun hs h => ?_)
  ·
   have hb18 := hs.1
   apply Zab; intro K19 hK19
   apply Zad 1 [4, 5, 6]
   rw [Zaa]; simp +decide only [go_sem, Nat.reduceAdd, hx3d, hb6, hb11, hb15, hb18, ZaZ, ZaA, Zay]
   (repeat' apply And.intro) <;> first | refine hK19 _ _ ?_ | exact cl
   clear hK19
   exact rt h hs hcalm hO
  have hb18 := hs.1
  refine sk [2, 3, 4] hs hK16 ?_
  clear hK16
  apply Zab; intro K20 hK20
  obtain ⟨x21, hx21a, hx21b, hx21d, h⟩ := ix avT h
  have hx21e : (a0.elem.map avT).getD 0 .junk = _ := hx21d
  apply Zhu mix [9] [4, 5, 6] (by kernel_rfl) (fun s => ∃ (X : List (List AV)) (rows : List RowA) (c2 : List AV), s = ⟨B ++ ([a0.cs, .val (.int .i64 a1.kind) :: (.val (.int .i64 a1.index) :: ([.val (.string a1.name)])), c2] ++ X), rows, L⟩) 2 (B.length + 3)
  ·
   simp +decide only [go_sem, Nat.reduceAdd]
  ·
   rintro s ⟨X, rows, c2, rfl⟩
   refine ⟨1, ?_⟩
   rw [Zaa]; simp +decide only [go_sem, Nat.reduceAdd, Zfp, hx3d, hb6, hb11, hb15, hb18, hx21d, hx21e]
   (repeat' apply And.intro) <;> first | rfl | exact cl
  ·
   refine Good.mk [9] (by kernel_rfl) ⟨[], _, _, by first | rfl | simp only [List.append_nil, List.nil_append]⟩ ?_ ?_
   ·
    intro h; exact absurd h (by decide)
   ·
    intro i hi; simp only [List.mem_cons, List.not_mem_nil, or_false] at hi
    subst hi
    ·
     apply Zby rfl rfl ev
     ·
      simp +decide only [go_sem, Nat.reduceAdd, ZcR, hx3d, hb6, hb11, hb15, hb18, hx21d, hx21e]
      (repeat' apply And.intro) <;> first | rfl | exact cl
     ·
      simp +decide only [go_sem, Nat.reduceAdd, hx3d, hb6, hb11, hb15, hb18, hx21d, hx21e]
      refine Good.mk [] (by kernel_rfl) ⟨[], _, _, by first | rfl | simp only [List.append_nil, List.nil_append]⟩ ?_ ?_
      ·
       intro _; apply ZeN [4, 5, 6]; first | (simp +decide only [go_sem, Nat.reduceAdd, hx3d, hb6, hb11, hb15, hb18, hx21d, hx21e]; done) | (simp +decide only [go_sem, Nat.reduceAdd, hx3d, hb6, hb11, hb15, hb18, hx21d, hx21e]; rfl)
      ·
       intro i hi; cases hi
  simp +decide only [go_sem, Nat.reduceAdd, hx3d, hb6, hb11, hb15, hb18, hx21d, hx21e]
  (repeat' apply And.intro) <;> first | refine hK20 _ _ ?_ | exact cl
  clear hK20
  have hs := And.intro hx21d hs
  have hs := And.intro hx21e hs
  exact rt h hs hcalm hO
 have hb15 := hs.1
 refine sk [2, 3, 4] hs hK8 ?_
 clear hK8
 obtain ⟨y23, hy23, h⟩ := bind_some h
 refine rc 2 [2, 3, 4, 8, 9] hs ?_; intro K22 hK22
 refine Zaf _ (ZiN w0 n _ _ _ a0 a1.name _ hy23) (hv hs) ?_
 refine ne hs hK22 ?_
 clear hK22
 apply Zab; intro K24 hK24
 refine rg [2, 3, 4, 8, 55] hs ?_
 refine cnd h hs (fun hs h => ?_) (fun hs h => ?_)
 ·
  have hb26 := hs.1
  apply Zab; intro K27 hK27
  apply Zad 1 [4, 5, 6]
  rw [Zaa]; simp +decide only [go_sem, Nat.reduceAdd, hx3d, hb6, hb11, hb15, hb26, ZaZ, ZaA, Zay]
  (repeat' apply And.intro) <;> first | refine hK27 _ _ ?_ | exact cl
  clear hK27
  exact rt h hs hcalm hO
 have hb26 := hs.1
 refine sk [2, 3, 4, 8] hs hK24 ?_
 clear hK24
 apply Zab; intro K28 hK28
 refine rg [2, 4, 8, 59] hs ?_
 refine cnd h hs (fun hs h => ?_) (fun hs h => ?_)
 ·
  have hb30 := hs.1
  apply Zab; intro K31 hK31
  apply Zhu mix [6] [4, 5, 6] (by kernel_rfl) (fun s => ∃ (X : List (List AV)) (rows : List RowA) (c2 : List AV), s = ⟨B ++ ([a0.cs, .val (.int .i64 a1.kind) :: (.val (.int .i64 a1.index) :: ([.val (.string a1.name)])), c2, .val (.int .i64 y23.1.1) :: (.val (.string y23.1.2.1) :: (.val (.int .i64 y23.1.2.2.1) :: ((y23.1.2.2.2.1.cs) ++ ([.list (y23.1.2.2.2.2.map avV) .none]))))] ++ X), rows, L⟩) 2 (B.length + 4)
  ·
   simp +decide only [go_sem, Nat.reduceAdd]
  ·
   rintro s ⟨X, rows, c2, rfl⟩
   refine ⟨1, ?_⟩
   rw [Zaa]; simp +decide only [go_sem, Nat.reduceAdd, Zfp, hx3d, hb6, hb11, hb15, hb26, hb30]
   (repeat' apply And.intro) <;> first | rfl | exact cl
  ·
   refine Good.mk [6] (by kernel_rfl) ⟨[], _, _, by first | rfl | simp only [List.append_nil, List.nil_append]⟩ ?_ ?_
   ·
    intro h; exact absurd h (by decide)
   ·
    intro i hi; simp only [List.mem_cons, List.not_mem_nil, or_false] at hi
    subst hi
    ·
     apply Zby rfl rfl ev
     ·
      simp +decide only [go_sem, Nat.reduceAdd, ZcR, hx3d, hb6, hb11, hb15, hb26, hb30]
      (repeat' apply And.intro) <;> first | rfl | exact cl
     ·
      simp +decide only [go_sem, Nat.reduceAdd, hx3d, hb6, hb11, hb15, hb26, hb30]
      refine Good.mk [] (by kernel_rfl) ⟨[], _, _, by first | rfl | simp only [List.append_nil, List.nil_append]⟩ ?_ ?_
      ·
       intro _; apply ZeN [4, 5, 6]; first | (simp +decide only [go_sem, Nat.reduceAdd, hx3d, hb6, hb11, hb15, hb26, hb30]; done) | (simp +decide only [go_sem, Nat.reduceAdd, hx3d, hb6, hb11, hb15, hb26, hb30]; rfl)
      ·
       intro i hi; cases hi
  simp +decide only [go_sem, Nat.reduceAdd, hx3d, hb6, hb11, hb15, hb26, hb30]
  (repeat' apply And.intro) <;> first | refine hK31 _ _ ?_ | exact cl
  clear hK31
  exact rt h hs hcalm hO
 have hb30 := hs.1
 refine sk [4, 8] hs hK28 ?_
 clear hK28
 apply Zab; intro K32 hK32
 apply Zhu mix [5] [4, 5, 6] (by kernel_rfl) (fun s => ∃ (X : List (List AV)) (rows : List RowA) (c2 : List AV), s = ⟨B ++ ([a0.cs, .val (.int .i64 a1.kind) :: (.val (.int .i64 a1.index) :: ([.val (.string a1.name)])), c2, .val (.int .i64 y23.1.1) :: (.val (.string y23.1.2.1) :: (.val (.int .i64 y23.1.2.2.1) :: ((y23.1.2.2.2.1.cs) ++ ([.list (y23.1.2.2.2.2.map avV) .none]))))] ++ X), rows, L⟩) 2 (B.length + 4)
 ·
  simp +decide only [go_sem, Nat.reduceAdd]
 ·
  rintro s ⟨X, rows, c2, rfl⟩
  refine ⟨1, ?_⟩
  rw [Zaa]; simp +decide only [go_sem, Nat.reduceAdd, Zfp, hx3d, hb6, hb11, hb15, hb26, hb30]
  (repeat' apply And.intro) <;> first | rfl | exact cl
 ·
  refine Good.mk [5] (by kernel_rfl) ⟨[], _, _, by first | rfl | simp only [List.append_nil, List.nil_append]⟩ ?_ ?_
  ·
   intro h; exact absurd h (by decide)
  ·
   intro i hi; simp only [List.mem_cons, List.not_mem_nil, or_false] at hi
   subst hi
   ·
    apply Zby rfl rfl ev
    ·
     simp +decide only [go_sem, Nat.reduceAdd, ZcR, hx3d, hb6, hb11, hb15, hb26, hb30]
     (repeat' apply And.intro) <;> first | rfl | exact cl
    ·
     simp +decide only [go_sem, Nat.reduceAdd, hx3d, hb6, hb11, hb15, hb26, hb30]
     refine Good.mk [] (by kernel_rfl) ⟨[], _, _, by first | rfl | simp only [List.append_nil, List.nil_append]⟩ ?_ ?_
     ·
      intro _; apply ZeN [4, 5, 6]; first | (simp +decide only [go_sem, Nat.reduceAdd, hx3d, hb6, hb11, hb15, hb26, hb30]; done) | (simp +decide only [go_sem, Nat.reduceAdd, hx3d, hb6, hb11, hb15, hb26, hb30]; rfl)
     ·
      intro i hi; cases hi
 simp +decide only [go_sem, Nat.reduceAdd, hx3d, hb6, hb11, hb15, hb26, hb30]
 (repeat' apply And.intro) <;> first | refine hK32 _ _ ?_ | exact cl
 clear hK32
 exact rt h hs hcalm hO
def Zjb (n : Nat)  (x5_k16 : Bool) (b1_k16 : Ty) : Option (Ty × Bool × Int) :=
 (ZcT n b1_k16).bind fun y34 =>
 some ((y34, x5_k16, 0))
def Zgd (n : Nat) (a1 : List Part) : Nat → Bool → Int → Ty → Option (Ty × Bool × Int)
 | 0, _, _, _ => none
 | m + 1, x5_l19, x29_l19, b1_l19 =>
  if decide (x29_l19 < ((a1.length : Int))) then
   (idx a1 x29_l19).bind fun x25 =>
   (Zg9 n b1_l19 x25).bind fun y27 =>
   if !(decide (y27.2.2 = 0)) then
    some ((Ty.mk 0 0 0 0 ([]) ([]) ([]), false, y27.2.2))
   else
    if I64 (x29_l19 + 1) then
     (Zgd n a1 m) (x5_l19 || y27.2.1) (x29_l19 + 1) y27.1
    else none
  else
   Zjb n x5_l19 b1_l19
def ZmZ (n : Nat) (a0 : Ty) (a1 : List Part) : Option (Ty × Bool × Int) :=
 (Zea n a0).bind fun y4 =>
 if !(decide (y4 = 0)) then
  some ((Ty.mk 0 0 0 0 ([]) ([]) ([]), false, y4))
 else
  (ZgN n a1).bind fun y10 =>
  if !(decide (y10 = 0)) then
   some ((Ty.mk 0 0 0 0 ([]) ([]) ([]), false, y10))
  else
   Zgd n a1 n false 0 a0
theorem Zqj (w0 : World) (hP : Pow10 w0) (hT : Lib.Utf8Tabs 0 1 w0) (n : Nat) (B : List (List AV)) (Rw : List RowA) (L : List LoopA) (a0 : Ty) (a1 : List Part) (r : Ty × Bool × Int) (h : ZmZ n a0 a1 = some r) :
  ACalls Tryz.prog w0 26 [.agg (a0.cs), .list (a1.map ZfK) .none] ⟨B, Rw, L⟩ fun x st => x = .tup [.agg (r.1.cs), .val (.bool r.2.1), .val (.int .i64 r.2.2)] ∧ st = ⟨B, Rw, L⟩ := by
 rw [ZmZ] at h
 refine hd [.cell 4 26, .tmp 5, .tmp 6] Tryz.func26 Tryz.ntmps26 fun M0 W0 hN hNR hNL hcalm hu hO hs => ?_
 simp only [Zas]
 refine rg [1, 2, 4, 5] hs ?_
 apply Zab; intro K2 hK2
 obtain ⟨y4, hy4, h⟩ := bind_some h
 refine rc 2 [1, 2, 4, 5, 7] hs ?_; intro K3 hK3
 refine Zaf _ (Zdf w0 hT n _ _ _ a0 _ hy4) (hv hs) ?_
 refine ne hs hK3 ?_
 clear hK3
 refine rg [1, 2, 4, 5, 7, 17] hs ?_
 refine cnd h hs (fun hs h => ?_) (fun hs h => ?_)
 ·
  have hb6 := hs.1
  apply Zab; intro K7 hK7
  apply Zad 1 [4, 5, 6]
  rw [Zaa]; simp +decide only [go_sem, Nat.reduceAdd, hb6, ZaZ, ZaA, Zay]
  (repeat' apply And.intro) <;> first | refine hK7 _ _ ?_ | exact cl
  clear hK7
  exact rt h hs hcalm hO
 have hb6 := hs.1
 refine sk [1, 2, 4, 5] hs hK2 ?_
 clear hK2
 apply Zab; intro K8 hK8
 obtain ⟨y10, hy10, h⟩ := bind_some h
 refine rc 2 [1, 2, 4, 5, 8] hs ?_; intro K9 hK9
 refine Zaf _ (Zpq w0 hP n _ _ _ a1 _ hy10) (hv hs) ?_
 refine ne hs hK9 ?_
 clear hK9
 refine rg [1, 2, 4, 5, 8, 23] hs ?_
 refine cnd h hs (fun hs h => ?_) (fun hs h => ?_)
 ·
  have hb12 := hs.1
  apply Zab; intro K13 hK13
  apply Zad 1 [4, 5, 6]
  rw [Zaa]; simp +decide only [go_sem, Nat.reduceAdd, hb6, hb12, ZaZ, ZaA, Zay]
  (repeat' apply And.intro) <;> first | refine hK13 _ _ ?_ | exact cl
  clear hK13
  exact rt h hs hcalm hO
 have hb12 := hs.1
 refine sk [1, 2, 4, 5] hs hK8 ?_
 clear hK8
 refine rg [1, 4, 5] hs ?_
 refine Zah (fun e st => ∃ (x5_k16 : Bool) (b1_k16 : Ty) (cb1_k16 : List AV), Ck e st B Rw L [(4, true, .box (B.length + 1) 0), (5, true, .val (.bool x5_k16))] [a0.cs, cb1_k16] [] (cb1_k16.map AV.pubCell = b1_k16.cs ∧ Zjb n x5_k16 b1_k16 = some r)) ?_ ?_
 ·
  intro K17 hK17
  refine rg [4, 5, 27, 28, 29] hs ?_
  apply Zae
  refine Zai (fun m e st => ∃ (x5_l19 : Bool) (x29_l19 : Int) (b1_l19 : Ty) (cb1_l19 : List AV), Ck e st B Rw L [(4, true, .box (B.length + 1) 0), (5, true, .val (.bool x5_l19)), (27, true, .list (a1.map ZfK) .none), (28, true, .val (.int .i64 ((a1.length : Int)))), (29, true, .val (.int .i64 x29_l19))] [a0.cs, cb1_l19] [] (cb1_l19.map AV.pubCell = b1_l19.cs ∧ Zgd n a1 m x5_l19 x29_l19 b1_l19 = some r)) n ⟨false, 0, a0, _, ([]), Rw, ef hs, ef hs, hO, ef hs, h⟩ ?_
  rintro ml19 e st ⟨x5_l19, x29_l19, b1_l19, cb1_l19, Xl19, Rl19, rfl, rfl, hO, hr0, h⟩ Ul19 Vl19
  cases ml19 with
  | zero => cases h
  | succ ml19 =>
  rw [Zgd] at h
  refine ZcG (B.length + 1) (by first | rfl | (simp only [ZgB, Ze9, Zg6, ZfI]; rfl)) hr0 ?_; simp +decide only [go_sem, Nat.reduceAdd]
  show awp _ _ _ _ _ _ _ _ [(4, true, .box (B.length + 1) 0), (5, true, .val (.bool x5_l19)), (27, true, .list (a1.map ZfK) .none), (28, true, .val (.int .i64 ((a1.length : Int)))), (29, true, .val (.int .i64 x29_l19))] ⟨B ++ ([a0.cs, b1_l19.cs] ++ Xl19), Rl19, L⟩
  refine td hN hNR hNL hcalm hO ?_
  refine rg [4, 5, 27, 28, 29, 30] hs ?_
  apply Zab; intro K21 hK21
  refine cnd h hs (fun hs h => ?_) (fun hs h => ?_)
  rotate_left
  ·
   have hb22 := hs.1
   refine sx [4, 5] hs hK17 ?_
   exact ⟨x5_l19, b1_l19, _, ([]), Rl19, ef hs, ef hs, hO, ef hs, h⟩
  have hb22 := hs.1
  refine sk [4, 5, 27, 28, 29] hs hK21 ?_
  clear hK21
  apply Zab; intro K23 hK23
  apply Zae
  obtain ⟨x25, hx25, h⟩ := bind_some h
  obtain ⟨hx25a, hx25b, hx25c⟩ := Zar hx25
  have hx25d := Zau (f := ZfK) hx25c
  have hs := And.intro hx25d hs
  refine rg [4, 5, 10, 27, 28, 29] hs ?_
  obtain ⟨y27, hy27, h⟩ := bind_some h
  refine rc 2 [4, 5, 11, 12, 13, 27, 28, 29] hs ?_; intro K26 hK26
  refine Zaf _ (Zq9 w0 n _ _ _ b1_l19 x25 _ hy27) (hv hs) ?_
  refine ne hs hK26 ?_
  clear hK26
  apply Zab; intro K28 hK28
  refine rg [4, 5, 11, 12, 13, 27, 28, 29, 41] hs ?_
  refine cnd h hs (fun hs h => ?_) (fun hs h => ?_)
  ·
   have hb30 := hs.1
   apply Zab; intro K31 hK31
   apply Zad 1 [4, 5, 6]
   rw [Zaa]; simp +decide only [go_sem, Nat.reduceAdd, hb6, hb12, hb22, hx25d, hb30, ZaZ, ZaA, Zay]
   (repeat' apply And.intro) <;> first | refine hK31 _ _ ?_ | exact cl
   clear hK31
   exact rt h hs hcalm hO
  have hb30 := hs.1
  refine sk [4, 5, 11, 12, 27, 28, 29] hs hK28 ?_
  clear hK28
  refine rl [4, 5, 27, 28, 29] hs hK23 ?_
  clear hK23
  obtain ⟨hg32, h⟩ := Zac h
  refine rl [4, 5, 27, 28, 29] hs (fun e s => Vl19 ml19 e s (Nat.lt_succ_self _)) ?_
  exact ⟨(x5_l19 || y27.2.1), (x29_l19 + 1), y27.1, _, ([.val (.int .i64 x25.kind) :: (.val (.int .i64 x25.index) :: ([.val (.string x25.name)])), y27.1.cs]), Rl19, ef hs, ef hs, hO, ef hs, h⟩
 ·
  clear h; rintro e st ⟨x5_k16, b1_k16, cb1_k16, Xk16, Rk16, rfl, rfl, hO, hr0, h⟩
  rw [Zjb] at h
  refine ZcG (B.length + 1) (by first | rfl | (simp only [ZgB, Ze9, Zg6, ZfI]; rfl)) hr0 ?_; simp +decide only [go_sem, Nat.reduceAdd]
  show awp _ _ _ _ _ _ _ _ [(4, true, .box (B.length + 1) 0), (5, true, .val (.bool x5_k16))] ⟨B ++ ([a0.cs, b1_k16.cs] ++ Xk16), Rk16, L⟩
  refine td hN hNR hNL hcalm hO ?_
  obtain ⟨y34, hy34, h⟩ := bind_some h
  refine rc 2 [4, 5, 6] hs ?_; intro K33 hK33
  refine Zaf _ (Zii w0 n _ _ _ b1_k16 _ hy34) (hv hs) ?_
  refine ne hs hK33 ?_
  clear hK33
  exact rt h hs hcalm hO
def ZhN (a0 : ByteArray) : Vl :=
 Vl.mk 5 0 0 a0 ([]) ([])
theorem Zo5 (w0 : World) (B : List (List AV)) (Rw : List RowA) (L : List LoopA) (a0 : ByteArray) (r : Vl) (h : ZhN a0 = r) :
  ACalls Tryz.prog w0 107 [.val (.string a0)] ⟨B, Rw, L⟩ fun x st => x = .agg (r.cs) ∧ st = ⟨B, Rw, L⟩ := by
 rw [ZhN] at h
 refine hd [.cell 2 34] Tryz.func107 Tryz.ntmps107 fun M0 W0 hN hNR hNL hcalm hu hO hs => ?_
 simp only [Zas]
 refine rg [0, 2] hs ?_
 apply Zab; intro K2 hK2
 apply Zad 1 [2]
 rw [Zaa]; simp +decide only [go_sem, Nat.reduceAdd, ZaZ, ZaA, Zay]
 (repeat' apply And.intro) <;> first | refine hK2 _ _ ?_ | exact cl
 clear hK2
 apply Zag; simp +decide only [go_sem, Nat.reduceAdd]
 subst h
 first | refine ZaD hcalm rfl hO.pre ev ⟨?_, rfl⟩ | refine Za4 hcalm rfl hO.pre ev ⟨?_, rfl⟩
 first | rfl | (simp +decide only [go_sem, Nat.reduceAdd]; done) | (simp +decide only [go_sem, Nat.reduceAdd, Vl.cs, Ty.cs]; done)
theorem Znp (w0 : World) (B : List (List AV)) (Rw : List RowA) (L : List LoopA) (a0 : ByteArray) :
  ACalls Tryz.prog w0 107 [.val (.string a0)] ⟨B, Rw, L⟩ fun x st => x = .agg ((ZhN a0).cs) ∧ st = ⟨B, Rw, L⟩ := Zo5 w0 B Rw L a0 _ rfl
def Zlf (n : Nat) (a0 : List Vl) : Option Vl :=
 (ZbI n (Vl.mk 8 0 0 ((⟨#[]⟩ : ByteArray)) a0 ([]))).bind fun y3 =>
 some (y3)
theorem ZpG (w0 : World) (n : Nat) (B : List (List AV)) (Rw : List RowA) (L : List LoopA) (a0 : List Vl) (r : Vl) (h : Zlf n a0 = some r) :
  ACalls Tryz.prog w0 108 [.list (a0.map avV) .none] ⟨B, Rw, L⟩ fun x st => x = .agg (r.cs) ∧ st = ⟨B, Rw, L⟩ := by
 rw [Zlf] at h
 refine hd [.cell 2 34] Tryz.func108 Tryz.ntmps108 fun M0 W0 hN hNR hNL hcalm hu hO hs => ?_
 simp only [Zas]
 refine rg [0, 2] hs ?_
 apply Zab; intro K2 hK2
 obtain ⟨y3, hy3, h⟩ := bind_some h
 apply Zad 2 [2]
 rw [Zaa]; simp +decide only [go_sem, Nat.reduceAdd, ZaZ, ZaA, Zay]
 (repeat' apply And.intro) <;> first | refine Zaf _ (Zdc w0 n _ _ _ (Vl.mk 8 0 0 ((⟨#[]⟩ : ByteArray)) a0 ([])) _ hy3) (by first | rfl | (simp +decide only [go_sem, Nat.reduceAdd, ZaZ, ZaA, Zay]; done) | (simp +decide only [go_sem, Nat.reduceAdd, Vl.cs, Ty.cs, ZaZ, ZaA, Zay]; done)) ?_ | exact cl
 rw [Zaa]; simp +decide only [go_sem, Nat.reduceAdd, ZaZ, ZaA, Zay]
 (repeat' apply And.intro) <;> first | refine hK2 _ _ ?_ | exact cl
 clear hK2
 exact rt h hs hcalm hO
def Zb4 (n : Nat) (a0 : List (ByteArray × Vl)) (a1 : (ByteArray × Vl) → Option Bool) : Option Bool :=
 (Zbm n a0 a1).bind fun y3 =>
 some (decide (0 ≤ y3))
theorem ZfE (w0 : World) (n : Nat) (B : List (List AV)) (Rw : List RowA) (L : List LoopA) (a0 : List (ByteArray × Vl)) (fa1 : FuncId) (ca1 : List AV) (a1 : (ByteArray × Vl) → Option Bool) (ha1 : ∀ (x0 : ByteArray × Vl) r, a1 x0 = some r → ∀ B' rows, B <+: B' → Rw <+: rows → ACalls Tryz.prog w0 fa1 ([.agg (.val (.string x0.1) :: (x0.2.cs))] ++ ca1) ⟨B', rows, L⟩ fun v s => v = .val (.bool r) ∧ s = ⟨B', rows, L⟩) (r : Bool) (h : Zb4 n a0 a1 = some r) :
  ACalls Tryz.prog w0 166 [.list (a0.map avF) .none, .clo fa1 ca1] ⟨B, Rw, L⟩ fun x st => x = .val (.bool r) ∧ st = ⟨B, Rw, L⟩ := by
 rw [Zb4] at h
 refine hd [.tmp 4] Tryz.func166 Tryz.ntmps166 fun M0 W0 hN hNR hNL hcalm hu hO hs => ?_
 simp only [Zas]
 have hU_a1 := ZdD (hu (.clo fa1 ca1) (by simp))
 refine rg [0, 1] hs ?_
 obtain ⟨y3, hy3, h⟩ := bind_some h
 refine rc 2 [4] hs ?_; intro K2 hK2
 refine Zaf _ (Zed w0 n _ _ _ a0 fa1 ca1 a1 (fun x0 r hx B'' rows'' q1 q2 => ha1 x0 r hx B'' rows'' (List.IsPrefix.trans (by first | exact List.prefix_append _ _ | exact List.prefix_refl _) q1) (hO.pre.trans q2)) _ hy3) (hv hs) ?_
 refine ne hs hK2 ?_
 clear hK2
 exact rt h hs hcalm hO
def Zd2 (a0 : ByteArray × Vl) (a1 : ByteArray × Vl) : Bool :=
 (sEq a0.1 a1.1) && (!(Zbt a0.2))
theorem Zk2 (w0 : World) (B : List (List AV)) (Rw : List RowA) (L : List LoopA) (a0 : ByteArray × Vl) (la1 : Nat) (a1 : ByteArray × Vl) (hla1 : B[la1]? = some (.val (.string a1.1) :: (a1.2.cs))) (r : Bool) (h : Zd2 a0 a1 = r) :
  ACalls Tryz.prog w0 167 [.agg (.val (.string a0.1) :: (a0.2.cs)), .box la1 0] ⟨B, Rw, L⟩ fun x st => x = .val (.bool r) ∧ st = ⟨B, Rw, L⟩ := by
 rw [Zd2] at h
 refine hd [.tmp 3] Tryz.func167 Tryz.ntmps167 fun M0 W0 hN hNR hNL hcalm hu hO hs => ?_
 simp only [Zas]
 have hltla1 := (List.getElem?_eq_some_iff.1 hla1).1
 have hs := And.intro (Zaj hla1) hs
 refine rg [1, 2] hs ?_
 refine rc 2 [3] hs ?_; intro K2 hK2
 refine ZdK _ (fun _ => ZgS w0 _ _ _ a0.2) (hv hs) ?_
 refine ne hs hK2 ?_
 clear hK2
 apply Zag; simp +decide only [go_sem, Nat.reduceAdd, Zaj hla1]
 subst h
 first | refine ZaD hcalm rfl hO.pre ev ⟨?_, rfl⟩ | refine Za4 hcalm rfl hO.pre ev ⟨?_, rfl⟩
 first | rfl | (simp +decide only [go_sem, Nat.reduceAdd, Zaj hla1]; done) | (simp +decide only [go_sem, Nat.reduceAdd, Vl.cs, Ty.cs, Zaj hla1]; done)
theorem Zki (w0 : World) (B : List (List AV)) (Rw : List RowA) (L : List LoopA) (a0 : ByteArray × Vl) (la1 : Nat) (a1 : ByteArray × Vl) (hla1 : B[la1]? = some (.val (.string a1.1) :: (a1.2.cs))) :
  ACalls Tryz.prog w0 167 [.agg (.val (.string a0.1) :: (a0.2.cs)), .box la1 0] ⟨B, Rw, L⟩ fun x st => x = .val (.bool (Zd2 a0 a1)) ∧ st = ⟨B, Rw, L⟩ := Zk2 w0 B Rw L a0 la1 a1 hla1 _ rfl
end Go.Proofs.YtggimoedcamonaaGreatDoor
