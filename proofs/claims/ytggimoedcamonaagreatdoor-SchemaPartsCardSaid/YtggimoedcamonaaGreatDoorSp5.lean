/-
  Part 5 of the proof: rules and walks that the claim's last text uses.
-/
import Derived.Test.YtggimoedcamonaaGreatDoorSp4
set_option linter.unusedSimpArgs false
set_option linter.unusedVariables false
set_option maxRecDepth 100000
set_option maxHeartbeats 4000000
namespace Go.Proofs.YtggimoedcamonaaGreatDoor
open Go Go.RowKit Go.Ev
def ZaS (n : Nat)  : List (Nat × Vl) → Int → Option Int
 | [], b3_r7 =>
  some (0)
 | p_r7 :: rest, b3_r7 =>
  if I64 (b3_r7 + 1) then
   if decide (4096 < (b3_r7 + 1)) then
    some (9)
   else
    if decide (8 < ((p_r7.1 : Int))) then
     some (23)
    else
     if Zde p_r7.2 then
      some (19)
     else
      if (decide (p_r7.2.kind < 1)) || (decide (10 < p_r7.2.kind)) then
       some (11)
      else
       if !(Zg7 p_r7.2) then
        some (3)
       else
        if decide (p_r7.2.kind = 0) then
         none
        else
         if decide (p_r7.2.kind = 1) then
          if !(decide ((ZcL p_r7.2) = 0)) then
           some (ZcL p_r7.2)
          else
           (ZaS n rest) (b3_r7 + 1)
         else
          if decide (p_r7.2.kind = 2) then
           if !(decide ((ZcM p_r7.2) = 0)) then
            some (ZcM p_r7.2)
           else
            (ZaS n rest) (b3_r7 + 1)
          else
           if decide (p_r7.2.kind = 3) then
            (Zfu n p_r7.2).bind fun y42 =>
            if !(decide (y42 = 0)) then
             some (y42)
            else
             (ZaS n rest) (b3_r7 + 1)
           else
            if decide (p_r7.2.kind = 4) then
             (Zfy p_r7.2).bind fun y48 =>
             if !(decide (y48 = 0)) then
              some (y48)
             else
              (ZaS n rest) (b3_r7 + 1)
            else
             if decide (p_r7.2.kind = 5) then
              if !(decide ((ZcP p_r7.2) = 0)) then
               some (ZcP p_r7.2)
              else
               (ZaS n rest) (b3_r7 + 1)
             else
              if decide (p_r7.2.kind = 6) then
               if !(decide ((Zcz p_r7.2) = 0)) then
                some (Zcz p_r7.2)
               else
                (ZaS n rest) (b3_r7 + 1)
              else
               if decide (p_r7.2.kind = 7) then
                if !(decide ((ZcI p_r7.2) = 0)) then
                 some (ZcI p_r7.2)
                else
                 (ZaS n rest) (b3_r7 + 1)
               else
                if decide (p_r7.2.kind = 8) then
                 if !(decide ((ZcJ p_r7.2) = 0)) then
                  some (ZcJ p_r7.2)
                 else
                  (ZaS n rest) (b3_r7 + 1)
                else
                 if decide (p_r7.2.kind = 9) then
                  (Zfp n p_r7.2).bind fun y74 =>
                  if !(decide (y74 = 0)) then
                   some (y74)
                  else
                   (ZaS n rest) (b3_r7 + 1)
                 else
                  if decide (p_r7.2.kind = 10) then
                   (ZeU p_r7.2).bind fun y80 =>
                   if !(decide (y80 = 0)) then
                    some (y80)
                   else
                    (ZaS n rest) (b3_r7 + 1)
                  else
                   none
  else none
def Zf1 (n : Nat) (a0 : Vl) : Option Int :=
 if a0.size < 1048576 then
  ZaS n (Zgq 1 a0) 0
 else none
theorem Zgk (w0 : World) (hT : Lib.Utf8Tabs 0 1 w0) (n : Nat) (B : List (List AV)) (Rw : List RowA) (L : List LoopA) (a0 : Vl) (r : Int) (h : Zf1 n a0 = some r) :
  ACalls Tryz.prog w0 48 [.agg (a0.cs)] ⟨B, Rw, L⟩ fun x st => x = .val (.int .i64 r) ∧ st = ⟨B, Rw, L⟩ := by
 rw [Zf1] at h
 refine hd [.cell 2 29] Tryz.func48 Tryz.ntmps48 fun M0 W0 hN hNR hNL hcalm hu hO hs => ?_
 simp only [Zan]
 refine rg [1, 2] hs ?_
 apply Zab; intro K2 hK2
 apply Zac 2 [1, 2, 3]
 rw [Zaa]; simp +decide only [go_sem, Nat.reduceAdd, ZkD]
 (repeat' apply And.intro) <;> first | refine Zaf _ (ZpM w0 _ _ _ ) (by first | rfl | (simp +decide only [go_sem, Nat.reduceAdd, ZkD]; done) | (simp +decide only [go_sem, Nat.reduceAdd, Vl.cs, Ty.cs, ZkD]; done)) ?_ | exact cl
 rw [Zaa]; simp +decide only [go_sem, Nat.reduceAdd, ZkD]
 (repeat' apply And.intro) <;> first | refine hK2 _ _ ?_ | exact cl
 clear hK2
 refine rg [1, 2, 3, 4] hs ?_
 apply Zab; intro K4 hK4
 refine rc 2 [2, 3, 4, 10] hs ?_; intro K5 hK5
 refine ZbN _ (Zid w0 _ _ _ a0) (hv hs) ?_; rintro _ _ ⟨rfl, rfl⟩
 refine ne hs hK5 ?_
 clear hK5
 apply Zae
 obtain ⟨hg6, h⟩ := Zad h
 refine ZfF (Zeu a0) (fun st => st.boxes[(B.length + 4)]? = some a0.cs) (fun i st => ∃ (b3_r7 : Int) (Rr7 : List RowA), st = ⟨B ++ ([a0.cs, [.val (.int .i64 0)], [.val .nilFunc, .clo 122 [], .clo 124 [], .clo 125 [], .clo 127 [], .clo 130 [], .clo 131 [], .clo 132 [], .clo 133 [], .clo 134 [], .clo 135 []], [.val (.int .i64 b3_r7)], a0.cs]), Rr7, L⟩ ∧ Owns Rw Rr7 [] ∧ ZaS n ((Zgq 1 a0).drop i) b3_r7 = some r) (fun ex st => ex = .ret ∧ ∃ (z0 : List AV) (z2 : List AV) (z3 : List AV) (z4 : List AV) (rows : List RowA), st = ⟨B ++ [z0, [.val (.int .i64 r)], z2, z3, z4], rows, L⟩ ∧ Owns Rw rows []) ev ev (ZfI w0 a0 hg6 _) (fun x hx => ZiO a0 x hx) (by decide) ?_ ⟨0, Rw, ef hs, hO, h⟩ (fun _ _ h => .inl h.1) ?_ ?_ ?_
 ·
  rintro i st la ⟨b3_r7, Rr7, rfl, hO, h⟩ _ _; simp +decide [St.push]
 ·
  rintro i s1 ⟨XB, XR, XL⟩ x M1 W1 l la la' hX hI hlike hloops hx hra K hK
  obtain ⟨p_r7, hpi, rfl, hi⟩ := Zir a0 i x hx
  (try simp only at hX)
  subst hX
  obtain ⟨b3_r7, Rr7, rfl, hO, h⟩ := hI
  rw [Zg4 hpi, ZaS] at h
  have hra0_r7 := hO
  simp only [St.ext, St.push, List.append_assoc, List.append_nil]
  refine rg [2, 3, 4, 5, 12] hs ?_
  apply Zac 1 [2, 3, 4, 5, 6]
  rw [Zaa]; simp +decide only [go_sem, Nat.reduceAdd]
  (repeat' apply And.intro) <;> first | refine hK _ _ (by simp [St.ext, St.push]) (fun KQ hKQ => ?_) | exact cl
  clear hK
  dsimp only [St.ext, St.push]
  apply Zae
  obtain ⟨hg10, h⟩ := Zad h
  refine rg [2, 3, 4, 5, 6] hs ?_
  apply Zab; intro K11 hK11
  apply Zae
  refine rg [2, 3, 5, 6, 15] hs ?_
  refine cnd h hs (fun hs h => ?_) (fun hs h => ?_)
  ·
   have hb13 := hs.1
   refine rg [2] hs ?_
   apply Zah; simp +decide only [go_sem, Nat.reduceAdd, hb13]
   have hgt := Option.some.inj h; subst hgt
   refine hKQ _ _ _ ⟨⟨B ++ [a0.cs, [.val (.int .i64 9)], [.val .nilFunc, .clo 122 [], .clo 124 [], .clo 125 [], .clo 127 [], .clo 130 [], .clo 131 [], .clo 132 [], .clo 133 [], .clo 134 [], .clo 135 []], [.val (.int .i64 (b3_r7 + 1))], a0.cs], Rr7, L⟩, [p_r7.2.cs], by first | rfl | (simp only [List.append_assoc, List.append_nil, List.cons_append, List.nil_append]; done), ⟨by simp, by first | exact Nat.le_refl _ | (have := hO.len; simp; omega), rfl⟩, rfl, ⟨rfl, _, _, _, _, Rr7, ef hs, hO.sub (List.nil_sublist _)⟩, ?_⟩
   exact .inr (Zaq hra hra0_r7 hO rfl (by have := hO.len; have := hra0_r7.len; first | exact Nat.le_refl _ | omega) (by simp only [List.append_assoc, List.cons_append, List.nil_append]) (by (simp +decide only [go_sem, Nat.reduceAdd]) <;> (try (repeat' apply And.intro)) <;> first | omega | assumption))
  have hb13 := hs.1
  refine rg [2, 3, 6, 18] hs ?_
  refine cnd h hs (fun hs h => ?_) (fun hs h => ?_)
  ·
   have hb16 := hs.1
   refine rg [2] hs ?_
   apply Zah; simp +decide only [go_sem, Nat.reduceAdd, hb13, hb16]
   have hgt := Option.some.inj h; subst hgt
   refine hKQ _ _ _ ⟨⟨B ++ [a0.cs, [.val (.int .i64 23)], [.val .nilFunc, .clo 122 [], .clo 124 [], .clo 125 [], .clo 127 [], .clo 130 [], .clo 131 [], .clo 132 [], .clo 133 [], .clo 134 [], .clo 135 []], [.val (.int .i64 (b3_r7 + 1))], a0.cs], Rr7, L⟩, [p_r7.2.cs], by first | rfl | (simp only [List.append_assoc, List.append_nil, List.cons_append, List.nil_append]; done), ⟨by simp, by first | exact Nat.le_refl _ | (have := hO.len; simp; omega), rfl⟩, rfl, ⟨rfl, _, _, _, _, Rr7, ef hs, hO.sub (List.nil_sublist _)⟩, ?_⟩
   exact .inr (Zaq hra hra0_r7 hO rfl (by have := hO.len; have := hra0_r7.len; first | exact Nat.le_refl _ | omega) (by simp only [List.append_assoc, List.cons_append, List.nil_append]) (by (simp +decide only [go_sem, Nat.reduceAdd]) <;> (try (repeat' apply And.intro)) <;> first | omega | assumption))
  have hb16 := hs.1
  refine rc 2 [2, 3, 6, 21] hs ?_; intro K18 hK18
  refine Zaf _ (ZeH w0 _ _ _ p_r7.2) (hv hs) ?_
  refine ne hs hK18 ?_
  clear hK18
  refine cnd h hs (fun hs h => ?_) (fun hs h => ?_)
  ·
   have hb19 := hs.1
   refine rg [2] hs ?_
   apply Zah; simp +decide only [go_sem, Nat.reduceAdd, hb13, hb16, hb19]
   have hgt := Option.some.inj h; subst hgt
   refine hKQ _ _ _ ⟨⟨B ++ [a0.cs, [.val (.int .i64 19)], [.val .nilFunc, .clo 122 [], .clo 124 [], .clo 125 [], .clo 127 [], .clo 130 [], .clo 131 [], .clo 132 [], .clo 133 [], .clo 134 [], .clo 135 []], [.val (.int .i64 (b3_r7 + 1))], a0.cs], Rr7, L⟩, [p_r7.2.cs], by first | rfl | (simp only [List.append_assoc, List.append_nil, List.cons_append, List.nil_append]; done), ⟨by simp, by first | exact Nat.le_refl _ | (have := hO.len; simp; omega), rfl⟩, rfl, ⟨rfl, _, _, _, _, Rr7, ef hs, hO.sub (List.nil_sublist _)⟩, ?_⟩
   exact .inr (Zaq hra hra0_r7 hO rfl (by have := hO.len; have := hra0_r7.len; first | exact Nat.le_refl _ | omega) (by simp only [List.append_assoc, List.cons_append, List.nil_append]) (by (simp +decide only [go_sem, Nat.reduceAdd]) <;> (try (repeat' apply And.intro)) <;> first | omega | assumption))
  have hb19 := hs.1
  refine rg [2, 3, 6, 24] hs ?_
  refine cnd h hs (fun hs h => ?_) (fun hs h => ?_)
  ·
   have hb22 := hs.1
   refine rg [2] hs ?_
   apply Zah; simp +decide only [go_sem, Nat.reduceAdd, hb13, hb16, hb19, hb22]
   have hgt := Option.some.inj h; subst hgt
   refine hKQ _ _ _ ⟨⟨B ++ [a0.cs, [.val (.int .i64 11)], [.val .nilFunc, .clo 122 [], .clo 124 [], .clo 125 [], .clo 127 [], .clo 130 [], .clo 131 [], .clo 132 [], .clo 133 [], .clo 134 [], .clo 135 []], [.val (.int .i64 (b3_r7 + 1))], a0.cs], Rr7, L⟩, [p_r7.2.cs], by first | rfl | (simp only [List.append_assoc, List.append_nil, List.cons_append, List.nil_append]; done), ⟨by simp, by first | exact Nat.le_refl _ | (have := hO.len; simp; omega), rfl⟩, rfl, ⟨rfl, _, _, _, _, Rr7, ef hs, hO.sub (List.nil_sublist _)⟩, ?_⟩
   exact .inr (Zaq hra hra0_r7 hO rfl (by have := hO.len; have := hra0_r7.len; first | exact Nat.le_refl _ | omega) (by simp only [List.append_assoc, List.cons_append, List.nil_append]) (by (simp +decide only [go_sem, Nat.reduceAdd]) <;> (try (repeat' apply And.intro)) <;> first | omega | assumption))
  have hb22 := hs.1
  refine rc 2 [2, 3, 6, 33] hs ?_; intro K24 hK24
  refine Zaf _ (Zmn w0 _ _ _ p_r7.2) (hv hs) ?_
  refine ne hs hK24 ?_
  clear hK24
  refine cnd h hs (fun hs h => ?_) (fun hs h => ?_)
  ·
   have hb25 := hs.1
   refine rg [2] hs ?_
   apply Zah; simp +decide only [go_sem, Nat.reduceAdd, hb13, hb16, hb19, hb22, hb25]
   have hgt := Option.some.inj h; subst hgt
   refine hKQ _ _ _ ⟨⟨B ++ [a0.cs, [.val (.int .i64 3)], [.val .nilFunc, .clo 122 [], .clo 124 [], .clo 125 [], .clo 127 [], .clo 130 [], .clo 131 [], .clo 132 [], .clo 133 [], .clo 134 [], .clo 135 []], [.val (.int .i64 (b3_r7 + 1))], a0.cs], Rr7, L⟩, [p_r7.2.cs], by first | rfl | (simp only [List.append_assoc, List.append_nil, List.cons_append, List.nil_append]; done), ⟨by simp, by first | exact Nat.le_refl _ | (have := hO.len; simp; omega), rfl⟩, rfl, ⟨rfl, _, _, _, _, Rr7, ef hs, hO.sub (List.nil_sublist _)⟩, ?_⟩
   exact .inr (Zaq hra hra0_r7 hO rfl (by have := hO.len; have := hra0_r7.len; first | exact Nat.le_refl _ | omega) (by simp only [List.append_assoc, List.cons_append, List.nil_append]) (by (simp +decide only [go_sem, Nat.reduceAdd]) <;> (try (repeat' apply And.intro)) <;> first | omega | assumption))
  have hb25 := hs.1
  refine sk [2, 3, 6] hs hK11 ?_
  clear hK11
  apply Zab; intro K27 hK27
  rcases Bool.eq_false_or_eq_true (decide (p_r7.2.kind = 0)) with hf28 | hf28
  ·
   replace h := ZaQ h hf28
   have hk29 : p_r7.2.kind = 0 := of_decide_eq_true hf28
   cases h
  ·
   replace h := ZaO h hf28
   rcases Bool.eq_false_or_eq_true (decide (p_r7.2.kind = 1)) with hf30 | hf30
   ·
    replace h := ZaQ h hf30
    have hk31 : p_r7.2.kind = 1 := of_decide_eq_true hf30
    apply Zap mix 7 2 1 [2, 7] (by kernel_rfl)
    rw [Zaa]; simp +decide only [go_sem, Nat.reduceAdd, hb13, hb16, hb19, hb22, hb25, hf28, hf30, hk31]
    have hs := And.intro hf28 hs
    have hs := And.intro hf30 hs
    have hs := And.intro hk31 hs
    (repeat' apply And.intro) <;> first | refine Zaf _ (Zi4 w0 _ _ _ p_r7.2) (hv hs) ?_ | exact cl
    rw [Zaa]; simp +decide only [go_sem, Nat.reduceAdd, hb13, hb16, hb19, hb22, hb25, hf28, hf30, hk31]
    (repeat' with_reducible apply And.intro) <;> first | (rw [Zaa]; simp +decide only [go_sem, Nat.reduceAdd, hb13, hb16, hb19, hb22, hb25, hf28, hf30, hk31]) | exact cl
    (repeat' apply And.intro) <;> first | refine hK27 _ _ ?_ | exact cl
    clear hK27
    refine rg [2, 7, 44] hs ?_
    refine cnd h hs (fun hs h => ?_) (fun hs h => ?_)
    ·
     have hb33 := hs.1
     refine rg [2] hs ?_
     apply Zah; simp +decide only [go_sem, Nat.reduceAdd, hb13, hb16, hb19, hb22, hb25, hf28, hf30, hk31, hb33]
     have hgt := Option.some.inj h; subst hgt
     refine hKQ _ _ _ ⟨⟨B ++ [a0.cs, [.val (.int .i64 (ZcL p_r7.2))], [.val .nilFunc, .clo 122 [], .clo 124 [], .clo 125 [], .clo 127 [], .clo 130 [], .clo 131 [], .clo 132 [], .clo 133 [], .clo 134 [], .clo 135 []], [.val (.int .i64 (b3_r7 + 1))], a0.cs], Rr7, L⟩, [p_r7.2.cs], by first | rfl | (simp only [List.append_assoc, List.append_nil, List.cons_append, List.nil_append]; done), ⟨by simp, by first | exact Nat.le_refl _ | (have := hO.len; simp; omega), rfl⟩, rfl, ⟨rfl, _, _, _, _, Rr7, ef hs, hO.sub (List.nil_sublist _)⟩, ?_⟩
     exact .inr (Zaq hra hra0_r7 hO rfl (by have := hO.len; have := hra0_r7.len; first | exact Nat.le_refl _ | omega) (by simp only [List.append_assoc, List.cons_append, List.nil_append]) (by (simp +decide only [go_sem, Nat.reduceAdd]) <;> (try (repeat' apply And.intro)) <;> first | omega | assumption))
    have hb33 := hs.1
    refine Zcx (Zck [] _) ?_ (ZaK _ _)
    apply ZaA; simp +decide only [go_sem, Nat.reduceAdd]
    (repeat' apply And.intro) <;> first | refine hKQ _ _ _ ⟨⟨B ++ [a0.cs, [.val (.int .i64 0)], [.val .nilFunc, .clo 122 [], .clo 124 [], .clo 125 [], .clo 127 [], .clo 130 [], .clo 131 [], .clo 132 [], .clo 133 [], .clo 134 [], .clo 135 []], [.val (.int .i64 (b3_r7 + 1))], a0.cs], Rr7, L⟩, [p_r7.2.cs], by first | rfl | (simp only [List.append_assoc, List.append_nil, List.cons_append, List.nil_append]; done), ⟨by simp, by first | exact Nat.le_refl _ | (have := hO.len; simp; omega), rfl⟩, rfl, ⟨(b3_r7 + 1), Rr7, ef hs, hO, h⟩, ?_⟩ | exact cl
    exact .inr (Zaq hra hra0_r7 hO rfl (by have := hO.len; have := hra0_r7.len; first | exact Nat.le_refl _ | omega) (by simp only [List.append_assoc, List.cons_append, List.nil_append]) (by (simp +decide only [go_sem, Nat.reduceAdd]) <;> (try (repeat' apply And.intro)) <;> first | omega | assumption))
   ·
    replace h := ZaO h hf30
    rcases Bool.eq_false_or_eq_true (decide (p_r7.2.kind = 2)) with hf35 | hf35
    ·
     replace h := ZaQ h hf35
     have hk36 : p_r7.2.kind = 2 := of_decide_eq_true hf35
     apply Zap mix 7 2 1 [2, 7] (by kernel_rfl)
     rw [Zaa]; simp +decide only [go_sem, Nat.reduceAdd, hb13, hb16, hb19, hb22, hb25, hf28, hf30, hf35, hk36]
     have hs := And.intro hf28 hs
     have hs := And.intro hf30 hs
     have hs := And.intro hf35 hs
     have hs := And.intro hk36 hs
     (repeat' apply And.intro) <;> first | refine Zaf _ (Zi9 w0 _ _ _ p_r7.2) (hv hs) ?_ | exact cl
     rw [Zaa]; simp +decide only [go_sem, Nat.reduceAdd, hb13, hb16, hb19, hb22, hb25, hf28, hf30, hf35, hk36]
     (repeat' with_reducible apply And.intro) <;> first | (rw [Zaa]; simp +decide only [go_sem, Nat.reduceAdd, hb13, hb16, hb19, hb22, hb25, hf28, hf30, hf35, hk36]) | exact cl
     (repeat' apply And.intro) <;> first | refine hK27 _ _ ?_ | exact cl
     clear hK27
     refine rg [2, 7, 44] hs ?_
     refine cnd h hs (fun hs h => ?_) (fun hs h => ?_)
     ·
      have hb38 := hs.1
      refine rg [2] hs ?_
      apply Zah; simp +decide only [go_sem, Nat.reduceAdd, hb13, hb16, hb19, hb22, hb25, hf28, hf30, hf35, hk36, hb38]
      have hgt := Option.some.inj h; subst hgt
      refine hKQ _ _ _ ⟨⟨B ++ [a0.cs, [.val (.int .i64 (ZcM p_r7.2))], [.val .nilFunc, .clo 122 [], .clo 124 [], .clo 125 [], .clo 127 [], .clo 130 [], .clo 131 [], .clo 132 [], .clo 133 [], .clo 134 [], .clo 135 []], [.val (.int .i64 (b3_r7 + 1))], a0.cs], Rr7, L⟩, [p_r7.2.cs], by first | rfl | (simp only [List.append_assoc, List.append_nil, List.cons_append, List.nil_append]; done), ⟨by simp, by first | exact Nat.le_refl _ | (have := hO.len; simp; omega), rfl⟩, rfl, ⟨rfl, _, _, _, _, Rr7, ef hs, hO.sub (List.nil_sublist _)⟩, ?_⟩
      exact .inr (Zaq hra hra0_r7 hO rfl (by have := hO.len; have := hra0_r7.len; first | exact Nat.le_refl _ | omega) (by simp only [List.append_assoc, List.cons_append, List.nil_append]) (by (simp +decide only [go_sem, Nat.reduceAdd]) <;> (try (repeat' apply And.intro)) <;> first | omega | assumption))
     have hb38 := hs.1
     refine Zcx (Zck [] _) ?_ (ZaK _ _)
     apply ZaA; simp +decide only [go_sem, Nat.reduceAdd]
     (repeat' apply And.intro) <;> first | refine hKQ _ _ _ ⟨⟨B ++ [a0.cs, [.val (.int .i64 0)], [.val .nilFunc, .clo 122 [], .clo 124 [], .clo 125 [], .clo 127 [], .clo 130 [], .clo 131 [], .clo 132 [], .clo 133 [], .clo 134 [], .clo 135 []], [.val (.int .i64 (b3_r7 + 1))], a0.cs], Rr7, L⟩, [p_r7.2.cs], by first | rfl | (simp only [List.append_assoc, List.append_nil, List.cons_append, List.nil_append]; done), ⟨by simp, by first | exact Nat.le_refl _ | (have := hO.len; simp; omega), rfl⟩, rfl, ⟨(b3_r7 + 1), Rr7, ef hs, hO, h⟩, ?_⟩ | exact cl
     exact .inr (Zaq hra hra0_r7 hO rfl (by have := hO.len; have := hra0_r7.len; first | exact Nat.le_refl _ | omega) (by simp only [List.append_assoc, List.cons_append, List.nil_append]) (by (simp +decide only [go_sem, Nat.reduceAdd]) <;> (try (repeat' apply And.intro)) <;> first | omega | assumption))
    ·
     replace h := ZaO h hf35
     rcases Bool.eq_false_or_eq_true (decide (p_r7.2.kind = 3)) with hf40 | hf40
     ·
      replace h := ZaQ h hf40
      have hk41 : p_r7.2.kind = 3 := of_decide_eq_true hf40
      obtain ⟨y42, hy42, h⟩ := bind_some h
      apply Zap mix 7 2 1 [2, 7] (by kernel_rfl)
      rw [Zaa]; simp +decide only [go_sem, Nat.reduceAdd, hb13, hb16, hb19, hb22, hb25, hf28, hf30, hf35, hf40, hk41]
      have hs := And.intro hf28 hs
      have hs := And.intro hf30 hs
      have hs := And.intro hf35 hs
      have hs := And.intro hf40 hs
      have hs := And.intro hk41 hs
      (repeat' apply And.intro) <;> first | refine Zaf _ (Zkv w0 n _ _ _ p_r7.2 _ hy42) (hv hs) ?_ | exact cl
      rw [Zaa]; simp +decide only [go_sem, Nat.reduceAdd, hb13, hb16, hb19, hb22, hb25, hf28, hf30, hf35, hf40, hk41]
      (repeat' with_reducible apply And.intro) <;> first | (rw [Zaa]; simp +decide only [go_sem, Nat.reduceAdd, hb13, hb16, hb19, hb22, hb25, hf28, hf30, hf35, hf40, hk41]) | exact cl
      (repeat' apply And.intro) <;> first | refine hK27 _ _ ?_ | exact cl
      clear hK27
      refine rg [2, 7, 44] hs ?_
      refine cnd h hs (fun hs h => ?_) (fun hs h => ?_)
      ·
       have hb44 := hs.1
       refine rg [2] hs ?_
       apply Zah; simp +decide only [go_sem, Nat.reduceAdd, hb13, hb16, hb19, hb22, hb25, hf28, hf30, hf35, hf40, hk41, hb44]
       have hgt := Option.some.inj h; subst hgt
       refine hKQ _ _ _ ⟨⟨B ++ [a0.cs, [.val (.int .i64 y42)], [.val .nilFunc, .clo 122 [], .clo 124 [], .clo 125 [], .clo 127 [], .clo 130 [], .clo 131 [], .clo 132 [], .clo 133 [], .clo 134 [], .clo 135 []], [.val (.int .i64 (b3_r7 + 1))], a0.cs], Rr7, L⟩, [p_r7.2.cs], by first | rfl | (simp only [List.append_assoc, List.append_nil, List.cons_append, List.nil_append]; done), ⟨by simp, by first | exact Nat.le_refl _ | (have := hO.len; simp; omega), rfl⟩, rfl, ⟨rfl, _, _, _, _, Rr7, ef hs, hO.sub (List.nil_sublist _)⟩, ?_⟩
       exact .inr (Zaq hra hra0_r7 hO rfl (by have := hO.len; have := hra0_r7.len; first | exact Nat.le_refl _ | omega) (by simp only [List.append_assoc, List.cons_append, List.nil_append]) (by (simp +decide only [go_sem, Nat.reduceAdd]) <;> (try (repeat' apply And.intro)) <;> first | omega | assumption))
      have hb44 := hs.1
      refine Zcx (Zck [] _) ?_ (ZaK _ _)
      apply ZaA; simp +decide only [go_sem, Nat.reduceAdd]
      (repeat' apply And.intro) <;> first | refine hKQ _ _ _ ⟨⟨B ++ [a0.cs, [.val (.int .i64 0)], [.val .nilFunc, .clo 122 [], .clo 124 [], .clo 125 [], .clo 127 [], .clo 130 [], .clo 131 [], .clo 132 [], .clo 133 [], .clo 134 [], .clo 135 []], [.val (.int .i64 (b3_r7 + 1))], a0.cs], Rr7, L⟩, [p_r7.2.cs], by first | rfl | (simp only [List.append_assoc, List.append_nil, List.cons_append, List.nil_append]; done), ⟨by simp, by first | exact Nat.le_refl _ | (have := hO.len; simp; omega), rfl⟩, rfl, ⟨(b3_r7 + 1), Rr7, ef hs, hO, h⟩, ?_⟩ | exact cl
      exact .inr (Zaq hra hra0_r7 hO rfl (by have := hO.len; have := hra0_r7.len; first | exact Nat.le_refl _ | omega) (by simp only [List.append_assoc, List.cons_append, List.nil_append]) (by (simp +decide only [go_sem, Nat.reduceAdd]) <;> (try (repeat' apply And.intro)) <;> first | omega | assumption))
     ·
      replace h := ZaO h hf40
      rcases Bool.eq_false_or_eq_true (decide (p_r7.2.kind = 4)) with hf46 | hf46
      ·
       replace h := ZaQ h hf46
       have hk47 : p_r7.2.kind = 4 := of_decide_eq_true hf46
       obtain ⟨y48, hy48, h⟩ := bind_some h
       apply Zap mix 7 2 1 [2, 7] (by kernel_rfl)
       rw [Zaa]; simp +decide only [go_sem, Nat.reduceAdd, hb13, hb16, hb19, hb22, hb25, hf28, hf30, hf35, hf40, hf46, hk47]
       have hs := And.intro hf28 hs
       have hs := And.intro hf30 hs
       have hs := And.intro hf35 hs
       have hs := And.intro hf40 hs
       have hs := And.intro hf46 hs
       have hs := And.intro hk47 hs
       (repeat' apply And.intro) <;> first | refine Zaf _ (Zj9 w0 hT _ _ _ p_r7.2 _ hy48) (hv hs) ?_ | exact cl
       rw [Zaa]; simp +decide only [go_sem, Nat.reduceAdd, hb13, hb16, hb19, hb22, hb25, hf28, hf30, hf35, hf40, hf46, hk47]
       (repeat' with_reducible apply And.intro) <;> first | (rw [Zaa]; simp +decide only [go_sem, Nat.reduceAdd, hb13, hb16, hb19, hb22, hb25, hf28, hf30, hf35, hf40, hf46, hk47]) | exact cl
       (repeat' apply And.intro) <;> first | refine hK27 _ _ ?_ | exact cl
       clear hK27
       refine rg [2, 7, 44] hs ?_
       refine cnd h hs (fun hs h => ?_) (fun hs h => ?_)
       ·
        have hb50 := hs.1
        refine rg [2] hs ?_
        apply Zah; simp +decide only [go_sem, Nat.reduceAdd, hb13, hb16, hb19, hb22, hb25, hf28, hf30, hf35, hf40, hf46, hk47, hb50]
        have hgt := Option.some.inj h; subst hgt
        refine hKQ _ _ _ ⟨⟨B ++ [a0.cs, [.val (.int .i64 y48)], [.val .nilFunc, .clo 122 [], .clo 124 [], .clo 125 [], .clo 127 [], .clo 130 [], .clo 131 [], .clo 132 [], .clo 133 [], .clo 134 [], .clo 135 []], [.val (.int .i64 (b3_r7 + 1))], a0.cs], Rr7, L⟩, [p_r7.2.cs], by first | rfl | (simp only [List.append_assoc, List.append_nil, List.cons_append, List.nil_append]; done), ⟨by simp, by first | exact Nat.le_refl _ | (have := hO.len; simp; omega), rfl⟩, rfl, ⟨rfl, _, _, _, _, Rr7, ef hs, hO.sub (List.nil_sublist _)⟩, ?_⟩
        exact .inr (Zaq hra hra0_r7 hO rfl (by have := hO.len; have := hra0_r7.len; first | exact Nat.le_refl _ | omega) (by simp only [List.append_assoc, List.cons_append, List.nil_append]) (by (simp +decide only [go_sem, Nat.reduceAdd]) <;> (try (repeat' apply And.intro)) <;> first | omega | assumption))
       have hb50 := hs.1
       refine Zcx (Zck [] _) ?_ (ZaK _ _)
       apply ZaA; simp +decide only [go_sem, Nat.reduceAdd]
       (repeat' apply And.intro) <;> first | refine hKQ _ _ _ ⟨⟨B ++ [a0.cs, [.val (.int .i64 0)], [.val .nilFunc, .clo 122 [], .clo 124 [], .clo 125 [], .clo 127 [], .clo 130 [], .clo 131 [], .clo 132 [], .clo 133 [], .clo 134 [], .clo 135 []], [.val (.int .i64 (b3_r7 + 1))], a0.cs], Rr7, L⟩, [p_r7.2.cs], by first | rfl | (simp only [List.append_assoc, List.append_nil, List.cons_append, List.nil_append]; done), ⟨by simp, by first | exact Nat.le_refl _ | (have := hO.len; simp; omega), rfl⟩, rfl, ⟨(b3_r7 + 1), Rr7, ef hs, hO, h⟩, ?_⟩ | exact cl
       exact .inr (Zaq hra hra0_r7 hO rfl (by have := hO.len; have := hra0_r7.len; first | exact Nat.le_refl _ | omega) (by simp only [List.append_assoc, List.cons_append, List.nil_append]) (by (simp +decide only [go_sem, Nat.reduceAdd]) <;> (try (repeat' apply And.intro)) <;> first | omega | assumption))
      ·
       replace h := ZaO h hf46
       rcases Bool.eq_false_or_eq_true (decide (p_r7.2.kind = 5)) with hf52 | hf52
       ·
        replace h := ZaQ h hf52
        have hk53 : p_r7.2.kind = 5 := of_decide_eq_true hf52
        apply Zap mix 7 2 1 [2, 7] (by kernel_rfl)
        rw [Zaa]; simp +decide only [go_sem, Nat.reduceAdd, hb13, hb16, hb19, hb22, hb25, hf28, hf30, hf35, hf40, hf46, hf52, hk53]
        have hs := And.intro hf28 hs
        have hs := And.intro hf30 hs
        have hs := And.intro hf35 hs
        have hs := And.intro hf40 hs
        have hs := And.intro hf46 hs
        have hs := And.intro hf52 hs
        have hs := And.intro hk53 hs
        (repeat' apply And.intro) <;> first | refine Zaf _ (Zjo w0 _ _ _ p_r7.2) (hv hs) ?_ | exact cl
        rw [Zaa]; simp +decide only [go_sem, Nat.reduceAdd, hb13, hb16, hb19, hb22, hb25, hf28, hf30, hf35, hf40, hf46, hf52, hk53]
        (repeat' with_reducible apply And.intro) <;> first | (rw [Zaa]; simp +decide only [go_sem, Nat.reduceAdd, hb13, hb16, hb19, hb22, hb25, hf28, hf30, hf35, hf40, hf46, hf52, hk53]) | exact cl
        (repeat' apply And.intro) <;> first | refine hK27 _ _ ?_ | exact cl
        clear hK27
        refine rg [2, 7, 44] hs ?_
        refine cnd h hs (fun hs h => ?_) (fun hs h => ?_)
        ·
         have hb55 := hs.1
         refine rg [2] hs ?_
         apply Zah; simp +decide only [go_sem, Nat.reduceAdd, hb13, hb16, hb19, hb22, hb25, hf28, hf30, hf35, hf40, hf46, hf52, hk53, hb55]
         have hgt := Option.some.inj h; subst hgt
         refine hKQ _ _ _ ⟨⟨B ++ [a0.cs, [.val (.int .i64 (ZcP p_r7.2))], [.val .nilFunc, .clo 122 [], .clo 124 [], .clo 125 [], .clo 127 [], .clo 130 [], .clo 131 [], .clo 132 [], .clo 133 [], .clo 134 [], .clo 135 []], [.val (.int .i64 (b3_r7 + 1))], a0.cs], Rr7, L⟩, [p_r7.2.cs], by first | rfl | (simp only [List.append_assoc, List.append_nil, List.cons_append, List.nil_append]; done), ⟨by simp, by first | exact Nat.le_refl _ | (have := hO.len; simp; omega), rfl⟩, rfl, ⟨rfl, _, _, _, _, Rr7, ef hs, hO.sub (List.nil_sublist _)⟩, ?_⟩
         exact .inr (Zaq hra hra0_r7 hO rfl (by have := hO.len; have := hra0_r7.len; first | exact Nat.le_refl _ | omega) (by simp only [List.append_assoc, List.cons_append, List.nil_append]) (by (simp +decide only [go_sem, Nat.reduceAdd]) <;> (try (repeat' apply And.intro)) <;> first | omega | assumption))
        have hb55 := hs.1
        refine Zcx (Zck [] _) ?_ (ZaK _ _)
        apply ZaA; simp +decide only [go_sem, Nat.reduceAdd]
        (repeat' apply And.intro) <;> first | refine hKQ _ _ _ ⟨⟨B ++ [a0.cs, [.val (.int .i64 0)], [.val .nilFunc, .clo 122 [], .clo 124 [], .clo 125 [], .clo 127 [], .clo 130 [], .clo 131 [], .clo 132 [], .clo 133 [], .clo 134 [], .clo 135 []], [.val (.int .i64 (b3_r7 + 1))], a0.cs], Rr7, L⟩, [p_r7.2.cs], by first | rfl | (simp only [List.append_assoc, List.append_nil, List.cons_append, List.nil_append]; done), ⟨by simp, by first | exact Nat.le_refl _ | (have := hO.len; simp; omega), rfl⟩, rfl, ⟨(b3_r7 + 1), Rr7, ef hs, hO, h⟩, ?_⟩ | exact cl
        exact .inr (Zaq hra hra0_r7 hO rfl (by have := hO.len; have := hra0_r7.len; first | exact Nat.le_refl _ | omega) (by simp only [List.append_assoc, List.cons_append, List.nil_append]) (by (simp +decide only [go_sem, Nat.reduceAdd]) <;> (try (repeat' apply And.intro)) <;> first | omega | assumption))
       ·
        replace h := ZaO h hf52
        rcases Bool.eq_false_or_eq_true (decide (p_r7.2.kind = 6)) with hf57 | hf57
        ·
         replace h := ZaQ h hf57
         have hk58 : p_r7.2.kind = 6 := of_decide_eq_true hf57
         apply Zap mix 7 2 1 [2, 7] (by kernel_rfl)
         rw [Zaa]; simp +decide only [go_sem, Nat.reduceAdd, hb13, hb16, hb19, hb22, hb25, hf28, hf30, hf35, hf40, hf46, hf52, hf57, hk58]
         have hs := And.intro hf28 hs
         have hs := And.intro hf30 hs
         have hs := And.intro hf35 hs
         have hs := And.intro hf40 hs
         have hs := And.intro hf46 hs
         have hs := And.intro hf52 hs
         have hs := And.intro hf57 hs
         have hs := And.intro hk58 hs
         (repeat' apply And.intro) <;> first | refine Zaf _ (Zjc w0 _ _ _ p_r7.2) (hv hs) ?_ | exact cl
         rw [Zaa]; simp +decide only [go_sem, Nat.reduceAdd, hb13, hb16, hb19, hb22, hb25, hf28, hf30, hf35, hf40, hf46, hf52, hf57, hk58]
         (repeat' with_reducible apply And.intro) <;> first | (rw [Zaa]; simp +decide only [go_sem, Nat.reduceAdd, hb13, hb16, hb19, hb22, hb25, hf28, hf30, hf35, hf40, hf46, hf52, hf57, hk58]) | exact cl
         (repeat' apply And.intro) <;> first | refine hK27 _ _ ?_ | exact cl
         clear hK27
         refine rg [2, 7, 44] hs ?_
         refine cnd h hs (fun hs h => ?_) (fun hs h => ?_)
         ·
          have hb60 := hs.1
          refine rg [2] hs ?_
          apply Zah; simp +decide only [go_sem, Nat.reduceAdd, hb13, hb16, hb19, hb22, hb25, hf28, hf30, hf35, hf40, hf46, hf52, hf57, hk58, hb60]
          have hgt := Option.some.inj h; subst hgt
          refine hKQ _ _ _ ⟨⟨B ++ [a0.cs, [.val (.int .i64 (Zcz p_r7.2))], [.val .nilFunc, .clo 122 [], .clo 124 [], .clo 125 [], .clo 127 [], .clo 130 [], .clo 131 [], .clo 132 [], .clo 133 [], .clo 134 [], .clo 135 []], [.val (.int .i64 (b3_r7 + 1))], a0.cs], Rr7, L⟩, [p_r7.2.cs], by first | rfl | (simp only [List.append_assoc, List.append_nil, List.cons_append, List.nil_append]; done), ⟨by simp, by first | exact Nat.le_refl _ | (have := hO.len; simp; omega), rfl⟩, rfl, ⟨rfl, _, _, _, _, Rr7, ef hs, hO.sub (List.nil_sublist _)⟩, ?_⟩
          exact .inr (Zaq hra hra0_r7 hO rfl (by have := hO.len; have := hra0_r7.len; first | exact Nat.le_refl _ | omega) (by simp only [List.append_assoc, List.cons_append, List.nil_append]) (by (simp +decide only [go_sem, Nat.reduceAdd]) <;> (try (repeat' apply And.intro)) <;> first | omega | assumption))
         have hb60 := hs.1
         refine Zcx (Zck [] _) ?_ (ZaK _ _)
         apply ZaA; simp +decide only [go_sem, Nat.reduceAdd]
         (repeat' apply And.intro) <;> first | refine hKQ _ _ _ ⟨⟨B ++ [a0.cs, [.val (.int .i64 0)], [.val .nilFunc, .clo 122 [], .clo 124 [], .clo 125 [], .clo 127 [], .clo 130 [], .clo 131 [], .clo 132 [], .clo 133 [], .clo 134 [], .clo 135 []], [.val (.int .i64 (b3_r7 + 1))], a0.cs], Rr7, L⟩, [p_r7.2.cs], by first | rfl | (simp only [List.append_assoc, List.append_nil, List.cons_append, List.nil_append]; done), ⟨by simp, by first | exact Nat.le_refl _ | (have := hO.len; simp; omega), rfl⟩, rfl, ⟨(b3_r7 + 1), Rr7, ef hs, hO, h⟩, ?_⟩ | exact cl
         exact .inr (Zaq hra hra0_r7 hO rfl (by have := hO.len; have := hra0_r7.len; first | exact Nat.le_refl _ | omega) (by simp only [List.append_assoc, List.cons_append, List.nil_append]) (by (simp +decide only [go_sem, Nat.reduceAdd]) <;> (try (repeat' apply And.intro)) <;> first | omega | assumption))
        ·
         replace h := ZaO h hf57
         rcases Bool.eq_false_or_eq_true (decide (p_r7.2.kind = 7)) with hf62 | hf62
         ·
          replace h := ZaQ h hf62
          have hk63 : p_r7.2.kind = 7 := of_decide_eq_true hf62
          apply Zap mix 7 2 1 [2, 7] (by kernel_rfl)
          rw [Zaa]; simp +decide only [go_sem, Nat.reduceAdd, hb13, hb16, hb19, hb22, hb25, hf28, hf30, hf35, hf40, hf46, hf52, hf57, hf62, hk63]
          have hs := And.intro hf28 hs
          have hs := And.intro hf30 hs
          have hs := And.intro hf35 hs
          have hs := And.intro hf40 hs
          have hs := And.intro hf46 hs
          have hs := And.intro hf52 hs
          have hs := And.intro hf57 hs
          have hs := And.intro hf62 hs
          have hs := And.intro hk63 hs
          (repeat' apply And.intro) <;> first | refine Zaf _ (Zjq w0 _ _ _ p_r7.2) (hv hs) ?_ | exact cl
          rw [Zaa]; simp +decide only [go_sem, Nat.reduceAdd, hb13, hb16, hb19, hb22, hb25, hf28, hf30, hf35, hf40, hf46, hf52, hf57, hf62, hk63]
          (repeat' with_reducible apply And.intro) <;> first | (rw [Zaa]; simp +decide only [go_sem, Nat.reduceAdd, hb13, hb16, hb19, hb22, hb25, hf28, hf30, hf35, hf40, hf46, hf52, hf57, hf62, hk63]) | exact cl
          (repeat' apply And.intro) <;> first | refine hK27 _ _ ?_ | exact cl
          clear hK27
          refine rg [2, 7, 44] hs ?_
          refine cnd h hs (fun hs h => ?_) (fun hs h => ?_)
          ·
           have hb65 := hs.1
           refine rg [2] hs ?_
           apply Zah; simp +decide only [go_sem, Nat.reduceAdd, hb13, hb16, hb19, hb22, hb25, hf28, hf30, hf35, hf40, hf46, hf52, hf57, hf62, hk63, hb65]
           have hgt := Option.some.inj h; subst hgt
           refine hKQ _ _ _ ⟨⟨B ++ [a0.cs, [.val (.int .i64 (ZcI p_r7.2))], [.val .nilFunc, .clo 122 [], .clo 124 [], .clo 125 [], .clo 127 [], .clo 130 [], .clo 131 [], .clo 132 [], .clo 133 [], .clo 134 [], .clo 135 []], [.val (.int .i64 (b3_r7 + 1))], a0.cs], Rr7, L⟩, [p_r7.2.cs], by first | rfl | (simp only [List.append_assoc, List.append_nil, List.cons_append, List.nil_append]; done), ⟨by simp, by first | exact Nat.le_refl _ | (have := hO.len; simp; omega), rfl⟩, rfl, ⟨rfl, _, _, _, _, Rr7, ef hs, hO.sub (List.nil_sublist _)⟩, ?_⟩
           exact .inr (Zaq hra hra0_r7 hO rfl (by have := hO.len; have := hra0_r7.len; first | exact Nat.le_refl _ | omega) (by simp only [List.append_assoc, List.cons_append, List.nil_append]) (by (simp +decide only [go_sem, Nat.reduceAdd]) <;> (try (repeat' apply And.intro)) <;> first | omega | assumption))
          have hb65 := hs.1
          refine Zcx (Zck [] _) ?_ (ZaK _ _)
          apply ZaA; simp +decide only [go_sem, Nat.reduceAdd]
          (repeat' apply And.intro) <;> first | refine hKQ _ _ _ ⟨⟨B ++ [a0.cs, [.val (.int .i64 0)], [.val .nilFunc, .clo 122 [], .clo 124 [], .clo 125 [], .clo 127 [], .clo 130 [], .clo 131 [], .clo 132 [], .clo 133 [], .clo 134 [], .clo 135 []], [.val (.int .i64 (b3_r7 + 1))], a0.cs], Rr7, L⟩, [p_r7.2.cs], by first | rfl | (simp only [List.append_assoc, List.append_nil, List.cons_append, List.nil_append]; done), ⟨by simp, by first | exact Nat.le_refl _ | (have := hO.len; simp; omega), rfl⟩, rfl, ⟨(b3_r7 + 1), Rr7, ef hs, hO, h⟩, ?_⟩ | exact cl
          exact .inr (Zaq hra hra0_r7 hO rfl (by have := hO.len; have := hra0_r7.len; first | exact Nat.le_refl _ | omega) (by simp only [List.append_assoc, List.cons_append, List.nil_append]) (by (simp +decide only [go_sem, Nat.reduceAdd]) <;> (try (repeat' apply And.intro)) <;> first | omega | assumption))
         ·
          replace h := ZaO h hf62
          rcases Bool.eq_false_or_eq_true (decide (p_r7.2.kind = 8)) with hf67 | hf67
          ·
           replace h := ZaQ h hf67
           have hk68 : p_r7.2.kind = 8 := of_decide_eq_true hf67
           apply Zap mix 7 2 1 [2, 7] (by kernel_rfl)
           rw [Zaa]; simp +decide only [go_sem, Nat.reduceAdd, hb13, hb16, hb19, hb22, hb25, hf28, hf30, hf35, hf40, hf46, hf52, hf57, hf62, hf67, hk68]
           have hs := And.intro hf28 hs
           have hs := And.intro hf30 hs
           have hs := And.intro hf35 hs
           have hs := And.intro hf40 hs
           have hs := And.intro hf46 hs
           have hs := And.intro hf52 hs
           have hs := And.intro hf57 hs
           have hs := And.intro hf62 hs
           have hs := And.intro hf67 hs
           have hs := And.intro hk68 hs
           (repeat' apply And.intro) <;> first | refine Zaf _ (Zjf w0 _ _ _ p_r7.2) (hv hs) ?_ | exact cl
           rw [Zaa]; simp +decide only [go_sem, Nat.reduceAdd, hb13, hb16, hb19, hb22, hb25, hf28, hf30, hf35, hf40, hf46, hf52, hf57, hf62, hf67, hk68]
           (repeat' with_reducible apply And.intro) <;> first | (rw [Zaa]; simp +decide only [go_sem, Nat.reduceAdd, hb13, hb16, hb19, hb22, hb25, hf28, hf30, hf35, hf40, hf46, hf52, hf57, hf62, hf67, hk68]) | exact cl
           (repeat' apply And.intro) <;> first | refine hK27 _ _ ?_ | exact cl
           clear hK27
           refine rg [2, 7, 44] hs ?_
           refine cnd h hs (fun hs h => ?_) (fun hs h => ?_)
           ·
            have hb70 := hs.1
            refine rg [2] hs ?_
            apply Zah; simp +decide only [go_sem, Nat.reduceAdd, hb13, hb16, hb19, hb22, hb25, hf28, hf30, hf35, hf40, hf46, hf52, hf57, hf62, hf67, hk68, hb70]
            have hgt := Option.some.inj h; subst hgt
            refine hKQ _ _ _ ⟨⟨B ++ [a0.cs, [.val (.int .i64 (ZcJ p_r7.2))], [.val .nilFunc, .clo 122 [], .clo 124 [], .clo 125 [], .clo 127 [], .clo 130 [], .clo 131 [], .clo 132 [], .clo 133 [], .clo 134 [], .clo 135 []], [.val (.int .i64 (b3_r7 + 1))], a0.cs], Rr7, L⟩, [p_r7.2.cs], by first | rfl | (simp only [List.append_assoc, List.append_nil, List.cons_append, List.nil_append]; done), ⟨by simp, by first | exact Nat.le_refl _ | (have := hO.len; simp; omega), rfl⟩, rfl, ⟨rfl, _, _, _, _, Rr7, ef hs, hO.sub (List.nil_sublist _)⟩, ?_⟩
            exact .inr (Zaq hra hra0_r7 hO rfl (by have := hO.len; have := hra0_r7.len; first | exact Nat.le_refl _ | omega) (by simp only [List.append_assoc, List.cons_append, List.nil_append]) (by (simp +decide only [go_sem, Nat.reduceAdd]) <;> (try (repeat' apply And.intro)) <;> first | omega | assumption))
           have hb70 := hs.1
           refine Zcx (Zck [] _) ?_ (ZaK _ _)
           apply ZaA; simp +decide only [go_sem, Nat.reduceAdd]
           (repeat' apply And.intro) <;> first | refine hKQ _ _ _ ⟨⟨B ++ [a0.cs, [.val (.int .i64 0)], [.val .nilFunc, .clo 122 [], .clo 124 [], .clo 125 [], .clo 127 [], .clo 130 [], .clo 131 [], .clo 132 [], .clo 133 [], .clo 134 [], .clo 135 []], [.val (.int .i64 (b3_r7 + 1))], a0.cs], Rr7, L⟩, [p_r7.2.cs], by first | rfl | (simp only [List.append_assoc, List.append_nil, List.cons_append, List.nil_append]; done), ⟨by simp, by first | exact Nat.le_refl _ | (have := hO.len; simp; omega), rfl⟩, rfl, ⟨(b3_r7 + 1), Rr7, ef hs, hO, h⟩, ?_⟩ | exact cl
           exact .inr (Zaq hra hra0_r7 hO rfl (by have := hO.len; have := hra0_r7.len; first | exact Nat.le_refl _ | omega) (by simp only [List.append_assoc, List.cons_append, List.nil_append]) (by (simp +decide only [go_sem, Nat.reduceAdd]) <;> (try (repeat' apply And.intro)) <;> first | omega | assumption))
          ·
           replace h := ZaO h hf67
           rcases Bool.eq_false_or_eq_true (decide (p_r7.2.kind = 9)) with hf72 | hf72
           ·
            replace h := ZaQ h hf72
            have hk73 : p_r7.2.kind = 9 := of_decide_eq_true hf72
            obtain ⟨y74, hy74, h⟩ := bind_some h
            apply Zap mix 7 2 1 [2, 7] (by kernel_rfl)
            rw [Zaa]; simp +decide only [go_sem, Nat.reduceAdd, hb13, hb16, hb19, hb22, hb25, hf28, hf30, hf35, hf40, hf46, hf52, hf57, hf62, hf67, hf72, hk73]
            have hs := And.intro hf28 hs
            have hs := And.intro hf30 hs
            have hs := And.intro hf35 hs
            have hs := And.intro hf40 hs
            have hs := And.intro hf46 hs
            have hs := And.intro hf52 hs
            have hs := And.intro hf57 hs
            have hs := And.intro hf62 hs
            have hs := And.intro hf67 hs
            have hs := And.intro hf72 hs
            have hs := And.intro hk73 hs
            (repeat' apply And.intro) <;> first | refine Zaf _ (ZjU w0 n _ _ _ p_r7.2 _ hy74) (hv hs) ?_ | exact cl
            rw [Zaa]; simp +decide only [go_sem, Nat.reduceAdd, hb13, hb16, hb19, hb22, hb25, hf28, hf30, hf35, hf40, hf46, hf52, hf57, hf62, hf67, hf72, hk73]
            (repeat' with_reducible apply And.intro) <;> first | (rw [Zaa]; simp +decide only [go_sem, Nat.reduceAdd, hb13, hb16, hb19, hb22, hb25, hf28, hf30, hf35, hf40, hf46, hf52, hf57, hf62, hf67, hf72, hk73]) | exact cl
            (repeat' apply And.intro) <;> first | refine hK27 _ _ ?_ | exact cl
            clear hK27
            refine rg [2, 7, 44] hs ?_
            refine cnd h hs (fun hs h => ?_) (fun hs h => ?_)
            ·
             have hb76 := hs.1
             refine rg [2] hs ?_
             apply Zah; simp +decide only [go_sem, Nat.reduceAdd, hb13, hb16, hb19, hb22, hb25, hf28, hf30, hf35, hf40, hf46, hf52, hf57, hf62, hf67, hf72, hk73, hb76]
             have hgt := Option.some.inj h; subst hgt
             refine hKQ _ _ _ ⟨⟨B ++ [a0.cs, [.val (.int .i64 y74)], [.val .nilFunc, .clo 122 [], .clo 124 [], .clo 125 [], .clo 127 [], .clo 130 [], .clo 131 [], .clo 132 [], .clo 133 [], .clo 134 [], .clo 135 []], [.val (.int .i64 (b3_r7 + 1))], a0.cs], Rr7, L⟩, [p_r7.2.cs], by first | rfl | (simp only [List.append_assoc, List.append_nil, List.cons_append, List.nil_append]; done), ⟨by simp, by first | exact Nat.le_refl _ | (have := hO.len; simp; omega), rfl⟩, rfl, ⟨rfl, _, _, _, _, Rr7, ef hs, hO.sub (List.nil_sublist _)⟩, ?_⟩
             exact .inr (Zaq hra hra0_r7 hO rfl (by have := hO.len; have := hra0_r7.len; first | exact Nat.le_refl _ | omega) (by simp only [List.append_assoc, List.cons_append, List.nil_append]) (by (simp +decide only [go_sem, Nat.reduceAdd]) <;> (try (repeat' apply And.intro)) <;> first | omega | assumption))
            have hb76 := hs.1
            refine Zcx (Zck [] _) ?_ (ZaK _ _)
            apply ZaA; simp +decide only [go_sem, Nat.reduceAdd]
            (repeat' apply And.intro) <;> first | refine hKQ _ _ _ ⟨⟨B ++ [a0.cs, [.val (.int .i64 0)], [.val .nilFunc, .clo 122 [], .clo 124 [], .clo 125 [], .clo 127 [], .clo 130 [], .clo 131 [], .clo 132 [], .clo 133 [], .clo 134 [], .clo 135 []], [.val (.int .i64 (b3_r7 + 1))], a0.cs], Rr7, L⟩, [p_r7.2.cs], by first | rfl | (simp only [List.append_assoc, List.append_nil, List.cons_append, List.nil_append]; done), ⟨by simp, by first | exact Nat.le_refl _ | (have := hO.len; simp; omega), rfl⟩, rfl, ⟨(b3_r7 + 1), Rr7, ef hs, hO, h⟩, ?_⟩ | exact cl
            exact .inr (Zaq hra hra0_r7 hO rfl (by have := hO.len; have := hra0_r7.len; first | exact Nat.le_refl _ | omega) (by simp only [List.append_assoc, List.cons_append, List.nil_append]) (by (simp +decide only [go_sem, Nat.reduceAdd]) <;> (try (repeat' apply And.intro)) <;> first | omega | assumption))
           ·
            replace h := ZaO h hf72
            rcases Bool.eq_false_or_eq_true (decide (p_r7.2.kind = 10)) with hf78 | hf78
            ·
             replace h := ZaQ h hf78
             have hk79 : p_r7.2.kind = 10 := of_decide_eq_true hf78
             obtain ⟨y80, hy80, h⟩ := bind_some h
             apply Zap mix 7 2 1 [2, 7] (by kernel_rfl)
             rw [Zaa]; simp +decide only [go_sem, Nat.reduceAdd, hb13, hb16, hb19, hb22, hb25, hf28, hf30, hf35, hf40, hf46, hf52, hf57, hf62, hf67, hf72, hf78, hk79]
             have hs := And.intro hf28 hs
             have hs := And.intro hf30 hs
             have hs := And.intro hf35 hs
             have hs := And.intro hf40 hs
             have hs := And.intro hf46 hs
             have hs := And.intro hf52 hs
             have hs := And.intro hf57 hs
             have hs := And.intro hf62 hs
             have hs := And.intro hf67 hs
             have hs := And.intro hf72 hs
             have hs := And.intro hf78 hs
             have hs := And.intro hk79 hs
             (repeat' apply And.intro) <;> first | refine Zaf _ (ZjA w0 _ _ _ p_r7.2 _ hy80) (hv hs) ?_ | exact cl
             rw [Zaa]; simp +decide only [go_sem, Nat.reduceAdd, hb13, hb16, hb19, hb22, hb25, hf28, hf30, hf35, hf40, hf46, hf52, hf57, hf62, hf67, hf72, hf78, hk79]
             (repeat' with_reducible apply And.intro) <;> first | (rw [Zaa]; simp +decide only [go_sem, Nat.reduceAdd, hb13, hb16, hb19, hb22, hb25, hf28, hf30, hf35, hf40, hf46, hf52, hf57, hf62, hf67, hf72, hf78, hk79]) | exact cl
             (repeat' apply And.intro) <;> first | refine hK27 _ _ ?_ | exact cl
             clear hK27
             refine rg [2, 7, 44] hs ?_
             refine cnd h hs (fun hs h => ?_) (fun hs h => ?_)
             ·
              have hb82 := hs.1
              refine rg [2] hs ?_
              apply Zah; simp +decide only [go_sem, Nat.reduceAdd, hb13, hb16, hb19, hb22, hb25, hf28, hf30, hf35, hf40, hf46, hf52, hf57, hf62, hf67, hf72, hf78, hk79, hb82]
              have hgt := Option.some.inj h; subst hgt
              refine hKQ _ _ _ ⟨⟨B ++ [a0.cs, [.val (.int .i64 y80)], [.val .nilFunc, .clo 122 [], .clo 124 [], .clo 125 [], .clo 127 [], .clo 130 [], .clo 131 [], .clo 132 [], .clo 133 [], .clo 134 [], .clo 135 []], [.val (.int .i64 (b3_r7 + 1))], a0.cs], Rr7, L⟩, [p_r7.2.cs], by first | rfl | (simp only [List.append_assoc, List.append_nil, List.cons_append, List.nil_append]; done), ⟨by simp, by first | exact Nat.le_refl _ | (have := hO.len; simp; omega), rfl⟩, rfl, ⟨rfl, _, _, _, _, Rr7, ef hs, hO.sub (List.nil_sublist _)⟩, ?_⟩
              exact .inr (Zaq hra hra0_r7 hO rfl (by have := hO.len; have := hra0_r7.len; first | exact Nat.le_refl _ | omega) (by simp only [List.append_assoc, List.cons_append, List.nil_append]) (by (simp +decide only [go_sem, Nat.reduceAdd]) <;> (try (repeat' apply And.intro)) <;> first | omega | assumption))
             have hb82 := hs.1
             refine Zcx (Zck [] _) ?_ (ZaK _ _)
             apply ZaA; simp +decide only [go_sem, Nat.reduceAdd]
             (repeat' apply And.intro) <;> first | refine hKQ _ _ _ ⟨⟨B ++ [a0.cs, [.val (.int .i64 0)], [.val .nilFunc, .clo 122 [], .clo 124 [], .clo 125 [], .clo 127 [], .clo 130 [], .clo 131 [], .clo 132 [], .clo 133 [], .clo 134 [], .clo 135 []], [.val (.int .i64 (b3_r7 + 1))], a0.cs], Rr7, L⟩, [p_r7.2.cs], by first | rfl | (simp only [List.append_assoc, List.append_nil, List.cons_append, List.nil_append]; done), ⟨by simp, by first | exact Nat.le_refl _ | (have := hO.len; simp; omega), rfl⟩, rfl, ⟨(b3_r7 + 1), Rr7, ef hs, hO, h⟩, ?_⟩ | exact cl
             exact .inr (Zaq hra hra0_r7 hO rfl (by have := hO.len; have := hra0_r7.len; first | exact Nat.le_refl _ | omega) (by simp only [List.append_assoc, List.cons_append, List.nil_append]) (by (simp +decide only [go_sem, Nat.reduceAdd]) <;> (try (repeat' apply And.intro)) <;> first | omega | assumption))
            ·
             replace h := ZaO h hf78
             cases h
 ·
  rintro s la ⟨XB, XR, XL⟩ hXR ⟨b3_r7, Rr7, rfl, hO, h⟩ _ _
  simp only at hXR
  subst hXR
  rw [List.drop_eq_nil_of_le (by rw [ZfZ]; exact Nat.le_refl _), ZaS] at h
  simp only [St.ext, St.push, List.append_assoc, List.append_nil]
  (repeat' apply And.intro) <;> first | refine hK4 _ _ ?_ | exact cl
  clear hK4
  refine Zgd (bs := [a0.cs, [.val (.int .i64 0)], [.val .nilFunc, .clo 122 [], .clo 124 [], .clo 125 [], .clo 127 [], .clo 130 [], .clo 131 [], .clo 132 [], .clo 133 [], .clo 134 [], .clo 135 []], [.val (.int .i64 b3_r7)], a0.cs]) hN hNR hNL rfl hcalm hO (by (simp +decide only [go_sem, Nat.reduceAdd]) <;> (try (repeat' apply And.intro)) <;> first | omega | assumption) (by (simp +decide only [go_sem, Nat.reduceAdd, ZbC]) <;> (try (repeat' apply And.intro)) <;> first | omega | assumption) ?_
  refine rg [2] hs ?_
  exact rt h hs hcalm hO
 ·
  rintro ex s la ⟨XB, XR, XL⟩ hXR ⟨rfl, z0, z2, z3, z4, rows, rfl, hO⟩ _ _
  simp only at hXR
  subst hXR
  simp only [St.ext, St.push, List.append_assoc, List.append_nil]
  simp +decide only [go_sem, Nat.reduceAdd]
  (repeat' with_reducible apply And.intro) <;> first | refine ZuZ hcalm rfl hO.pre ev ⟨?_, rfl⟩ | (intros; omega) | (intros; simp_all; done)
  first | rfl | (simp +decide only [go_sem, Nat.reduceAdd]; done)
def Zd7 (n : Nat) (a0 : Ty) (a1 : Vl) : Option Bool :=
 (Zf1 n a1).bind fun y3 =>
 if decide (y3 = 0) then
  (Zjx n a0 a1).bind fun y5 =>
  some (y5)
 else
  some (false)
theorem ZgM (w0 : World) (hT : Lib.Utf8Tabs 0 1 w0) (n : Nat) (B : List (List AV)) (Rw : List RowA) (L : List LoopA) (a0 : Ty) (a1 : Vl) (r : Bool) (h : Zd7 n a0 a1 = some r) :
  ACalls Tryz.prog w0 58 [.agg (a0.cs), .agg (a1.cs)] ⟨B, Rw, L⟩ fun x st => x = .val (.bool r) ∧ st = ⟨B, Rw, L⟩ := by
 rw [Zd7] at h
 refine hd [.tmp 4] Tryz.func58 Tryz.ntmps58 fun M0 W0 hN hNR hNL hcalm hu hO hs => ?_
 simp only [Zan]
 refine rg [2, 3] hs ?_
 apply Zab; intro K2 hK2
 obtain ⟨y3, hy3, h⟩ := bind_some h
 rcases Bool.eq_false_or_eq_true (decide (y3 = 0)) with hf4 | hf4
 ·
  replace h := ZaQ h hf4
  obtain ⟨y5, hy5, h⟩ := bind_some h
  have hs := And.intro hf4 hs
  refine rk 3 [4] hs ?_
  refine Zaf _ (Zgk w0 hT n _ _ _ a1 _ hy3) (hv hs) ?_
  refine nc hs ?_
  refine Zaf _ (ZlG w0 n _ _ _ a0 a1 _ hy5) (hv hs) ?_
  refine ne hs hK2 ?_
  clear hK2
  exact rt h hs hcalm hO
 ·
  replace h := ZaO h hf4
  apply Zac 3 [4]
  rw [Zaa]; simp +decide only [go_sem, Nat.reduceAdd, hf4]
  have hs := And.intro hf4 hs
  (repeat' apply And.intro) <;> first | refine Zaf _ (Zgk w0 hT n _ _ _ a1 _ hy3) (hv hs) ?_ | exact cl
  rw [Zaa]; simp +decide only [go_sem, Nat.reduceAdd, hf4]
  (repeat' apply And.intro) <;> first | refine Zay ?_ | exact cl
  rw [Zaa]; simp +decide only [go_sem, Nat.reduceAdd, hf4]
  (repeat' apply And.intro) <;> first | refine hK2 _ _ ?_ | exact cl
  clear hK2
  exact rt h hs hcalm hO
def Zdx (a0 : Int × ByteArray × Int × Ty × List Vl) (a1 : Int × ByteArray × Int × Ty × List Vl) : Bool :=
 (sEq a0.2.1 a1.2.1) || (decide (a0.1 = a1.1))
theorem ZjK (w0 : World) (B : List (List AV)) (Rw : List RowA) (L : List LoopA) (a0 : Int × ByteArray × Int × Ty × List Vl) (la1 : Nat) (a1 : Int × ByteArray × Int × Ty × List Vl) (hla1 : B[la1]? = some (.val (.int .i64 a1.1) :: (.val (.string a1.2.1) :: (.val (.int .i64 a1.2.2.1) :: ((a1.2.2.2.1.cs) ++ ([.list (a1.2.2.2.2.map avV) .none])))))) (r : Bool) (h : Zdx a0 a1 = r) :
  ACalls Tryz.prog w0 180 [.agg (.val (.int .i64 a0.1) :: (.val (.string a0.2.1) :: (.val (.int .i64 a0.2.2.1) :: ((a0.2.2.2.1.cs) ++ ([.list (a0.2.2.2.2.map avV) .none]))))), .box la1 0] ⟨B, Rw, L⟩ fun x st => x = .val (.bool r) ∧ st = ⟨B, Rw, L⟩ := by
 rw [Zdx] at h
 refine hd [.tmp 3] Tryz.func180 Tryz.ntmps180 fun M0 W0 hN hNR hNL hcalm hu hO hs => ?_
 simp only [Zan]
 have hltla1 := (List.getElem?_eq_some_iff.1 hla1).1
 have hs := And.intro (Zag hla1) hs
 refine rg [1, 2] hs ?_
 refine rg [3] hs ?_
 apply Zah; simp +decide only [go_sem, Nat.reduceAdd, Zag hla1]
 subst h
 first | refine ZaE hcalm rfl hO.pre ev ⟨?_, rfl⟩ | refine Za4 hcalm rfl hO.pre ev ⟨?_, rfl⟩
 first | rfl | (simp +decide only [go_sem, Nat.reduceAdd, Zag hla1]; done) | (simp +decide only [go_sem, Nat.reduceAdd, Vl.cs, Ty.cs, Zag hla1]; done)
theorem Zjh (w0 : World) (B : List (List AV)) (Rw : List RowA) (L : List LoopA) (a0 : Int × ByteArray × Int × Ty × List Vl) (la1 : Nat) (a1 : Int × ByteArray × Int × Ty × List Vl) (hla1 : B[la1]? = some (.val (.int .i64 a1.1) :: (.val (.string a1.2.1) :: (.val (.int .i64 a1.2.2.1) :: ((a1.2.2.2.1.cs) ++ ([.list (a1.2.2.2.2.map avV) .none])))))) :
  ACalls Tryz.prog w0 180 [.agg (.val (.int .i64 a0.1) :: (.val (.string a0.2.1) :: (.val (.int .i64 a0.2.2.1) :: ((a0.2.2.2.1.cs) ++ ([.list (a0.2.2.2.2.map avV) .none]))))), .box la1 0] ⟨B, Rw, L⟩ fun x st => x = .val (.bool (Zdx a0 a1)) ∧ st = ⟨B, Rw, L⟩ := ZjK w0 B Rw L a0 la1 a1 hla1 _ rfl
def Zh6 (n : Nat) (a0 : Ty) (a1 : Int) : Option Int :=
 (idx a0.fields a1).bind fun x3 =>
 if x3.2.1.size ≤ maxLen then
  if !(Zjl x3.2.1) then
   some (12)
  else
   if !(decide (1 ≤ x3.1) && decide (x3.1 ≤ 9999)) then
    some (2)
   else
    if 0 ≤ 0 ∧ 0 ≤ a1 ∧ a1 ≤ (a0.fields.length : Int) then
     (ZaI n (a0.fields.take a1.toNat) (fun (x0 : Int × ByteArray × Int × Ty × List Vl) => some (Zdx x0 x3))).bind fun y14 =>
     if y14 then
      some (7)
     else
      if (!(decide (1 ≤ x3.2.2.1) && decide (x3.2.2.1 ≤ 3))) || ((decide (a0.kind = 10)) && (!(decide (x3.2.2.1 = 1)))) then
       some (11)
      else
       if (decide (x3.2.2.1 = 3)) && (decide (((x3.2.2.2.2.length : Int)) = 0)) then
        some (4)
       else
        if (decide (1 < ((x3.2.2.2.2.length : Int)))) || ((!(decide (x3.2.2.1 = 3))) && (decide (0 < ((x3.2.2.2.2.length : Int))))) then
         some (3)
        else
         some (0)
    else none
 else none
theorem ZmA (w0 : World) (n : Nat) (B : List (List AV)) (Rw : List RowA) (L : List LoopA) (a0 : Ty) (a1 : Int) (r : Int) (h : Zh6 n a0 a1 = some r) :
  ACalls Tryz.prog w0 143 [.agg (a0.cs), .val (.int .i64 a1)] ⟨B, Rw, L⟩ fun x st => x = .val (.int .i64 r) ∧ st = ⟨B, Rw, L⟩ := by
 rw [Zh6] at h
 refine hd [.tmp 4] Tryz.func143 Tryz.ntmps143 fun M0 W0 hN hNR hNL hcalm hu hO hs => ?_
 simp only [Zan]
 refine rg [1, 2] hs ?_
 obtain ⟨x3, hx3, h⟩ := bind_some h
 obtain ⟨hx3a, hx3b, hx3c⟩ := Zau hx3
 have hx3d := Zav (f := ZdK) hx3c
 have hs := And.intro hx3d hs
 refine rg [1, 2, 5] hs ?_
 apply Zab; intro K4 hK4
 apply Zae
 obtain ⟨hg6, h⟩ := Zad h
 refine rc 2 [1, 2, 5, 11] hs ?_; intro K5 hK5
 refine Zaf _ (ZfE w0 _ _ _ x3.2.1 hg6) (hv hs) ?_
 refine ne hs hK5 ?_
 clear hK5
 refine cnd h hs (fun hs h => ?_) (fun hs h => ?_)
 ·
  refine rg [4] hs ?_
  exact rt h hs hcalm hO
 refine rc 2 [1, 2, 5, 16] hs ?_; intro K9 hK9
 refine Zaf _ (Zi7 w0 _ _ _ x3.1 1 9999) (hv hs) ?_
 refine ne hs hK9 ?_
 clear hK9
 refine cnd h hs (fun hs h => ?_) (fun hs h => ?_)
 ·
  refine rg [4] hs ?_
  exact rt h hs hcalm hO
 obtain ⟨hg13, h⟩ := Zad h
 obtain ⟨y14, hy14, h⟩ := bind_some h
 refine rc 2 [2, 5, 21] hs ?_; intro K12 hK12
 refine Zaf _ (Zbz w0 n _ _ _ (a0.fields.take a1.toNat) 180 [.box (B.length + 1) 0] (fun (x0 : Int × ByteArray × Int × Ty × List Vl) => some (Zdx x0 x3)) (fun x0 r hx B' rows' hB' hR' => by cases hx; exact Zjh w0 _ _ _ x0 _ x3 (Zdf hB' (ef hs))) _ hy14) (hv hs) ?_
 refine ne hs hK12 ?_
 clear hK12
 refine cnd h hs (fun hs h => ?_) (fun hs h => ?_)
 ·
  refine rg [4] hs ?_
  exact rt h hs hcalm hO
 refine rc 2 [5, 28] hs ?_; intro K17 hK17
 refine Zaf _ (Zi7 w0 _ _ _ x3.2.2.1 1 3) (hv hs) ?_
 refine ne hs hK17 ?_
 clear hK17
 refine cnd h hs (fun hs h => ?_) (fun hs h => ?_)
 ·
  refine rg [4] hs ?_
  exact rt h hs hcalm hO
 refine rg [5, 43] hs ?_
 refine cnd h hs (fun hs h => ?_) (fun hs h => ?_)
 ·
  refine rg [4] hs ?_
  exact rt h hs hcalm hO
 refine rg [53] hs ?_
 refine cnd h hs (fun hs h => ?_) (fun hs h => ?_)
 ·
  refine rg [4] hs ?_
  exact rt h hs hcalm hO
 refine sk [] hs hK4 ?_
 clear hK4
 refine rg [4] hs ?_
 exact rt h hs hcalm hO
def Zdu  (x5_k4 : Bool) : Int :=
 if x5_k4 then
  3
 else
  0
def Zge (a0 : Ty) (a1 : Lim) : Int :=
 if (!a1.bounds) && ((!(decide (a0.min = 0))) || (!(decide (a0.max = 0)))) then
  Zdu  true
 else
  if (!a1.scale) && (!(decide (a0.scale = 0))) then
   Zdu  true
  else
   if (!a1.text) && (decide (0 < ((a0.words.length : Int)))) then
    Zdu  true
   else
    if (!a1.list) && (decide (0 < ((a0.elem.length : Int)))) then
     Zdu  true
    else
     Zdu  ((!a1.fields) && (decide (0 < ((a0.fields.length : Int)))))
theorem ZmR (w0 : World) (B : List (List AV)) (Rw : List RowA) (L : List LoopA) (a0 : Ty) (a1 : Lim) (r : Int) (h : Zge a0 a1 = r) :
  ACalls Tryz.prog w0 141 [.agg (a0.cs), .agg (.val (.string a1.name) :: (.val (.int .i64 a1.low) :: (.val (.int .i64 a1.high) :: (.val (.bool a1.bounds) :: (.val (.bool a1.scale) :: (.val (.bool a1.text) :: (.val (.bool a1.list) :: ([.val (.bool a1.fields)]))))))))] ⟨B, Rw, L⟩ fun x st => x = .val (.int .i64 r) ∧ st = ⟨B, Rw, L⟩ := by
 rw [Zge] at h
 refine hd [.tmp 4] Tryz.func141 Tryz.ntmps141 fun M0 W0 hN hNR hNL hcalm hu hO hs => ?_
 simp only [Zan]
 refine rg [2, 3] hs ?_
 apply Zab; intro K2 hK2
 apply Zae
 refine Zal (fun e st => ∃ (x5_k4 : Bool), Ck e st B Rw L [(5, true, .val (.bool x5_k4))] [a0.cs, .val (.string a1.name) :: (.val (.int .i64 a1.low) :: (.val (.int .i64 a1.high) :: (.val (.bool a1.bounds) :: (.val (.bool a1.scale) :: (.val (.bool a1.text) :: (.val (.bool a1.list) :: ([.val (.bool a1.fields)])))))))] [] (Zdu  x5_k4 = r)) ?_ ?_
 ·
  intro K5 hK5
  refine rg [2, 3, 5] hs ?_
  refine cnd h hs (fun hs h => ?_) (fun hs h => ?_)
  ·
   refine sk [5] hs hK5 ?_
   exact ⟨true, ([]), Rw, ef hs, ef hs, hO, h⟩
  refine rg [2, 3, 5] hs ?_
  refine cnd h hs (fun hs h => ?_) (fun hs h => ?_)
  ·
   refine sk [5] hs hK5 ?_
   exact ⟨true, ([]), Rw, ef hs, ef hs, hO, h⟩
  refine rg [2, 3, 5] hs ?_
  refine cnd h hs (fun hs h => ?_) (fun hs h => ?_)
  ·
   refine sk [5] hs hK5 ?_
   exact ⟨true, ([]), Rw, ef hs, ef hs, hO, h⟩
  refine rg [2, 3, 5] hs ?_
  refine cnd h hs (fun hs h => ?_) (fun hs h => ?_)
  ·
   refine sk [5] hs hK5 ?_
   exact ⟨true, ([]), Rw, ef hs, ef hs, hO, h⟩
  refine rl [5] hs hK5 ?_
  exact ⟨((!a1.fields) && (decide (0 < ((a0.fields.length : Int))))), ([]), Rw, ef hs, ef hs, hO, h⟩
 ·
  clear h; rintro e st ⟨x5_k4, Xk4, Rk4, rfl, rfl, hO, h⟩
  rw [Zdu] at h
  refine td hN hNR hNL hcalm hO ?_
  refine cnd h hs (fun hs h => ?_) (fun hs h => ?_)
  ·
   have hb14 := hs.1
   refine rg [4] hs ?_
   apply Zah; simp +decide only [go_sem, Nat.reduceAdd, hb14]
   subst h
   first | refine ZaE hcalm rfl hO.pre ev ⟨?_, rfl⟩ | refine Za4 hcalm rfl hO.pre ev ⟨?_, rfl⟩
   first | rfl | (simp +decide only [go_sem, Nat.reduceAdd, hb14]; done) | (simp +decide only [go_sem, Nat.reduceAdd, Vl.cs, Ty.cs, hb14]; done)
  have hb14 := hs.1
  refine sk [] hs hK2 ?_
  clear hK2
  refine rg [4] hs ?_
  apply Zah; simp +decide only [go_sem, Nat.reduceAdd, hb14]
  subst h
  first | refine ZaE hcalm rfl hO.pre ev ⟨?_, rfl⟩ | refine Za4 hcalm rfl hO.pre ev ⟨?_, rfl⟩
  first | rfl | (simp +decide only [go_sem, Nat.reduceAdd, hb14]; done) | (simp +decide only [go_sem, Nat.reduceAdd, Vl.cs, Ty.cs, hb14]; done)
theorem Zmc (w0 : World) (B : List (List AV)) (Rw : List RowA) (L : List LoopA) (a0 : Ty) (a1 : Lim) :
  ACalls Tryz.prog w0 141 [.agg (a0.cs), .agg (.val (.string a1.name) :: (.val (.int .i64 a1.low) :: (.val (.int .i64 a1.high) :: (.val (.bool a1.bounds) :: (.val (.bool a1.scale) :: (.val (.bool a1.text) :: (.val (.bool a1.list) :: ([.val (.bool a1.fields)]))))))))] ⟨B, Rw, L⟩ fun x st => x = .val (.int .i64 (Zge a0 a1)) ∧ st = ⟨B, Rw, L⟩ := ZmR w0 B Rw L a0 a1 _ rfl
def ZeI  : ((List Lim)) :=
 [Lim.mk ((⟨#[]⟩ : ByteArray)) 0 0 false false false false false, Lim.mk ((⟨#[98, 111, 111, 108]⟩ : ByteArray)) 0 0 false false false false false, Lim.mk ((⟨#[105, 110, 116]⟩ : ByteArray)) ((-999999999999999)) 999999999999999 true false false false false, Lim.mk ((⟨#[100, 101, 99, 105, 109, 97, 108]⟩ : ByteArray)) ((-999999999999999)) 999999999999999 true true false false false, Lim.mk ((⟨#[116, 101, 120, 116]⟩ : ByteArray)) 0 1024 true false true false false, Lim.mk ((⟨#[98, 121, 116, 101, 115]⟩ : ByteArray)) 0 1024 true false false false false, Lim.mk ((⟨#[100, 97, 116, 101]⟩ : ByteArray)) ((-719162)) 2932896 true false false false false, Lim.mk ((⟨#[116, 105, 109, 101]⟩ : ByteArray)) ((-62135596800000)) 253402300799999 true false false false false, Lim.mk ((⟨#[108, 105, 115, 116]⟩ : ByteArray)) 0 256 true false false true false, Lim.mk ((⟨#[114, 101, 99, 111, 114, 100]⟩ : ByteArray)) 0 0 false false false false true, Lim.mk ((⟨#[118, 97, 114, 105, 97, 110, 116]⟩ : ByteArray)) 0 0 false false false false true]
theorem Zl5 (w0 : World) (B : List (List AV)) (Rw : List RowA) (L : List LoopA)  (r : (List Lim)) (h : ZeI  = r) :
  ACalls Tryz.prog w0 75 [] ⟨B, Rw, L⟩ fun x st => x = .agg (r.flatMap fun x => (ZpP x).cells) ∧ st = ⟨B, Rw, L⟩ := by
 rw [ZeI] at h
 refine hd [.cell 0 102] Tryz.func75 Tryz.ntmps75 fun M0 W0 hN hNR hNL hcalm hu hO hs => ?_
 simp only [Zan]
 refine rg [0] hs ?_
 apply Zab; intro K2 hK2
 apply Zac 1 [0]
 rw [Zaa]; simp +decide only [go_sem, Nat.reduceAdd, ZaP, Zax, Zas, List.getElem?_cons_zero, List.getElem?_cons_succ, List.nil_append, List.cons_append]
 (repeat' apply And.intro) <;> first | refine hK2 _ _ ?_ | exact cl
 clear hK2
 apply Zah; simp +decide only [go_sem, Nat.reduceAdd]
 subst h
 first | refine ZaE hcalm rfl hO.pre ev ⟨?_, rfl⟩ | refine Za4 hcalm rfl hO.pre ev ⟨?_, rfl⟩
 first | rfl | (simp +decide only [go_sem, Nat.reduceAdd]; done) | (simp +decide only [go_sem, Nat.reduceAdd, Vl.cs, Ty.cs]; done)
theorem ZkR (w0 : World) (B : List (List AV)) (Rw : List RowA) (L : List LoopA)  :
  ACalls Tryz.prog w0 75 [] ⟨B, Rw, L⟩ fun x st => x = .agg ((ZeI ).flatMap fun x => (ZpP x).cells) ∧ st = ⟨B, Rw, L⟩ := Zl5 w0 B Rw L  _ rfl
def Zej (a0 : ByteArray) : Vl :=
 Vl.mk 4 0 0 a0 ([]) ([])
theorem ZmZ (w0 : World) (B : List (List AV)) (Rw : List RowA) (L : List LoopA) (a0 : ByteArray) (r : Vl) (h : Zej a0 = r) :
  ACalls Tryz.prog w0 105 [.val (.string a0)] ⟨B, Rw, L⟩ fun x st => x = .agg (r.cs) ∧ st = ⟨B, Rw, L⟩ := by
 rw [Zej] at h
 refine hd [.cell 2 34] Tryz.func105 Tryz.ntmps105 fun M0 W0 hN hNR hNL hcalm hu hO hs => ?_
 simp only [Zan]
 refine rg [0, 2] hs ?_
 apply Zab; intro K2 hK2
 apply Zac 1 [2]
 rw [Zaa]; simp +decide only [go_sem, Nat.reduceAdd, ZaP, Zax, Zas]
 (repeat' apply And.intro) <;> first | refine hK2 _ _ ?_ | exact cl
 clear hK2
 apply Zah; simp +decide only [go_sem, Nat.reduceAdd]
 subst h
 first | refine ZaE hcalm rfl hO.pre ev ⟨?_, rfl⟩ | refine Za4 hcalm rfl hO.pre ev ⟨?_, rfl⟩
 first | rfl | (simp +decide only [go_sem, Nat.reduceAdd]; done) | (simp +decide only [go_sem, Nat.reduceAdd, Vl.cs, Ty.cs]; done)
theorem ZgF (w0 : World) (B : List (List AV)) (Rw : List RowA) (L : List LoopA) (a0 : ByteArray) :
  ACalls Tryz.prog w0 105 [.val (.string a0)] ⟨B, Rw, L⟩ fun x st => x = .agg ((Zej a0).cs) ∧ st = ⟨B, Rw, L⟩ := ZmZ w0 B Rw L a0 _ rfl
def Zft (n : Nat)  : Option Int :=
 some (0)
def Zdm (n : Nat) (a0 : Ty) : Nat → Int → Option Int
 | 0, _ => none
 | m + 1, x23_l13 =>
  if decide (x23_l13 < ((a0.words.length : Int))) then
   (idx a0.words x23_l13).bind fun x19 =>
   (Zf1 n (Zej x19)).bind fun y22 =>
   if !(decide (y22 = 0)) then
    some (y22)
   else
    if decide (0 < x23_l13) then
     if I64 (x23_l13 - 1) then
      (idx a0.words (x23_l13 - 1)).bind fun x30 =>
      if sEq x19 x30 then
       some (7)
      else
       if I64 (x23_l13 - 1) then
        if sLt x19 x30 then
         some (24)
        else
         if I64 (x23_l13 + 1) then
          (Zdm n a0 m) (x23_l13 + 1)
         else none
       else none
     else none
    else
     if I64 (x23_l13 + 1) then
      (Zdm n a0 m) (x23_l13 + 1)
     else none
  else
   Zft n 
def ZhQ (n : Nat) (a0 : Ty) : Option Int :=
 if (!(decide (a0.min = 0))) || (!(decide (a0.max = 0))) then
  some (3)
 else
  if decide (64 < ((a0.words.length : Int))) then
   some (9)
  else
   Zdm n a0 n 0
theorem ZmC (w0 : World) (hT : Lib.Utf8Tabs 0 1 w0) (n : Nat) (B : List (List AV)) (Rw : List RowA) (L : List LoopA) (a0 : Ty) (r : Int) (h : ZhQ n a0 = some r) :
  ACalls Tryz.prog w0 142 [.agg (a0.cs)] ⟨B, Rw, L⟩ fun x st => x = .val (.int .i64 r) ∧ st = ⟨B, Rw, L⟩ := by
 rw [ZhQ] at h
 refine hd [.tmp 2] Tryz.func142 Tryz.ntmps142 fun M0 W0 hN hNR hNL hcalm hu hO hs => ?_
 simp only [Zan]
 refine rg [1] hs ?_
 apply Zab; intro K2 hK2
 apply Zae
 refine rg [1, 6] hs ?_
 refine cnd h hs (fun hs h => ?_) (fun hs h => ?_)
 ·
  refine rg [2] hs ?_
  exact rt h hs hcalm hO
 refine rg [1, 15] hs ?_
 refine cnd h hs (fun hs h => ?_) (fun hs h => ?_)
 ·
  refine rg [2] hs ?_
  exact rt h hs hcalm hO
 refine sk [1] hs hK2 ?_
 clear hK2
 refine Zal (fun e st => Ck e st B Rw L [] [a0.cs] [] (Zft n  = some r)) ?_ ?_
 ·
  intro K11 hK11
  refine rg [1, 21, 22, 23] hs ?_
  apply Zae
  refine Zak (fun m e st => ∃ (x23_l13 : Int), Ck e st B Rw L [(1, true, .box B.length 0), (21, true, .list (a0.words.map avS) .none), (22, true, .val (.int .i64 ((a0.words.length : Int)))), (23, true, .val (.int .i64 x23_l13))] [a0.cs] [] (Zdm n a0 m x23_l13 = some r)) n ⟨0, ([]), Rw, ef hs, ef hs, hO, h⟩ ?_
  rintro ml13 e st ⟨x23_l13, Xl13, Rl13, rfl, rfl, hO, h⟩ Ul13 Vl13
  cases ml13 with
  | zero => cases h
  | succ ml13 =>
  rw [Zdm] at h
  refine td hN hNR hNL hcalm hO ?_
  refine rg [1, 21, 22, 23, 24] hs ?_
  apply Zab; intro K15 hK15
  refine cnd h hs (fun hs h => ?_) (fun hs h => ?_)
  rotate_left
  ·
   refine sx [] hs hK11 ?_
   exact ⟨([]), Rl13, ef hs, ef hs, hO, h⟩
  refine sk [1, 21, 22, 23] hs hK15 ?_
  clear hK15
  apply Zab; intro K17 hK17
  apply Zae
  obtain ⟨x19, hx19, h⟩ := bind_some h
  obtain ⟨hx19a, hx19b, hx19c⟩ := Zau hx19
  have hx19d := Zav (f := avS) hx19c
  have hs := And.intro hx19d hs
  refine rg [1, 3, 4, 21, 22, 23] hs ?_
  apply Zab; intro K20 hK20
  obtain ⟨y22, hy22, h⟩ := bind_some h
  refine rc 3 [1, 3, 4, 5, 21, 22, 23] hs ?_; intro K21 hK21
  refine Zaf _ (ZgF w0 _ _ _ x19) (hv hs) ?_
  refine nc hs ?_
  refine Zaf _ (Zgk w0 hT n _ _ _ (Zej x19) _ hy22) (hv hs) ?_
  refine ne hs hK21 ?_
  clear hK21
  refine rg [1, 3, 4, 5, 21, 22, 23, 32] hs ?_
  refine cnd h hs (fun hs h => ?_) (fun hs h => ?_)
  ·
   refine rg [2] hs ?_
   exact rt h hs hcalm hO
  refine sk [1, 3, 4, 21, 22, 23] hs hK20 ?_
  clear hK20
  apply Zab; intro K26 hK26
  apply Zab; intro K27 hK27
  rcases Bool.eq_false_or_eq_true (decide (0 < x23_l13)) with hf28 | hf28
  ·
   replace h := ZaQ h hf28
   obtain ⟨hg29, h⟩ := Zad h
   obtain ⟨x30, hx30a, hx30b, hx30d, h⟩ := ix avS h
   have hs := And.intro hf28 hs
   have hs := And.intro hx30d hs
   refine rl [1, 3, 4, 21, 22, 23, 45] hs hK27 ?_
   clear hK27
   refine cnd h hs (fun hs h => ?_) (fun hs h => ?_)
   ·
    refine rg [2] hs ?_
    exact rt h hs hcalm hO
   refine sk [1, 3, 4, 21, 22, 23] hs hK26 ?_
   clear hK26
   obtain ⟨hg34, h⟩ := Zad h
   refine rg [1, 21, 22, 23, 57] hs ?_
   refine cnd h hs (fun hs h => ?_) (fun hs h => ?_)
   ·
    refine rg [2] hs ?_
    exact rt h hs hcalm hO
   refine sk [1, 21, 22, 23] hs hK17 ?_
   clear hK17
   obtain ⟨hg37, h⟩ := Zad h
   refine rl [1, 21, 22, 23] hs (fun e s => Vl13 ml13 e s (Nat.lt_succ_self _)) ?_
   exact ⟨(x23_l13 + 1), ([]), Rl13, ef hs, ef hs, hO, h⟩
  ·
   replace h := ZaO h hf28
   have hs := And.intro hf28 hs
   refine rl [1, 3, 4, 21, 22, 23, 45] hs hK27 ?_
   clear hK27
   refine Zar false ev (ef hs) (fun hb38 => by cases hb38) (fun hb38 => ?_)
   refine sk [1, 3, 4, 21, 22, 23] hs hK26 ?_
   clear hK26
   refine rg [1, 21, 22, 23, 57] hs ?_
   refine Zar false ev (ef hs) (fun hb40 => by cases hb40) (fun hb40 => ?_)
   refine sk [1, 21, 22, 23] hs hK17 ?_
   clear hK17
   obtain ⟨hg41, h⟩ := Zad h
   refine rl [1, 21, 22, 23] hs (fun e s => Vl13 ml13 e s (Nat.lt_succ_self _)) ?_
   exact ⟨(x23_l13 + 1), ([]), Rl13, ef hs, ef hs, hO, h⟩
 ·
  clear h; rintro e st ⟨Xk10, Rk10, rfl, rfl, hO, h⟩
  rw [Zft] at h
  refine td hN hNR hNL hcalm hO ?_
  refine rg [2] hs ?_
  exact rt h hs hcalm hO
def Zhq (n : Nat)  : Option Int :=
 some (0)
def Zgg (n : Nat) (a0 : Ty) : Nat → Int → Option Int
 | 0, _ => none
 | m + 1, x106_l48 =>
  if decide (x106_l48 < ((a0.fields.length : Int))) then
   (Zh6 n a0 x106_l48).bind fun y55 =>
   if !(decide (y55 = 0)) then
    some (y55)
   else
    if I64 (x106_l48 + 1) then
     (Zgg n a0 m) (x106_l48 + 1)
    else none
  else
   Zhq n 
def Zga (n : Nat) (a0 : Ty) (x69_k32 : Bool) : Option Int :=
 if x69_k32 then
  some (4)
 else
  if (decide (a0.kind = 8)) && (decide (1 < ((a0.elem.length : Int)))) then
   some (3)
  else
   if decide (64 < ((a0.fields.length : Int))) then
    some (9)
   else
    Zgg n a0 n 0
def ZfH (n : Nat) (a0 : Ty) : Option Int :=
 if (decide (a0.kind = 8)) && (decide (((a0.elem.length : Int)) = 0)) then
  Zga n a0 true
 else
  Zga n a0 ((decide (a0.kind = 10)) && (decide (((a0.fields.length : Int)) = 0)))
def ZfY (n : Nat) (a0 : Ty) (x37_k24 : Bool) : Option Int :=
 if x37_k24 then
  some (2)
 else
  ZfH n a0 
def ZkY (n : Nat) (a0 : Ty) : Option Int :=
 if !(decide (1 ≤ a0.kind) && decide (a0.kind ≤ 10)) then
  some (11)
 else
  (idx (ZeI ) a0.kind).bind fun x7 =>
  if !(decide ((Zge a0 x7) = 0)) then
   some (Zge a0 x7)
  else
   if (decide (a0.kind = 4)) && (decide (0 < ((a0.words.length : Int)))) then
    (ZhQ n a0).bind fun y19 =>
    if !(decide (y19 = 0)) then
     some (y19)
    else
     ZfH n a0 
   else
    if x7.bounds && (((decide (a0.max < a0.min)) || (decide (a0.min < x7.low))) || (decide (x7.high < a0.max))) then
     ZfY n a0 true
    else
     ZfY n a0 (x7.scale && (!(decide (0 ≤ a0.scale) && decide (a0.scale ≤ 12))))
theorem Zo5 (w0 : World) (hT : Lib.Utf8Tabs 0 1 w0) (n : Nat) (B : List (List AV)) (Rw : List RowA) (L : List LoopA) (a0 : Ty) (r : Int) (h : ZkY n a0 = some r) :
  ACalls Tryz.prog w0 97 [.agg (a0.cs)] ⟨B, Rw, L⟩ fun x st => x = .val (.int .i64 r) ∧ st = ⟨B, Rw, L⟩ := by
 rw [ZkY] at h
 refine hd [.tmp 2] Tryz.func97 Tryz.ntmps97 fun M0 W0 hN hNR hNL hcalm hu hO hs => ?_
 simp only [Zan]
 refine rg [1] hs ?_
 apply Zab; intro K2 hK2
 refine rc 2 [1, 11] hs ?_; intro K3 hK3
 refine Zaf _ (Zi7 w0 _ _ _ a0.kind 1 10) (hv hs) ?_
 refine ne hs hK3 ?_
 clear hK3
 refine cnd h hs (fun hs h => ?_) (fun hs h => ?_)
 ·
  have hb4 := hs.1
  refine rg [2] hs ?_
  exact rt h hs hcalm hO
 have hb4 := hs.1
 refine sk [1] hs hK2 ?_
 clear hK2
 apply Zab; intro K6 hK6
 obtain ⟨x7, hx7, h⟩ := bind_some h
 obtain ⟨hx7a, hx7b, hx7c⟩ := Zau hx7
 have hx7d := ZgS (f := fun x => (ZpP x).cells) 8 (fun _ => rfl) hx7c
 have hx7n : (ZeI ).length = 11 := rfl
 first | rw [hx7n] at hx7b | simp only [List.length_cons, List.length_nil, Nat.reduceAdd, Nat.zero_add] at hx7b
 simp only [ZdZ, ZeA, Zeq, Zes, Zer, ZdU, Zc7, Zdb, Zez, ZbR, ZbQ, Zda, Zhu] at hx7d
 apply ZgC mix [4, 5] [1, 3] (by kernel_rfl) (fun s => ∃ (X : List (List AV)) (rows : List RowA), s = ⟨B ++ ([a0.cs] ++ X), rows, L⟩) 3 (B.length + 1)
 ·
  simp +decide only [go_sem, Nat.reduceAdd]
 ·
  rintro s ⟨X, rows, rfl⟩
  refine ⟨2, ?_⟩
  rw [Zaa]; simp +decide only [go_sem, Nat.reduceAdd, ZdT, hb4, hx7d, Nat.mul_one]
  (repeat' apply And.intro) <;> first | refine Zaf _ (ZkR w0 _ _ _ ) (by first | rfl | (simp +decide only [go_sem, Nat.reduceAdd, hb4, hx7d, Nat.mul_one]; done) | (simp +decide only [go_sem, Nat.reduceAdd, Vl.cs, Ty.cs, hb4, hx7d, Nat.mul_one]; done)) ?_ | exact cl
  rw [Zaa]; simp +decide only [go_sem, Nat.reduceAdd, hb4, hx7d, Nat.mul_one]
  (repeat' apply And.intro) <;> first | rfl | exact cl
 ·
  refine Good.mk [4] (by kernel_rfl) ⟨[], _, by first | rfl | simp only [List.append_nil, List.nil_append]⟩ ?_ ?_
  ·
   intro h; exact absurd h (by decide)
  ·
   intro i hi; simp only [List.mem_cons, List.not_mem_nil, or_false] at hi
   subst hi
   ·
    apply Zba rfl rfl ev
    ·
     simp +decide only [go_sem, Nat.reduceAdd, Zcd, hb4, hx7d, Nat.mul_one]
     (repeat' apply And.intro) <;> first | rfl | exact cl
    ·
     simp +decide only [go_sem, Nat.reduceAdd, hb4, hx7d, Nat.mul_one]
     refine Good.mk [5] (by kernel_rfl) ⟨_, _, by first | rfl | simp only [List.append_nil, List.nil_append]⟩ ?_ ?_
     ·
      intro h; exact absurd h (by decide)
     ·
      intro i hi; simp only [List.mem_cons, List.not_mem_nil, or_false] at hi
      subst hi
      ·
       apply Zba rfl rfl ev
       ·
        simp +decide only [go_sem, Nat.reduceAdd, Zcd, hb4, hx7d, Nat.mul_one]
        (repeat' apply And.intro) <;> first | rfl | exact cl
       ·
        simp +decide only [go_sem, Nat.reduceAdd, hb4, hx7d, Nat.mul_one]
        refine Good.mk [] (by kernel_rfl) ⟨_, _, by first | rfl | simp only [List.append_nil, List.nil_append]⟩ ?_ ?_
        ·
         intro _; apply ZdL [1, 3]; first | (simp +decide only [go_sem, Nat.reduceAdd, hb4, hx7d, Nat.mul_one]; done) | (simp +decide only [go_sem, Nat.reduceAdd, hb4, hx7d, Nat.mul_one]; rfl)
        ·
         intro i hi; cases hi
 simp +decide only [go_sem, Nat.reduceAdd, hb4, hx7d, Nat.mul_one]
 (repeat' apply And.intro) <;> first | refine hK6 _ _ ?_ | exact cl
 clear hK6
 apply Zab; intro K8 hK8
 have hs := And.intro hx7d hs
 refine rc 2 [1, 3, 4] hs ?_; intro K9 hK9
 refine Zaf _ (Zmc w0 _ _ _ a0 x7) (hv hs) ?_
 refine ne hs hK9 ?_
 clear hK9
 refine rg [1, 3, 4, 20] hs ?_
 refine cnd h hs (fun hs h => ?_) (fun hs h => ?_)
 ·
  refine rg [2] hs ?_
  exact rt h hs hcalm hO
 refine sk [1, 3] hs hK8 ?_
 clear hK8
 refine Zal (fun e st => Ck e st B Rw L [(1, true, .box B.length 0)] [a0.cs, .val (.string x7.name) :: (.val (.int .i64 x7.low) :: (.val (.int .i64 x7.high) :: (.val (.bool x7.bounds) :: (.val (.bool x7.scale) :: (.val (.bool x7.text) :: (.val (.bool x7.list) :: ([.val (.bool x7.fields)])))))))] [] (ZfH n a0  = some r)) ?_ ?_
 ·
  intro K15 hK15
  apply Zae
  refine rg [1, 3, 22] hs ?_
  refine cnd h hs (fun hs h => ?_) (fun hs h => ?_)
  ·
   obtain ⟨y19, hy19, h⟩ := bind_some h
   refine rc 2 [1, 5] hs ?_; intro K18 hK18
   refine Zaf _ (ZmC w0 hT n _ _ _ a0 _ hy19) (hv hs) ?_
   refine ne hs hK18 ?_
   clear hK18
   refine rg [1, 5, 35] hs ?_
   refine cnd h hs (fun hs h => ?_) (fun hs h => ?_)
   ·
    refine rg [2] hs ?_
    exact rt h hs hcalm hO
   refine sk [1] hs hK15 ?_
   exact ⟨([]), Rw, ef hs, ef hs, hO, h⟩
  refine Zal (fun e st => ∃ (x37_k24 : Bool), Ck e st B Rw L [(1, true, .box B.length 0), (37, true, .val (.bool x37_k24))] [a0.cs, .val (.string x7.name) :: (.val (.int .i64 x7.low) :: (.val (.int .i64 x7.high) :: (.val (.bool x7.bounds) :: (.val (.bool x7.scale) :: (.val (.bool x7.text) :: (.val (.bool x7.list) :: ([.val (.bool x7.fields)])))))))] [] (ZfY n a0 x37_k24 = some r)) ?_ ?_
  ·
   intro K25 hK25
   refine rg [1, 3, 37] hs ?_
   refine cnd h hs (fun hs h => ?_) (fun hs h => ?_)
   ·
    refine sk [1, 37] hs hK25 ?_
    exact ⟨true, ([]), Rw, ef hs, ef hs, hO, h⟩
   refine rk 2 [1, 37] hs ?_
   refine Ziv _ (fun _ => Zi7 w0 _ _ _ a0.scale 0 12) (hv hs) ?_
   refine ne hs hK25 ?_
   exact ⟨(x7.scale && (!(decide (0 ≤ a0.scale) && decide (a0.scale ≤ 12)))), ([]), Rw, ef hs, ef hs, hO, h⟩
  ·
   clear h; rintro e st ⟨x37_k24, Xk24, Rk24, rfl, rfl, hO, h⟩
   rw [ZfY] at h
   refine td hN hNR hNL hcalm hO ?_
   refine cnd h hs (fun hs h => ?_) (fun hs h => ?_)
   ·
    refine rg [2] hs ?_
    exact rt h hs hcalm hO
   refine sk [1] hs hK15 ?_
   exact ⟨([]), Rk24, ef hs, ef hs, hO, h⟩
 ·
  clear h; rintro e st ⟨Xk14, Rk14, rfl, rfl, hO, h⟩
  rw [ZfH] at h
  refine td hN hNR hNL hcalm hO ?_
  apply Zab; intro K30 hK30
  apply Zae
  refine Zal (fun e st => ∃ (x69_k32 : Bool), Ck e st B Rw L [(1, true, .box B.length 0), (69, true, .val (.bool x69_k32))] [a0.cs, .val (.string x7.name) :: (.val (.int .i64 x7.low) :: (.val (.int .i64 x7.high) :: (.val (.bool x7.bounds) :: (.val (.bool x7.scale) :: (.val (.bool x7.text) :: (.val (.bool x7.list) :: ([.val (.bool x7.fields)])))))))] [] (Zga n a0 x69_k32 = some r)) ?_ ?_
  ·
   intro K33 hK33
   refine rg [1, 69] hs ?_
   refine cnd h hs (fun hs h => ?_) (fun hs h => ?_)
   ·
    refine sk [1, 69] hs hK33 ?_
    exact ⟨true, ([]), Rk14, ef hs, ef hs, hO, h⟩
   refine rl [1, 69] hs hK33 ?_
   exact ⟨((decide (a0.kind = 10)) && (decide (((a0.fields.length : Int)) = 0))), ([]), Rk14, ef hs, ef hs, hO, h⟩
  ·
   clear h; rintro e st ⟨x69_k32, Xk32, Rk32, rfl, rfl, hO, h⟩
   rw [Zga] at h
   refine td hN hNR hNL hcalm hO ?_
   refine cnd h hs (fun hs h => ?_) (fun hs h => ?_)
   ·
    refine rg [2] hs ?_
    exact rt h hs hcalm hO
   refine rg [1, 88] hs ?_
   refine cnd h hs (fun hs h => ?_) (fun hs h => ?_)
   ·
    refine rg [2] hs ?_
    exact rt h hs hcalm hO
   refine rg [1, 98] hs ?_
   refine cnd h hs (fun hs h => ?_) (fun hs h => ?_)
   ·
    refine rg [2] hs ?_
    exact rt h hs hcalm hO
   refine sk [1] hs hK30 ?_
   clear hK30
   refine Zal (fun e st => Ck e st B Rw L [] [a0.cs, .val (.string x7.name) :: (.val (.int .i64 x7.low) :: (.val (.int .i64 x7.high) :: (.val (.bool x7.bounds) :: (.val (.bool x7.scale) :: (.val (.bool x7.text) :: (.val (.bool x7.list) :: ([.val (.bool x7.fields)])))))))] [] (Zhq n  = some r)) ?_ ?_
   ·
    intro K46 hK46
    refine rg [1, 105, 106] hs ?_
    apply Zae
    refine Zak (fun m e st => ∃ (x106_l48 : Int), Ck e st B Rw L [(1, true, .box B.length 0), (105, true, .val (.int .i64 ((a0.fields.length : Int)))), (106, true, .val (.int .i64 x106_l48))] [a0.cs, .val (.string x7.name) :: (.val (.int .i64 x7.low) :: (.val (.int .i64 x7.high) :: (.val (.bool x7.bounds) :: (.val (.bool x7.scale) :: (.val (.bool x7.text) :: (.val (.bool x7.list) :: ([.val (.bool x7.fields)])))))))] [] (Zgg n a0 m x106_l48 = some r)) n ⟨0, ([]), Rk32, ef hs, ef hs, hO, h⟩ ?_
    rintro ml48 e st ⟨x106_l48, Xl48, Rl48, rfl, rfl, hO, h⟩ Ul48 Vl48
    cases ml48 with
    | zero => cases h
    | succ ml48 =>
    rw [Zgg] at h
    refine td hN hNR hNL hcalm hO ?_
    refine rg [1, 105, 106, 107] hs ?_
    apply Zab; intro K50 hK50
    refine cnd h hs (fun hs h => ?_) (fun hs h => ?_)
    rotate_left
    ·
     refine sx [] hs hK46 ?_
     exact ⟨([]), Rl48, ef hs, ef hs, hO, h⟩
    refine sk [1, 105, 106] hs hK50 ?_
    clear hK50
    apply Zab; intro K52 hK52
    apply Zae
    refine rg [1, 6, 105, 106] hs ?_
    obtain ⟨y55, hy55, h⟩ := bind_some h
    refine rc 2 [1, 7, 105, 106] hs ?_; intro K54 hK54
    refine Zaf _ (ZmA w0 n _ _ _ a0 x106_l48 _ hy55) (hv hs) ?_
    refine ne hs hK54 ?_
    clear hK54
    refine rg [1, 7, 105, 106, 113] hs ?_
    refine cnd h hs (fun hs h => ?_) (fun hs h => ?_)
    ·
     refine rg [2] hs ?_
     exact rt h hs hcalm hO
    refine sk [1, 105, 106] hs hK52 ?_
    clear hK52
    obtain ⟨hg59, h⟩ := Zad h
    refine rl [1, 105, 106] hs (fun e s => Vl48 ml48 e s (Nat.lt_succ_self _)) ?_
    exact ⟨(x106_l48 + 1), ([]), Rl48, ef hs, ef hs, hO, h⟩
   ·
    clear h; rintro e st ⟨Xk45, Rk45, rfl, rfl, hO, h⟩
    rw [Zhq] at h
    refine td hN hNR hNL hcalm hO ?_
    refine rg [2] hs ?_
    exact rt h hs hcalm hO
def Zfv (rec : Ty → Int → Int → Option (Int × Int)) (n : Nat)  (pla2_k18 : Int) : Option (Int × Int) :=
 some ((0, pla2_k18))
def ZcS (rec : Ty → Int → Int → Option (Int × Int)) (n : Nat) (a0 : Ty) (a1 : Int) (y21 : (List Ty)) : Nat → Int → Int → Option (Int × Int)
 | 0, _, _ => none
 | m + 1, x32_l22, pla2_l22 =>
  if decide (x32_l22 < ((y21.length : Int))) then
   (idx y21 x32_l22).bind fun x28 =>
   if I64 (a1 + 1) then
    (rec x28 (a1 + 1) pla2_l22).bind fun y32 =>
    if !(decide (y32.1 = 0)) then
     some ((y32.1, y32.2))
    else
     if decide (a0.kind = 9) then
      (idx a0.fields x32_l22).bind fun x38 =>
      if decide (x38.2.2.1 = 3) then
       (idx x38.2.2.2.2 0).bind fun x40 =>
       (Zd7 n x28 x40).bind fun y41 =>
       if !y41 then
        some ((18, y32.2))
       else
        if I64 (x32_l22 + 1) then
         (ZcS rec n a0 a1 y21 m) (x32_l22 + 1) y32.2
        else none
      else
       if I64 (x32_l22 + 1) then
        (ZcS rec n a0 a1 y21 m) (x32_l22 + 1) y32.2
       else none
     else
      if I64 (x32_l22 + 1) then
       (ZcS rec n a0 a1 y21 m) (x32_l22 + 1) y32.2
      else none
   else none
  else
   Zfv rec n pla2_l22
def ZhB (rec : Ty → Int → Int → Option (Int × Int)) (n : Nat) (a0 : Ty) (a1 : Int) (a2 : Int) : Option (Int × Int) :=
 if decide (a2 = 0) then
  some ((9, a2))
 else
  if decide (8 < a1) then
   some ((23, a2))
  else
   if I64 (a2 - 1) then
    (ZkY n a0).bind fun y13 =>
    if !(decide (y13 = 0)) then
     some ((y13, a2 - 1))
    else
     (ZeT n a0).bind fun y21 =>
     ZcS rec n a0 a1 y21 n 0 (a2 - 1)
   else none
def ZfX : Nat → Ty → Int → Int → Option (Int × Int)
 | 0, _, _, _ => none
 | n + 1, a0, a1, a2 => ZhB (ZfX n) n a0 a1 a2
def ZhM (w0 : World) (F : Ty → Int → Int → Option (Int × Int)) : Prop := ∀ (B : List (List AV)) (Rw : List RowA) (L : List LoopA) (a0 : Ty) (a1 : Int) (la2 : Nat) (a2 : Int) (hla2 : B[la2]? = some ([.val (.int .i64 a2)])) (r : Int × Int), F a0 a1 a2 = some r → ACalls Tryz.prog w0 53 [.agg (a0.cs), .val (.int .i64 a1), .box la2 0] ⟨B, Rw, L⟩ fun x st => x = .val (.int .i64 r.1) ∧ st = ⟨(B.set la2 [.val (.int .i64 r.2)]), Rw, L⟩
theorem Zkh (w0 : World) (hT : Lib.Utf8Tabs 0 1 w0) (rec : Ty → Int → Int → Option (Int × Int)) (ih : ZhM w0 rec) (n : Nat) : ZhM w0 (ZhB rec n) := by
 intro B Rw L a0 a1 la2 a2 hla2 r h
 rw [ZhB] at h
 refine hd [.tmp 6] Tryz.func53 Tryz.ntmps53 fun M0 W0 hN hNR hNL hcalm hu hO hs => ?_
 simp only [Zan]
 have hltla2 := (List.getElem?_eq_some_iff.1 hla2).1
 have hs := And.intro (Zag hla2) hs
 refine rg [1, 2, 3] hs ?_
 apply Zab; intro K2 hK2
 apply Zae
 refine rg [1, 2, 3, 11] hs ?_
 refine cnd h hs (fun hs h => ?_) (fun hs h => ?_)
 ·
  have hb4 := hs.1
  refine rg [6] hs ?_
  exact rt h hs hcalm hO
 have hb4 := hs.1
 refine rg [1, 2, 3, 16] hs ?_
 refine cnd h hs (fun hs h => ?_) (fun hs h => ?_)
 ·
  have hb7 := hs.1
  refine rg [6] hs ?_
  exact rt h hs hcalm hO
 have hb7 := hs.1
 refine sk [1, 2, 3] hs hK2 ?_
 clear hK2
 obtain ⟨hg10, h⟩ := Zad h
 refine rg [1, 2, 3] hs ?_
 apply Zab; intro K11 hK11
 obtain ⟨y13, hy13, h⟩ := bind_some h
 refine rc 2 [1, 2, 3, 7] hs ?_; intro K12 hK12
 refine Zaf _ (Zo5 w0 hT n _ _ _ a0 _ hy13) (hv hs) ?_
 refine ne hs hK12 ?_
 clear hK12
 refine rg [1, 2, 3, 7, 27] hs ?_
 refine cnd h hs (fun hs h => ?_) (fun hs h => ?_)
 ·
  have hb15 := hs.1
  refine rg [6] hs ?_
  apply Zah; simp +decide only [go_sem, Nat.reduceAdd, Zag hla2, hb4, hb7, hb15]
  have hgt := Option.some.inj h; subst hgt
  first | refine ZaE (Zaj hcalm ev) (by simp only [List.length_set]) hO.pre ev ⟨?_, rfl⟩ | refine Za4 (Zaj hcalm ev) (by simp only [List.length_set]) hO.pre ev ⟨?_, rfl⟩
  first | rfl | (simp +decide only [go_sem, Nat.reduceAdd, Zag hla2, hb4, hb7, hb15]; done) | (simp +decide only [go_sem, Nat.reduceAdd, Vl.cs, Ty.cs, Zag hla2, hb4, hb7, hb15]; done)
 have hb15 := hs.1
 refine sk [1, 2, 3] hs hK11 ?_
 clear hK11
 refine Zal (fun e st => ∃ (pla2_k18 : Int) (Xk18 : List (List AV)) (Rk18 : List RowA), e = [] ∧ st = ⟨(B.set la2 ([.val (.int .i64 pla2_k18)])) ++ ([a0.cs] ++ Xk18), Rk18, L⟩ ∧ Owns Rw Rk18 [] ∧ Zfv rec n pla2_k18 = some r) ?_ ?_
 ·
  intro K19 hK19
  obtain ⟨y21, hy21, h⟩ := bind_some h
  refine rc 2 [1, 2, 3, 30, 31, 32] hs ?_; intro K20 hK20
  refine Zaf _ (ZiQ w0 n _ _ _ a0 _ hy21) (hv hs) ?_
  refine ne hs hK20 ?_
  clear hK20
  apply Zae
  refine Zak (fun m e st => ∃ (x32_l22 : Int) (pla2_l22 : Int) (Xl22 : List (List AV)) (Rl22 : List RowA), e = [(1, true, .val (.int .i64 a1)), (2, true, .box la2 0), (3, true, .box B.length 0), (30, true, .list (y21.map avT) .none), (31, true, .val (.int .i64 ((y21.length : Int)))), (32, true, .val (.int .i64 x32_l22))] ∧ st = ⟨(B.set la2 ([.val (.int .i64 pla2_l22)])) ++ ([a0.cs] ++ Xl22), Rl22, L⟩ ∧ Owns Rw Rl22 [] ∧ ZcS rec n a0 a1 y21 m x32_l22 pla2_l22 = some r) n ⟨0, (a2 - 1), ([]), Rw, ef hs, ef hs, hO, h⟩ ?_
  rintro ml22 e st ⟨x32_l22, pla2_l22, Xl22, Rl22, rfl, rfl, hO, h⟩ Ul22 Vl22
  cases ml22 with
  | zero => cases h
  | succ ml22 =>
  rw [ZcS] at h
  refine ZaM hN hNR hNL (by simp only [List.length_set]) (Zaj hcalm ev) hO (by (simp +decide only [go_sem, Nat.reduceAdd]) <;> (try (repeat' apply And.intro)) <;> first | omega | assumption) (by (simp +decide only [go_sem, Nat.reduceAdd, ZbC]) <;> (try (repeat' apply And.intro)) <;> first | omega | assumption) ?_
  refine rg [1, 2, 3, 30, 31, 32, 33] hs ?_
  apply Zab; intro K24 hK24
  refine cnd h hs (fun hs h => ?_) (fun hs h => ?_)
  rotate_left
  ·
   have hb25 := hs.1
   refine sx [] hs hK19 ?_
   exact ⟨pla2_l22, ([]), Rl22, ef hs, ef hs, hO, h⟩
  have hb25 := hs.1
  refine sk [1, 2, 3, 30, 31, 32] hs hK24 ?_
  clear hK24
  apply Zab; intro K26 hK26
  apply Zae
  obtain ⟨x28, hx28, h⟩ := bind_some h
  obtain ⟨hx28a, hx28b, hx28c⟩ := Zau hx28
  have hx28d := Zav (f := avT) hx28c
  have hs := And.intro hx28d hs
  refine rg [1, 2, 3, 8, 9, 30, 31, 32] hs ?_
  apply Zab; intro K29 hK29
  obtain ⟨hg31, h⟩ := Zad h
  obtain ⟨y32, hy32, h⟩ := bind_some h
  refine rc 2 [1, 2, 3, 8, 9, 10, 30, 31, 32] hs ?_; intro K30 hK30
  refine ZbN _ (ih _ _ _ x28 (a1 + 1) la2 pla2_l22 (ef hs) _ hy32) (hv hs) ?_; rintro _ _ ⟨rfl, rfl⟩
  refine ne hs hK30 ?_
  clear hK30
  refine rg [1, 2, 3, 8, 9, 10, 30, 31, 32, 43] hs ?_
  refine cnd h hs (fun hs h => ?_) (fun hs h => ?_)
  ·
   have hb34 := hs.1
   refine rg [6] hs ?_
   apply Zah; simp +decide only [go_sem, Nat.reduceAdd, Zag hla2, hb4, hb7, hb15, hb25, hx28d, hb34]
   have hgt := Option.some.inj h; subst hgt
   first | refine ZaE (Zaj hcalm ev) (by simp only [List.length_set]) hO.pre ev ⟨?_, rfl⟩ | refine Za4 (Zaj hcalm ev) (by simp only [List.length_set]) hO.pre ev ⟨?_, rfl⟩
   first | rfl | (simp +decide only [go_sem, Nat.reduceAdd, Zag hla2, hb4, hb7, hb15, hb25, hx28d, hb34]; done) | (simp +decide only [go_sem, Nat.reduceAdd, Vl.cs, Ty.cs, Zag hla2, hb4, hb7, hb15, hb25, hx28d, hb34]; done)
  have hb34 := hs.1
  refine sk [1, 2, 3, 8, 9, 30, 31, 32] hs hK29 ?_
  clear hK29
  apply Zab; intro K36 hK36
  rcases Bool.eq_false_or_eq_true (decide (a0.kind = 9)) with hf37 | hf37
  ·
   replace h := ZaQ h hf37
   obtain ⟨x38, hx38a, hx38b, hx38d, h⟩ := ix ZdK h
   rcases Bool.eq_false_or_eq_true (decide (x38.2.2.1 = 3)) with hf39 | hf39
   ·
    replace h := ZaQ h hf39
    obtain ⟨x40, hx40a, hx40b, hx40d, h⟩ := ix avV h
    have hx40e : (x38.2.2.2.2.map avV).getD 0 .junk = _ := hx40d
    obtain ⟨y41, hy41, h⟩ := bind_some h
    apply Zap mix 25 2 1 [1, 2, 3, 30, 31, 32, 69] (by kernel_rfl)
    rw [Zaa]; simp +decide only [go_sem, Nat.reduceAdd, Zag hla2, hb4, hb7, hb15, hb25, hx28d, hb34, hf37, hx38d, hf39, hx40d, hx40e]
    have hs := And.intro hf37 hs
    have hs := And.intro hx38d hs
    have hs := And.intro hf39 hs
    have hs := And.intro hx40d hs
    have hs := And.intro hx40e hs
    (repeat' apply And.intro) <;> first | refine Zaf _ (ZgM w0 hT n _ _ _ x28 x40 _ hy41) (hv hs) ?_ | exact cl
    rw [Zaa]; simp +decide only [go_sem, Nat.reduceAdd, Zag hla2, hb4, hb7, hb15, hb25, hx28d, hb34, hf37, hx38d, hf39, hx40d, hx40e]
    (repeat' with_reducible apply And.intro) <;> first | (rw [Zaa]; simp +decide only [go_sem, Nat.reduceAdd, Zag hla2, hb4, hb7, hb15, hb25, hx28d, hb34, hf37, hx38d, hf39, hx40d, hx40e]) | exact cl
    (repeat' apply And.intro) <;> first | refine hK36 _ _ ?_ | exact cl
    clear hK36
    refine cnd h hs (fun hs h => ?_) (fun hs h => ?_)
    ·
     have hb42 := hs.1
     refine rg [6] hs ?_
     apply Zah; simp +decide only [go_sem, Nat.reduceAdd, Zag hla2, hb4, hb7, hb15, hb25, hx28d, hb34, hf37, hx38d, hf39, hx40d, hx40e, hb42]
     have hgt := Option.some.inj h; subst hgt
     first | refine ZaE (Zaj hcalm ev) (by simp only [List.length_set]) hO.pre ev ⟨?_, rfl⟩ | refine Za4 (Zaj hcalm ev) (by simp only [List.length_set]) hO.pre ev ⟨?_, rfl⟩
     first | rfl | (simp +decide only [go_sem, Nat.reduceAdd, Zag hla2, hb4, hb7, hb15, hb25, hx28d, hb34, hf37, hx38d, hf39, hx40d, hx40e, hb42]; done) | (simp +decide only [go_sem, Nat.reduceAdd, Vl.cs, Ty.cs, Zag hla2, hb4, hb7, hb15, hb25, hx28d, hb34, hf37, hx38d, hf39, hx40d, hx40e, hb42]; done)
    have hb42 := hs.1
    refine sk [1, 2, 3, 30, 31, 32] hs hK26 ?_
    clear hK26
    obtain ⟨hg44, h⟩ := Zad h
    refine rl [1, 2, 3, 30, 31, 32] hs (fun e s => Vl22 ml22 e s (Nat.lt_succ_self _)) ?_
    exact ⟨(x32_l22 + 1), y32.2, ([x28.cs]), Rl22, ef hs, ef hs, hO, h⟩
   ·
    replace h := ZaO h hf39
    apply Zap mix 25 2 1 [1, 2, 3, 30, 31, 32, 69] (by kernel_rfl)
    rw [Zaa]; simp +decide only [go_sem, Nat.reduceAdd, Zag hla2, hb4, hb7, hb15, hb25, hx28d, hb34, hf37, hx38d, hf39]
    (repeat' apply And.intro) <;> first | refine Zay ?_ | exact cl
    rw [Zaa]; simp +decide only [go_sem, Nat.reduceAdd, Zag hla2, hb4, hb7, hb15, hb25, hx28d, hb34, hf37, hx38d, hf39]
    (repeat' with_reducible apply And.intro) <;> first | (rw [Zaa]; simp +decide only [go_sem, Nat.reduceAdd, Zag hla2, hb4, hb7, hb15, hb25, hx28d, hb34, hf37, hx38d, hf39]) | exact cl
    (repeat' apply And.intro) <;> first | refine hK36 _ _ ?_ | exact cl
    clear hK36
    have hs := And.intro hf37 hs
    have hs := And.intro hx38d hs
    have hs := And.intro hf39 hs
    refine Zar false ev (ef hs) (fun hb45 => by cases hb45) (fun hb45 => ?_)
    refine sk [1, 2, 3, 30, 31, 32] hs hK26 ?_
    clear hK26
    obtain ⟨hg46, h⟩ := Zad h
    refine rl [1, 2, 3, 30, 31, 32] hs (fun e s => Vl22 ml22 e s (Nat.lt_succ_self _)) ?_
    exact ⟨(x32_l22 + 1), y32.2, ([x28.cs]), Rl22, ef hs, ef hs, hO, h⟩
  ·
   replace h := ZaO h hf37
   apply Zap mix 25 2 1 [1, 2, 3, 30, 31, 32, 69] (by kernel_rfl)
   rw [Zaa]; simp +decide only [go_sem, Nat.reduceAdd, Zag hla2, hb4, hb7, hb15, hb25, hx28d, hb34, hf37]
   (repeat' apply And.intro) <;> first | refine Zay ?_ | exact cl
   rw [Zaa]; simp +decide only [go_sem, Nat.reduceAdd, Zag hla2, hb4, hb7, hb15, hb25, hx28d, hb34, hf37]
   (repeat' with_reducible apply And.intro) <;> first | (rw [Zaa]; simp +decide only [go_sem, Nat.reduceAdd, Zag hla2, hb4, hb7, hb15, hb25, hx28d, hb34, hf37]) | exact cl
   (repeat' apply And.intro) <;> first | refine hK36 _ _ ?_ | exact cl
   clear hK36
   have hs := And.intro hf37 hs
   refine Zar false ev (ef hs) (fun hb47 => by cases hb47) (fun hb47 => ?_)
   refine sk [1, 2, 3, 30, 31, 32] hs hK26 ?_
   clear hK26
   obtain ⟨hg48, h⟩ := Zad h
   refine rl [1, 2, 3, 30, 31, 32] hs (fun e s => Vl22 ml22 e s (Nat.lt_succ_self _)) ?_
   exact ⟨(x32_l22 + 1), y32.2, ([x28.cs]), Rl22, ef hs, ef hs, hO, h⟩
 ·
  clear h; rintro e st ⟨pla2_k18, Xk18, Rk18, rfl, rfl, hO, h⟩
  rw [Zfv] at h
  refine ZaM hN hNR hNL (by simp only [List.length_set]) (Zaj hcalm ev) hO (by (simp +decide only [go_sem, Nat.reduceAdd]) <;> (try (repeat' apply And.intro)) <;> first | omega | assumption) (by (simp +decide only [go_sem, Nat.reduceAdd, ZbC]) <;> (try (repeat' apply And.intro)) <;> first | omega | assumption) ?_
  refine rg [6] hs ?_
  apply Zah; simp +decide only [go_sem, Nat.reduceAdd, Zag hla2, hb4, hb7, hb15]
  have hgt := Option.some.inj h; subst hgt
  first | refine ZaE (Zaj hcalm ev) (by simp only [List.length_set]) hO.pre ev ⟨?_, rfl⟩ | refine Za4 (Zaj hcalm ev) (by simp only [List.length_set]) hO.pre ev ⟨?_, rfl⟩
  first | rfl | (simp +decide only [go_sem, Nat.reduceAdd, Zag hla2, hb4, hb7, hb15]; done) | (simp +decide only [go_sem, Nat.reduceAdd, Vl.cs, Ty.cs, Zag hla2, hb4, hb7, hb15]; done)
theorem ZiG (w0 : World) (hT : Lib.Utf8Tabs 0 1 w0) : ∀ n : Nat, ZhM w0 (ZfX n)
 | 0 => fun _ _ _ _ _ _ _ _ _ h => (nomatch h)
 | n + 1 => Zkh w0 hT (ZfX n) (ZiG w0 hT n) n
def ZeL  : List (Nat × Vl) → Int → Option Int
 | [], b1_r6 =>
  some (b1_r6)
 | p_r6 :: rest, b1_r6 =>
  if I64 (b1_r6 + 1) then
   (ZeL  rest) (b1_r6 + 1)
  else none
def Zjz (a0 : Vl) : Option Int :=
 if a0.size < 1048576 then
  ZeL  (Zgq 1 a0) 0
 else none
theorem ZnX (w0 : World) (B : List (List AV)) (Rw : List RowA) (L : List LoopA) (a0 : Vl) (r : Int) (h : Zjz a0 = some r) :
  ACalls Tryz.prog w0 144 [.agg (a0.cs)] ⟨B, Rw, L⟩ fun x st => x = .val (.int .i64 r) ∧ st = ⟨B, Rw, L⟩ := by
 rw [Zjz] at h
 refine hd [.tmp 2] Tryz.func144 Tryz.ntmps144 fun M0 W0 hN hNR hNL hcalm hu hO hs => ?_
 simp only [Zan]
 refine rg [1] hs ?_
 refine rg [1, 3] hs ?_
 apply Zab; intro K3 hK3
 refine rc 2 [3, 5] hs ?_; intro K4 hK4
 refine ZbN _ (Zid w0 _ _ _ a0) (hv hs) ?_; rintro _ _ ⟨rfl, rfl⟩
 refine ne hs hK4 ?_
 clear hK4
 apply Zae
 obtain ⟨hg5, h⟩ := Zad h
 refine ZfF (Zeu a0) (fun st => st.boxes[(B.length + 2)]? = some a0.cs) (fun i st => ∃ (b1_r6 : Int) (Rr6 : List RowA), st = ⟨B ++ ([a0.cs, [.val (.int .i64 b1_r6)], a0.cs]), Rr6, L⟩ ∧ Owns Rw Rr6 [] ∧ ZeL  ((Zgq 1 a0).drop i) b1_r6 = some r) (fun _ _ => False) ev ev (ZfI w0 a0 hg5 _) (fun x hx => ZiO a0 x hx) (by decide) ?_ ⟨0, Rw, ef hs, hO, h⟩ (fun _ _ h => h.elim) ?_ ?_ ?_
 ·
  rintro i st la ⟨b1_r6, Rr6, rfl, hO, h⟩ _ _; simp +decide [St.push]
 ·
  rintro i s1 ⟨XB, XR, XL⟩ x M1 W1 l la la' hX hI hlike hloops hx hra K hK
  obtain ⟨p_r6, hpi, rfl, hi⟩ := Zir a0 i x hx
  (try simp only at hX)
  subst hX
  obtain ⟨b1_r6, Rr6, rfl, hO, h⟩ := hI
  rw [Zg4 hpi, ZeL] at h
  have hra0_r6 := hO
  simp only [St.ext, St.push, List.append_assoc, List.append_nil]
  refine Zcx (Zck [3] _) ?_ (ZaK _ _)
  apply ZaA; simp +decide only [go_sem, Nat.reduceAdd]
  (repeat' apply And.intro) <;> first | refine hK _ _ (by simp [St.ext, St.push]) (fun KQ hKQ => ?_) | exact cl
  clear hK
  dsimp only [St.ext, St.push]
  apply Zae
  obtain ⟨hg7, h⟩ := Zad h
  apply Zac 1 [3]
  rw [Zaa]; simp +decide only [go_sem, Nat.reduceAdd]
  (repeat' apply And.intro) <;> first | refine hKQ _ _ _ ⟨⟨B ++ [a0.cs, [.val (.int .i64 (b1_r6 + 1))], a0.cs], Rr6, L⟩, [], by first | rfl | (simp only [List.append_assoc, List.append_nil, List.cons_append, List.nil_append]; done), ⟨by simp, by first | exact Nat.le_refl _ | (have := hO.len; simp; omega), rfl⟩, rfl, ⟨(b1_r6 + 1), Rr6, ef hs, hO, h⟩, ?_⟩ | exact cl
  exact .inl rfl
 ·
  rintro s la ⟨XB, XR, XL⟩ hXR ⟨b1_r6, Rr6, rfl, hO, h⟩ _ _
  simp only at hXR
  subst hXR
  rw [List.drop_eq_nil_of_le (by rw [ZfZ]; exact Nat.le_refl _), ZeL] at h
  simp only [St.ext, St.push, List.append_assoc, List.append_nil]
  (repeat' apply And.intro) <;> first | refine hK3 _ _ ?_ | exact cl
  clear hK3
  refine Zgd (bs := [a0.cs, [.val (.int .i64 b1_r6)], a0.cs]) hN hNR hNL rfl hcalm hO (by (simp +decide only [go_sem, Nat.reduceAdd]) <;> (try (repeat' apply And.intro)) <;> first | omega | assumption) (by (simp +decide only [go_sem, Nat.reduceAdd, ZbC]) <;> (try (repeat' apply And.intro)) <;> first | omega | assumption) ?_
  refine rg [2] hs ?_
  exact rt h hs hcalm hO
 ·
  rintro ex s la X hX h; exact h.elim
def ZbF (rec : Ty → Option Int) (n : Nat) (again_l23 : Int → Int → Option Int) (x38_l23 : Int) (x3_k28 : Int) : Option Int :=
 if I64 (x38_l23 + 1) then
  again_l23 x3_k28 (x38_l23 + 1)
 else none
def Zbd (rec : Ty → Option Int) (n : Nat)  (x3_k4 : Int) : Option Int :=
 some ((if 4097 < x3_k4 then 4097 else x3_k4))
def ZaZ (rec : Ty → Option Int) (n : Nat) (a0 : Ty) : Nat → Int → Int → Option Int
 | 0, _, _ => none
 | m + 1, x3_l23, x38_l23 =>
  if decide (x38_l23 < ((a0.fields.length : Int))) then
   (idx a0.fields x38_l23).bind fun x31 =>
   if decide (x31.2.2.1 = 1) then
    (rec x31.2.2.2.1).bind fun y35 =>
    if I64 (x3_l23 + y35) then
     ZbF rec n (ZaZ rec n a0 m) x38_l23 (x3_l23 + y35)
    else none
   else
    if decide (x31.2.2.1 = 3) then
     (idx x31.2.2.2.2 0).bind fun x39 =>
     (Zjz x39).bind fun y40 =>
     if I64 (x3_l23 + y40) then
      ZbF rec n (ZaZ rec n a0 m) x38_l23 (x3_l23 + y40)
     else none
    else
     ZbF rec n (ZaZ rec n a0 m) x38_l23 x3_l23
  else
   Zbd rec n x3_l23
def Zd6 (rec : Ty → Option Int) (n : Nat) (a0 : Ty) : Option Int :=
 if decide (a0.kind = 8) then
  if decide (0 < a0.min) then
   (idx a0.elem 0).bind fun x11 =>
   (rec x11).bind fun y12 =>
   if I64 (a0.min * y12) then
    if I64 (1 + (a0.min * y12)) then
     Zbd rec n (1 + (a0.min * y12))
    else none
   else none
  else
   Zbd rec n 1
 else
  if decide (a0.kind = 10) then
   (idx a0.fields 0).bind fun x17 =>
   (rec x17.2.2.2.1).bind fun y18 =>
   if I64 (1 + y18) then
    Zbd rec n (1 + y18)
   else none
  else
   if decide (a0.kind = 9) then
    ZaZ rec n a0 n 1 0
   else
    Zbd rec n 1
def Zdd : Nat → Ty → Option Int
 | 0, _ => none
 | n + 1, a0 => Zd6 (Zdd n) n a0
def Zed (w0 : World) (F : Ty → Option Int) : Prop := ∀ (B : List (List AV)) (Rw : List RowA) (L : List LoopA) (a0 : Ty) (r : Int), F a0 = some r → ACalls Tryz.prog w0 98 [.agg (a0.cs)] ⟨B, Rw, L⟩ fun x st => x = .val (.int .i64 r) ∧ st = ⟨B, Rw, L⟩
theorem Zg1 (w0 : World) (rec : Ty → Option Int) (ih : Zed w0 rec) (n : Nat) : Zed w0 (Zd6 rec n) := by
 intro B Rw L a0 r h
 rw [Zd6] at h
 refine hd [.tmp 2] Tryz.func98 Tryz.ntmps98 fun M0 W0 hN hNR hNL hcalm hu hO hs => ?_
 simp only [Zan]
 refine rg [1] hs ?_
 refine rg [1, 3] hs ?_
 refine Zal (fun e st => ∃ (x3_k4 : Int), Ck e st B Rw L [(3, true, .val (.int .i64 x3_k4))] [a0.cs] [] (Zbd rec n x3_k4 = some r)) ?_ ?_
 ·
  intro K5 hK5
  refine rg [1, 3, 7] hs ?_
  apply Zae
  refine rg [1, 3, 7, 8] hs ?_
  refine cnd h hs (fun hs h => ?_) (fun hs h => ?_)
  ·
   have hb8 := hs.1
   refine rg [1, 3, 12] hs ?_
   refine cnd h hs (fun hs h => ?_) (fun hs h => ?_)
   ·
    have hb10 := hs.1
    obtain ⟨x11, hx11a, hx11b, hx11d, h⟩ := ix avT h
    have hx11e : (a0.elem.map avT).getD 0 .junk = _ := hx11d
    obtain ⟨y12, hy12, h⟩ := bind_some h
    obtain ⟨hg13, h⟩ := Zad h
    obtain ⟨hg14, h⟩ := Zad h
    apply Zap mix 10 2 1 [3] (by kernel_rfl)
    rw [Zaa]; simp +decide only [go_sem, Nat.reduceAdd, hb8, hb10, hx11d, hx11e]
    have hs := And.intro hx11d hs
    have hs := And.intro hx11e hs
    (repeat' apply And.intro) <;> first | refine Zaf _ (ih _ _ _ x11 _ hy12) (hv hs) ?_ | exact cl
    rw [Zaa]; simp +decide only [go_sem, Nat.reduceAdd, hb8, hb10, hx11d, hx11e]
    (repeat' with_reducible apply And.intro) <;> first | (rw [Zaa]; simp +decide only [go_sem, Nat.reduceAdd, hb8, hb10, hx11d, hx11e]) | exact cl
    (repeat' apply And.intro) <;> first | refine hK5 _ _ ⟨(1 + (a0.min * y12)), ([]), Rw, ef hs, ef hs, hO, h⟩ | exact cl
   have hb10 := hs.1
   refine sk [3] hs hK5 ?_
   exact ⟨1, ([]), Rw, ef hs, ef hs, hO, h⟩
  have hb8 := hs.1
  refine rg [1, 3, 7, 23] hs ?_
  refine cnd h hs (fun hs h => ?_) (fun hs h => ?_)
  ·
   obtain ⟨x17, hx17a, hx17b, hx17d, h⟩ := ix ZdK h
   have hx17e : (a0.fields.map ZdK).getD 0 .junk = _ := hx17d
   obtain ⟨y18, hy18, h⟩ := bind_some h
   obtain ⟨hg19, h⟩ := Zad h
   have hs := And.intro hx17d hs
   have hs := And.intro hx17e hs
   refine rk 2 [3] hs ?_
   refine Zaf _ (ih _ _ _ x17.2.2.2.1 _ hy18) (hv hs) ?_
   refine ne hs hK5 ?_
   exact ⟨(1 + y18), ([]), Rw, ef hs, ef hs, hO, h⟩
  refine rg [1, 3, 33] hs ?_
  refine cnd h hs (fun hs h => ?_) (fun hs h => ?_)
  ·
   refine rg [3, 36, 37, 38] hs ?_
   apply Zae
   refine Zak (fun m e st => ∃ (x3_l23 : Int) (x38_l23 : Int), Ck e st B Rw L [(3, true, .val (.int .i64 x3_l23)), (36, true, .list (a0.fields.map ZdK) .none), (37, true, .val (.int .i64 ((a0.fields.length : Int)))), (38, true, .val (.int .i64 x38_l23))] [a0.cs] [] (ZaZ rec n a0 m x3_l23 x38_l23 = some r)) n ⟨1, 0, ([]), Rw, ef hs, ef hs, hO, h⟩ ?_
   rintro ml23 e st ⟨x3_l23, x38_l23, Xl23, Rl23, rfl, rfl, hO, h⟩ Ul23 Vl23
   cases ml23 with
   | zero => cases h
   | succ ml23 =>
   rw [ZaZ] at h
   refine td hN hNR hNL hcalm hO ?_
   refine rg [3, 36, 37, 38, 39] hs ?_
   apply Zab; intro K25 hK25
   refine cnd h hs (fun hs h => ?_) (fun hs h => ?_)
   rotate_left
   ·
    refine sx [3] hs hK5 ?_
    exact ⟨x3_l23, ([]), Rl23, ef hs, ef hs, hO, h⟩
   refine sk [3, 36, 37, 38] hs hK25 ?_
   clear hK25
   refine Zal (fun e st => ∃ (x3_k28 : Int), Ck e st B Rw L [(3, true, .val (.int .i64 x3_k28)), (36, true, .list (a0.fields.map ZdK) .none), (37, true, .val (.int .i64 ((a0.fields.length : Int)))), (38, true, .val (.int .i64 x38_l23))] [a0.cs] [] (ZbF rec n (ZaZ rec n a0 ml23) x38_l23 x3_k28 = some r)) ?_ ?_
   ·
    intro K29 hK29
    apply Zae
    obtain ⟨x31, hx31, h⟩ := bind_some h
    obtain ⟨hx31a, hx31b, hx31c⟩ := Zau hx31
    have hx31d := Zav (f := ZdK) hx31c
    have hs := And.intro hx31d hs
    refine rg [3, 5, 36, 37, 38] hs ?_
    refine rg [3, 5, 36, 37, 38, 43] hs ?_
    apply Zae
    refine rg [3, 5, 36, 37, 38, 43, 44] hs ?_
    refine cnd h hs (fun hs h => ?_) (fun hs h => ?_)
    ·
     obtain ⟨y35, hy35, h⟩ := bind_some h
     obtain ⟨hg36, h⟩ := Zad h
     refine rk 2 [3, 36, 37, 38] hs ?_
     refine Zaf _ (ih _ _ _ x31.2.2.2.1 _ hy35) (hv hs) ?_
     refine ne hs hK29 ?_
     exact ⟨(x3_l23 + y35), ([.val (.int .i64 x31.1) :: (.val (.string x31.2.1) :: (.val (.int .i64 x31.2.2.1) :: ((x31.2.2.2.1.cs) ++ ([.list (x31.2.2.2.2.map avV) .none]))))]), Rl23, ef hs, ef hs, hO, h⟩
    refine rg [3, 5, 36, 37, 38, 51] hs ?_
    refine cnd h hs (fun hs h => ?_) (fun hs h => ?_)
    ·
     obtain ⟨x39, hx39a, hx39b, hx39d, h⟩ := ix avV h
     have hx39e : (x31.2.2.2.2.map avV).getD 0 .junk = _ := hx39d
     obtain ⟨y40, hy40, h⟩ := bind_some h
     obtain ⟨hg41, h⟩ := Zad h
     have hs := And.intro hx39d hs
     have hs := And.intro hx39e hs
     refine rk 2 [3, 36, 37, 38] hs ?_
     refine Zaf _ (ZnX w0 _ _ _ x39 _ hy40) (hv hs) ?_
     refine ne hs hK29 ?_
     exact ⟨(x3_l23 + y40), ([.val (.int .i64 x31.1) :: (.val (.string x31.2.1) :: (.val (.int .i64 x31.2.2.1) :: ((x31.2.2.2.1.cs) ++ ([.list (x31.2.2.2.2.map avV) .none]))))]), Rl23, ef hs, ef hs, hO, h⟩
    refine sk [3, 36, 37, 38] hs hK29 ?_
    exact ⟨x3_l23, ([.val (.int .i64 x31.1) :: (.val (.string x31.2.1) :: (.val (.int .i64 x31.2.2.1) :: ((x31.2.2.2.1.cs) ++ ([.list (x31.2.2.2.2.map avV) .none]))))]), Rl23, ef hs, ef hs, hO, h⟩
   ·
    clear h; rintro e st ⟨x3_k28, Xk28, Rk28, rfl, rfl, hO, h⟩
    rw [ZbF] at h
    refine td hN hNR hNL hcalm hO ?_
    obtain ⟨hg42, h⟩ := Zad h
    refine rl [3, 36, 37, 38] hs (fun e s => Vl23 ml23 e s (Nat.lt_succ_self _)) ?_
    exact ⟨x3_k28, (x38_l23 + 1), ([]), Rk28, ef hs, ef hs, hO, h⟩
  refine sk [3] hs hK5 ?_
  exact ⟨1, ([]), Rw, ef hs, ef hs, hO, h⟩
 ·
  clear h; rintro e st ⟨x3_k4, Xk4, Rk4, rfl, rfl, hO, h⟩
  rw [Zbd] at h
  refine td hN hNR hNL hcalm hO ?_
  refine rg [2] hs ?_
  exact rt h hs hcalm hO
theorem Zfk (w0 : World) : ∀ n : Nat, Zed w0 (Zdd n)
 | 0 => fun _ _ _ _ _ h => (nomatch h)
 | n + 1 => Zg1 w0 (Zdd n) (Zfk w0 n) n
def Zcu (rec : Ty → Option Int) (n : Nat)  (x3_k18 : Int) : Option Int :=
 some (x3_k18)
def Zby (rec : Ty → Option Int) (n : Nat) (a0 : Ty) : Nat → Int → Int → Option Int
 | 0, _, _ => none
 | m + 1, x3_l21, x25_l21 =>
  if decide (x25_l21 < ((a0.fields.length : Int))) then
   (idx a0.fields x25_l21).bind fun x27 =>
   (rec x27.2.2.2.1).bind fun y28 =>
   if I64 (x25_l21 + 1) then
    (Zby rec n a0 m) ((if x3_l21 < y28 then y28 else x3_l21)) (x25_l21 + 1)
   else none
  else
   Zcu rec n x3_l21
def ZcB (rec : Ty → Option Int) (n : Nat) (a0 : Ty) (x3_k5 : Int) : Option Int :=
 Zby rec n a0 n x3_k5 0
def ZbU (rec : Ty → Option Int) (n : Nat) (a0 : Ty) : Nat → Int → Int → Option Int
 | 0, _, _ => none
 | m + 1, x3_l8, x13_l8 =>
  if decide (x13_l8 < ((a0.elem.length : Int))) then
   (idx a0.elem x13_l8).bind fun x14 =>
   (rec x14).bind fun y15 =>
   if I64 (x13_l8 + 1) then
    (ZbU rec n a0 m) ((if x3_l8 < y15 then y15 else x3_l8)) (x13_l8 + 1)
   else none
  else
   ZcB rec n a0 x3_l8
def Zc8 (rec : Ty → Option Int) (n : Nat) (a0 : Ty) : Option Int :=
 (Zdd n a0).bind fun y3 =>
 ZbU rec n a0 n y3 0
def Zb5 : Nat → Ty → Option Int
 | 0, _ => none
 | n + 1, a0 => Zc8 (Zb5 n) n a0
def Zc9 (w0 : World) (F : Ty → Option Int) : Prop := ∀ (B : List (List AV)) (Rw : List RowA) (L : List LoopA) (a0 : Ty) (r : Int), F a0 = some r → ACalls Tryz.prog w0 54 [.agg (a0.cs)] ⟨B, Rw, L⟩ fun x st => x = .val (.int .i64 r) ∧ st = ⟨B, Rw, L⟩
theorem Zfq (w0 : World) (rec : Ty → Option Int) (ih : Zc9 w0 rec) (n : Nat) : Zc9 w0 (Zc8 rec n) := by
 intro B Rw L a0 r h
 rw [Zc8] at h
 refine hd [.tmp 2] Tryz.func54 Tryz.ntmps54 fun M0 W0 hN hNR hNL hcalm hu hO hs => ?_
 simp only [Zan]
 refine rg [1] hs ?_
 obtain ⟨y3, hy3, h⟩ := bind_some h
 refine rc 2 [1, 3] hs ?_; intro K2 hK2
 refine Zaf _ (Zfk w0 n _ _ _ a0 _ hy3) (hv hs) ?_
 refine ne hs hK2 ?_
 clear hK2
 refine Zal (fun e st => ∃ (x3_k5 : Int), Ck e st B Rw L [(1, true, .box B.length 0), (3, true, .val (.int .i64 x3_k5))] [a0.cs] [] (ZcB rec n a0 x3_k5 = some r)) ?_ ?_
 ·
  intro K6 hK6
  refine rg [1, 3, 11, 12, 13] hs ?_
  apply Zae
  refine Zak (fun m e st => ∃ (x3_l8 : Int) (x13_l8 : Int), Ck e st B Rw L [(1, true, .box B.length 0), (3, true, .val (.int .i64 x3_l8)), (11, true, .list (a0.elem.map avT) .none), (12, true, .val (.int .i64 ((a0.elem.length : Int)))), (13, true, .val (.int .i64 x13_l8))] [a0.cs] [] (ZbU rec n a0 m x3_l8 x13_l8 = some r)) n ⟨y3, 0, ([]), Rw, ef hs, ef hs, hO, h⟩ ?_
  rintro ml8 e st ⟨x3_l8, x13_l8, Xl8, Rl8, rfl, rfl, hO, h⟩ Ul8 Vl8
  cases ml8 with
  | zero => cases h
  | succ ml8 =>
  rw [ZbU] at h
  refine td hN hNR hNL hcalm hO ?_
  refine rg [1, 3, 11, 12, 13, 14] hs ?_
  apply Zab; intro K10 hK10
  refine cnd h hs (fun hs h => ?_) (fun hs h => ?_)
  rotate_left
  ·
   refine sx [1, 3] hs hK6 ?_
   exact ⟨x3_l8, ([]), Rl8, ef hs, ef hs, hO, h⟩
  refine sk [1, 3, 11, 12, 13] hs hK10 ?_
  clear hK10
  apply Zab; intro K12 hK12
  apply Zae
  obtain ⟨x14, hx14, h⟩ := bind_some h
  obtain ⟨hx14a, hx14b, hx14c⟩ := Zau hx14
  have hx14d := Zav (f := avT) hx14c
  have hs := And.intro hx14d hs
  refine rg [1, 3, 5, 11, 12, 13] hs ?_
  obtain ⟨y15, hy15, h⟩ := bind_some h
  refine rk 2 [1, 3, 11, 12, 13] hs ?_
  refine Zaf _ (ih _ _ _ x14 _ hy15) (hv hs) ?_
  refine ne hs hK12 ?_
  clear hK12
  obtain ⟨hg16, h⟩ := Zad h
  refine rl [1, 3, 11, 12, 13] hs (fun e s => Vl8 ml8 e s (Nat.lt_succ_self _)) ?_
  exact ⟨((if x3_l8 < y15 then y15 else x3_l8)), (x13_l8 + 1), ([x14.cs]), Rl8, ef hs, ef hs, hO, h⟩
 ·
  clear h; rintro e st ⟨x3_k5, Xk5, Rk5, rfl, rfl, hO, h⟩
  rw [ZcB] at h
  refine td hN hNR hNL hcalm hO ?_
  refine Zal (fun e st => ∃ (x3_k18 : Int), Ck e st B Rw L [(3, true, .val (.int .i64 x3_k18))] [a0.cs] [] (Zcu rec n x3_k18 = some r)) ?_ ?_
  ·
   intro K19 hK19
   refine rg [3, 23, 24, 25] hs ?_
   apply Zae
   refine Zak (fun m e st => ∃ (x3_l21 : Int) (x25_l21 : Int), Ck e st B Rw L [(3, true, .val (.int .i64 x3_l21)), (23, true, .list (a0.fields.map ZdK) .none), (24, true, .val (.int .i64 ((a0.fields.length : Int)))), (25, true, .val (.int .i64 x25_l21))] [a0.cs] [] (Zby rec n a0 m x3_l21 x25_l21 = some r)) n ⟨x3_k5, 0, ([]), Rk5, ef hs, ef hs, hO, h⟩ ?_
   rintro ml21 e st ⟨x3_l21, x25_l21, Xl21, Rl21, rfl, rfl, hO, h⟩ Ul21 Vl21
   cases ml21 with
   | zero => cases h
   | succ ml21 =>
   rw [Zby] at h
   refine td hN hNR hNL hcalm hO ?_
   refine rg [3, 23, 24, 25, 26] hs ?_
   apply Zab; intro K23 hK23
   refine cnd h hs (fun hs h => ?_) (fun hs h => ?_)
   rotate_left
   ·
    refine sx [3] hs hK19 ?_
    exact ⟨x3_l21, ([]), Rl21, ef hs, ef hs, hO, h⟩
   refine sk [3, 23, 24, 25] hs hK23 ?_
   clear hK23
   apply Zab; intro K25 hK25
   apply Zae
   obtain ⟨x27, hx27, h⟩ := bind_some h
   obtain ⟨hx27a, hx27b, hx27c⟩ := Zau hx27
   have hx27d := Zav (f := ZdK) hx27c
   have hs := And.intro hx27d hs
   refine rg [3, 7, 23, 24, 25] hs ?_
   obtain ⟨y28, hy28, h⟩ := bind_some h
   refine rk 2 [3, 23, 24, 25] hs ?_
   refine Zaf _ (ih _ _ _ x27.2.2.2.1 _ hy28) (hv hs) ?_
   refine ne hs hK25 ?_
   clear hK25
   obtain ⟨hg29, h⟩ := Zad h
   refine rl [3, 23, 24, 25] hs (fun e s => Vl21 ml21 e s (Nat.lt_succ_self _)) ?_
   exact ⟨((if x3_l21 < y28 then y28 else x3_l21)), (x25_l21 + 1), ([.val (.int .i64 x27.1) :: (.val (.string x27.2.1) :: (.val (.int .i64 x27.2.2.1) :: ((x27.2.2.2.1.cs) ++ ([.list (x27.2.2.2.2.map avV) .none]))))]), Rl21, ef hs, ef hs, hO, h⟩
  ·
   clear h; rintro e st ⟨x3_k18, Xk18, Rk18, rfl, rfl, hO, h⟩
   rw [Zcu] at h
   refine td hN hNR hNL hcalm hO ?_
   refine rg [2] hs ?_
   exact rt h hs hcalm hO
theorem ZdV (w0 : World) : ∀ n : Nat, Zc9 w0 (Zb5 n)
 | 0 => fun _ _ _ _ _ h => (nomatch h)
 | n + 1 => Zfq w0 (Zb5 n) (ZdV w0 n) n
def ZdW (n : Nat) (a0 : Ty) : Option Int :=
 (ZfX n a0 1 4096).bind fun y5 =>
 if !(decide (y5.1 = 0)) then
  some (y5.1)
 else
  (Zb5 n a0).bind fun y11 =>
  if decide (4096 < y11) then
   some (9)
  else
   some (0)
theorem Zcg (w0 : World) (hT : Lib.Utf8Tabs 0 1 w0) (n : Nat) (B : List (List AV)) (Rw : List RowA) (L : List LoopA) (a0 : Ty) (r : Int) (h : ZdW n a0 = some r) :
  ACalls Tryz.prog w0 16 [.agg (a0.cs)] ⟨B, Rw, L⟩ fun x st => x = .val (.int .i64 r) ∧ st = ⟨B, Rw, L⟩ := by
 rw [ZdW] at h
 refine hd [.tmp 2] Tryz.func16 Tryz.ntmps16 fun M0 W0 hN hNR hNL hcalm hu hO hs => ?_
 simp only [Zan]
 refine rg [1] hs ?_
 refine rg [1, 3] hs ?_
 apply Zab; intro K3 hK3
 obtain ⟨y5, hy5, h⟩ := bind_some h
 refine rc 2 [1, 4] hs ?_; intro K4 hK4
 refine ZbN _ (ZiG w0 hT n _ _ _ a0 1 (B.length + 1) 4096 ev _ hy5) (hv hs) ?_; rintro _ _ ⟨rfl, rfl⟩
 refine ne hs hK4 ?_
 clear hK4
 refine rg [1, 4, 8] hs ?_
 refine cnd h hs (fun hs h => ?_) (fun hs h => ?_)
 ·
  refine rg [2] hs ?_
  exact rt h hs hcalm hO
 refine sk [1] hs hK3 ?_
 clear hK3
 apply Zab; intro K9 hK9
 obtain ⟨y11, hy11, h⟩ := bind_some h
 refine rc 2 [12] hs ?_; intro K10 hK10
 refine Zaf _ (ZdV w0 n _ _ _ a0 _ hy11) (hv hs) ?_
 refine ne hs hK10 ?_
 clear hK10
 refine cnd h hs (fun hs h => ?_) (fun hs h => ?_)
 ·
  refine rg [2] hs ?_
  exact rt h hs hcalm hO
 refine sk [] hs hK9 ?_
 clear hK9
 refine rg [2] hs ?_
 exact rt h hs hcalm hO
def Zfs (n : Nat) (a0 : Ty) (a1 : Vl) : Option Bool :=
 (ZdW n a0).bind fun y3 =>
 if decide (y3 = 0) then
  (Zd7 n a0 a1).bind fun y5 =>
  some (y5)
 else
  some (false)
theorem ZjZ (w0 : World) (hT : Lib.Utf8Tabs 0 1 w0) (n : Nat) (B : List (List AV)) (Rw : List RowA) (L : List LoopA) (a0 : Ty) (a1 : Vl) (r : Bool) (h : Zfs n a0 a1 = some r) :
  ACalls Tryz.prog w0 19 [.agg (a0.cs), .agg (a1.cs)] ⟨B, Rw, L⟩ fun x st => x = .val (.bool r) ∧ st = ⟨B, Rw, L⟩ := by
 rw [Zfs] at h
 refine hd [.tmp 4] Tryz.func19 Tryz.ntmps19 fun M0 W0 hN hNR hNL hcalm hu hO hs => ?_
 simp only [Zan]
 refine rg [2, 3] hs ?_
 apply Zab; intro K2 hK2
 obtain ⟨y3, hy3, h⟩ := bind_some h
 rcases Bool.eq_false_or_eq_true (decide (y3 = 0)) with hf4 | hf4
 ·
  replace h := ZaQ h hf4
  obtain ⟨y5, hy5, h⟩ := bind_some h
  have hs := And.intro hf4 hs
  refine rk 3 [4] hs ?_
  refine Zaf _ (Zcg w0 hT n _ _ _ a0 _ hy3) (hv hs) ?_
  refine nc hs ?_
  refine Zaf _ (ZgM w0 hT n _ _ _ a0 a1 _ hy5) (hv hs) ?_
  refine ne hs hK2 ?_
  clear hK2
  exact rt h hs hcalm hO
 ·
  replace h := ZaO h hf4
  apply Zac 3 [4]
  rw [Zaa]; simp +decide only [go_sem, Nat.reduceAdd, hf4]
  have hs := And.intro hf4 hs
  (repeat' apply And.intro) <;> first | refine Zaf _ (Zcg w0 hT n _ _ _ a0 _ hy3) (hv hs) ?_ | exact cl
  rw [Zaa]; simp +decide only [go_sem, Nat.reduceAdd, hf4]
  (repeat' apply And.intro) <;> first | refine Zay ?_ | exact cl
  rw [Zaa]; simp +decide only [go_sem, Nat.reduceAdd, hf4]
  (repeat' apply And.intro) <;> first | refine hK2 _ _ ?_ | exact cl
  clear hK2
  exact rt h hs hcalm hO
def Zd5 (a0 : Part) : Option ByteArray :=
 if decide (a0.kind = 1) then
  if ((⟨#[46]⟩ : ByteArray)).size + a0.name.size ≤ 9223372036854775807 then
   some (((⟨#[46]⟩ : ByteArray)) ++ a0.name)
  else none
 else
  if decide (a0.kind = 2) then
   if I64 (a0.index) then
    if ((⟨#[91]⟩ : ByteArray)).size + ((⟨(Lib.itoa a0.index).toArray⟩ : ByteArray)).size ≤ 9223372036854775807 then
     if (((⟨#[91]⟩ : ByteArray)) ++ ((⟨(Lib.itoa a0.index).toArray⟩ : ByteArray))).size + ((⟨#[93]⟩ : ByteArray)).size ≤ 9223372036854775807 then
      some ((((⟨#[91]⟩ : ByteArray)) ++ ((⟨(Lib.itoa a0.index).toArray⟩ : ByteArray))) ++ ((⟨#[93]⟩ : ByteArray)))
     else none
    else none
   else none
  else
   if decide (a0.kind = 3) then
    some ((⟨#[91, 42, 93]⟩ : ByteArray))
   else
    if ((⟨#[63]⟩ : ByteArray)).size + a0.name.size ≤ 9223372036854775807 then
     some (((⟨#[63]⟩ : ByteArray)) ++ a0.name)
    else none
theorem Zim (w0 : World) (hP : Pow10 w0) (B : List (List AV)) (Rw : List RowA) (L : List LoopA) (a0 : Part) (r : ByteArray) (h : Zd5 a0 = some r) :
  ACalls Tryz.prog w0 115 [.agg (.val (.int .i64 a0.kind) :: (.val (.int .i64 a0.index) :: ([.val (.string a0.name)])))] ⟨B, Rw, L⟩ fun x st => x = .val (.string r) ∧ st = ⟨B, Rw, L⟩ := by
 rw [Zd5] at h
 refine hd [.tmp 2] Tryz.func115 Tryz.ntmps115 fun M0 W0 hN hNR hNL hcalm hu hO hs => ?_
 simp only [Zan]
 refine rg [1] hs ?_
 apply Zab; intro K2 hK2
 refine rg [1, 4] hs ?_
 apply Zae
 refine rg [1, 4, 5] hs ?_
 refine cnd h hs (fun hs h => ?_) (fun hs h => ?_)
 ·
  obtain ⟨hg7, h⟩ := Zad h
  have hg7s := hg7
  try simp +decide only [go_sem] at hg7s
  refine rg [2] hs ?_
  exact rt h hs hcalm hO
 refine rg [1, 4, 10] hs ?_
 refine cnd h hs (fun hs h => ?_) (fun hs h => ?_)
 ·
  obtain ⟨hg11, h⟩ := Zad h
  obtain ⟨hg12, h⟩ := Zad h
  have hg12s := hg12
  try simp +decide only [go_sem] at hg12s
  obtain ⟨hg13, h⟩ := Zad h
  have hg13s := hg13
  try simp +decide only [go_sem] at hg13s
  refine rc 2 [2] hs ?_; intro K10 hK10
  refine Zaf _ (ZoA w0 _ _ _ hP a0.index hg11) (hv hs) ?_
  refine ne hs hK10 ?_
  clear hK10
  exact rt h hs hcalm hO
 refine rg [1, 17] hs ?_
 refine cnd h hs (fun hs h => ?_) (fun hs h => ?_)
 ·
  refine rg [2] hs ?_
  exact rt h hs hcalm hO
 refine sk [1] hs hK2 ?_
 clear hK2
 obtain ⟨hg18, h⟩ := Zad h
 have hg18s := hg18
 try simp +decide only [go_sem] at hg18s
 refine rg [2] hs ?_
 exact rt h hs hcalm hO
def Zcw (a0 : Part) (x5_k5 : Bool) : Option Bool :=
 if x5_k5 then
  if decide (a0.index = 0) then
   if a0.name.size ≤ maxLen then
    some (Zjl a0.name)
   else none
  else
   some (false)
 else
  if decide (a0.kind = 2) then
   some (((sEq a0.name ((⟨#[]⟩ : ByteArray))) && (decide (0 ≤ a0.index))) && (decide (a0.index < 256)))
  else
   if decide (a0.kind = 3) then
    some ((sEq a0.name ((⟨#[]⟩ : ByteArray))) && (decide (a0.index = 0)))
   else
    some (false)
def ZdJ (a0 : Part) : Option Bool :=
 if decide (a0.kind = 1) then
  Zcw a0 true
 else
  Zcw a0 (decide (a0.kind = 4))
theorem Zhy (w0 : World) (B : List (List AV)) (Rw : List RowA) (L : List LoopA) (a0 : Part) (r : Bool) (h : ZdJ a0 = some r) :
  ACalls Tryz.prog w0 114 [.agg (.val (.int .i64 a0.kind) :: (.val (.int .i64 a0.index) :: ([.val (.string a0.name)])))] ⟨B, Rw, L⟩ fun x st => x = .val (.bool r) ∧ st = ⟨B, Rw, L⟩ := by
 rw [ZdJ] at h
 refine hd [.tmp 2] Tryz.func114 Tryz.ntmps114 fun M0 W0 hN hNR hNL hcalm hu hO hs => ?_
 simp only [Zan]
 refine rg [1] hs ?_
 apply Zab; intro K2 hK2
 refine rg [1, 4] hs ?_
 apply Zae
 refine Zal (fun e st => ∃ (x5_k5 : Bool), Ck e st B Rw L [(1, true, .box B.length 0), (4, true, .val (.int .i64 a0.kind)), (5, true, .val (.bool x5_k5))] [.val (.int .i64 a0.kind) :: (.val (.int .i64 a0.index) :: ([.val (.string a0.name)]))] [] (Zcw a0 x5_k5 = some r)) ?_ ?_
 ·
  intro K6 hK6
  refine rg [1, 4, 5] hs ?_
  refine cnd h hs (fun hs h => ?_) (fun hs h => ?_)
  ·
   refine sk [1, 4, 5] hs hK6 ?_
   exact ⟨true, ([]), Rw, ef hs, ef hs, hO, h⟩
  refine rl [1, 4, 5] hs hK6 ?_
  exact ⟨(decide (a0.kind = 4)), ([]), Rw, ef hs, ef hs, hO, h⟩
 ·
  clear h; rintro e st ⟨x5_k5, Xk5, Rk5, rfl, rfl, hO, h⟩
  rw [Zcw] at h
  refine td hN hNR hNL hcalm hO ?_
  refine cnd h hs (fun hs h => ?_) (fun hs h => ?_)
  ·
   have hb9 := hs.1
   apply Zab; intro K10 hK10
   rcases Bool.eq_false_or_eq_true (decide (a0.index = 0)) with hf11 | hf11
   ·
    replace h := ZaQ h hf11
    obtain ⟨hg12, h⟩ := Zad h
    have hs := And.intro hf11 hs
    refine rk 2 [2] hs ?_
    refine Zaf _ (ZfE w0 _ _ _ a0.name hg12) (hv hs) ?_
    refine ne hs hK10 ?_
    clear hK10
    exact rt h hs hcalm hO
   ·
    replace h := ZaO h hf11
    apply Zac 2 [2]
    rw [Zaa]; simp +decide only [go_sem, Nat.reduceAdd, hb9, hf11]
    (repeat' apply And.intro) <;> first | refine Zay ?_ | exact cl
    rw [Zaa]; simp +decide only [go_sem, Nat.reduceAdd, hb9, hf11]
    (repeat' apply And.intro) <;> first | refine hK10 _ _ ?_ | exact cl
    clear hK10
    have hs := And.intro hf11 hs
    exact rt h hs hcalm hO
  have hb9 := hs.1
  refine rg [1, 4, 16] hs ?_
  refine cnd h hs (fun hs h => ?_) (fun hs h => ?_)
  ·
   refine rg [2] hs ?_
   exact rt h hs hcalm hO
  refine rg [1, 31] hs ?_
  refine cnd h hs (fun hs h => ?_) (fun hs h => ?_)
  ·
   refine rg [2] hs ?_
   exact rt h hs hcalm hO
  refine sk [] hs hK2 ?_
  clear hK2
  refine rg [2] hs ?_
  exact rt h hs hcalm hO
def ZfA (n : Nat)  (x3_k12 : Int) : Option Int :=
 if decide (200 < x3_k12) then
  some (3)
 else
  some (0)
def Zek (n : Nat) (a0 : List Part) : Nat → Int → Int → Option Int
 | 0, _, _ => none
 | m + 1, x3_l15, x23_l15 =>
  if decide (x23_l15 < ((a0.length : Int))) then
   (idx a0 x23_l15).bind fun x21 =>
   (ZdJ x21).bind fun y24 =>
   if !y24 then
    some (3)
   else
    (Zd5 x21).bind fun y27 =>
    if I64 (x3_l15 + ((y27.size : Int))) then
     if I64 (x23_l15 + 1) then
      (Zek n a0 m) (x3_l15 + ((y27.size : Int))) (x23_l15 + 1)
     else none
    else none
  else
   ZfA n x3_l15
def ZhO (n : Nat) (a0 : List Part) : Option Int :=
 if (decide (((a0.length : Int)) < 1)) || (decide (16 < ((a0.length : Int)))) then
  some (3)
 else
  (idx a0 0).bind fun x7 =>
  if !(decide (x7.kind = 1)) then
   some (3)
  else
   Zek n a0 n ((-1)) 0
theorem Zl9 (w0 : World) (hP : Pow10 w0) (n : Nat) (B : List (List AV)) (Rw : List RowA) (L : List LoopA) (a0 : List Part) (r : Int) (h : ZhO n a0 = some r) :
  ACalls Tryz.prog w0 64 [.list (a0.map ZiA) .none] ⟨B, Rw, L⟩ fun x st => x = .val (.int .i64 r) ∧ st = ⟨B, Rw, L⟩ := by
 rw [ZhO] at h
 refine hd [.tmp 2] Tryz.func64 Tryz.ntmps64 fun M0 W0 hN hNR hNL hcalm hu hO hs => ?_
 simp only [Zan]
 refine rg [0] hs ?_
 apply Zab; intro K2 hK2
 apply Zab; intro K3 hK3
 rcases Bool.eq_false_or_eq_true ((decide (((a0.length : Int)) < 1)) || (decide (16 < ((a0.length : Int))))) with hf4 | hf4
 ·
  replace h := ZaQ h hf4
  have hs := And.intro hf4 hs
  refine rl [0, 20] hs hK3 ?_
  clear hK3
  refine Zar true ev (ef hs) (fun hb5 => ?_) (fun hb5 => by cases hb5)
  refine rg [2] hs ?_
  exact rt h hs hcalm hO
 ·
  replace h := ZaO h hf4
  obtain ⟨x7, hx7a, hx7b, hx7d, h⟩ := ix ZiA h
  have hx7e : (a0.map ZiA).getD 0 .junk = _ := hx7d
  have hs := And.intro hf4 hs
  have hs := And.intro hx7d hs
  have hs := And.intro hx7e hs
  refine rl [0, 20] hs hK3 ?_
  clear hK3
  refine cnd h hs (fun hs h => ?_) (fun hs h => ?_)
  ·
   refine rg [2] hs ?_
   exact rt h hs hcalm hO
  refine sk [0] hs hK2 ?_
  clear hK2
  refine rg [0, 3] hs ?_
  refine Zal (fun e st => ∃ (x3_k12 : Int), Ck e st B Rw L [(3, true, .val (.int .i64 x3_k12))] [] [] (ZfA n x3_k12 = some r)) ?_ ?_
  ·
   intro K13 hK13
   refine rg [3, 21, 22, 23] hs ?_
   apply Zae
   refine Zak (fun m e st => ∃ (x3_l15 : Int) (x23_l15 : Int), Ck e st B Rw L [(3, true, .val (.int .i64 x3_l15)), (21, true, .list (a0.map ZiA) .none), (22, true, .val (.int .i64 ((a0.length : Int)))), (23, true, .val (.int .i64 x23_l15))] [] [] (Zek n a0 m x3_l15 x23_l15 = some r)) n ⟨((-1)), 0, ([]), Rw, ef hs, ef hs, hO, h⟩ ?_
   rintro ml15 e st ⟨x3_l15, x23_l15, Xl15, Rl15, rfl, rfl, hO, h⟩ Ul15 Vl15
   cases ml15 with
   | zero => cases h
   | succ ml15 =>
   rw [Zek] at h
   refine td hN hNR hNL hcalm hO ?_
   refine rg [3, 21, 22, 23, 24] hs ?_
   apply Zab; intro K17 hK17
   refine cnd h hs (fun hs h => ?_) (fun hs h => ?_)
   rotate_left
   ·
    refine sx [3] hs hK13 ?_
    exact ⟨x3_l15, ([]), Rl15, ef hs, ef hs, hO, h⟩
   refine sk [3, 21, 22, 23] hs hK17 ?_
   clear hK17
   apply Zab; intro K19 hK19
   apply Zae
   obtain ⟨x21, hx21, h⟩ := bind_some h
   obtain ⟨hx21a, hx21b, hx21c⟩ := Zau hx21
   have hx21d := Zav (f := ZiA) hx21c
   have hs := And.intro hx21d hs
   refine rg [3, 5, 21, 22, 23] hs ?_
   apply Zab; intro K22 hK22
   obtain ⟨y24, hy24, h⟩ := bind_some h
   refine rc 2 [3, 5, 21, 22, 23, 29] hs ?_; intro K23 hK23
   refine Zaf _ (Zhy w0 _ _ _ x21 _ hy24) (hv hs) ?_
   refine ne hs hK23 ?_
   clear hK23
   refine cnd h hs (fun hs h => ?_) (fun hs h => ?_)
   ·
    refine rg [2] hs ?_
    exact rt h hs hcalm hO
   refine sk [3, 5, 21, 22, 23] hs hK22 ?_
   clear hK22
   obtain ⟨y27, hy27, h⟩ := bind_some h
   obtain ⟨hg28, h⟩ := Zad h
   refine rk 2 [3, 21, 22, 23] hs ?_
   refine Zaf _ (Zim w0 hP _ _ _ x21 _ hy27) (hv hs) ?_
   refine ne hs hK19 ?_
   clear hK19
   obtain ⟨hg29, h⟩ := Zad h
   refine rl [3, 21, 22, 23] hs (fun e s => Vl15 ml15 e s (Nat.lt_succ_self _)) ?_
   exact ⟨(x3_l15 + ((y27.size : Int))), (x23_l15 + 1), ([.val (.int .i64 x21.kind) :: (.val (.int .i64 x21.index) :: ([.val (.string x21.name)]))]), Rl15, ef hs, ef hs, hO, h⟩
  ·
   clear h; rintro e st ⟨x3_k12, Xk12, Rk12, rfl, rfl, hO, h⟩
   rw [ZfA] at h
   refine td hN hNR hNL hcalm hO ?_
   apply Zab; intro K30 hK30
   refine rg [37] hs ?_
   refine cnd h hs (fun hs h => ?_) (fun hs h => ?_)
   ·
    refine rg [2] hs ?_
    exact rt h hs hcalm hO
   refine sk [] hs hK30 ?_
   clear hK30
   refine rg [2] hs ?_
   exact rt h hs hcalm hO
def Zjm (n : Nat) (a0 : Ty) (a1 : Part) : Option (Ty × Bool × Int) :=
 (idx ([0, 9, 8, 8, 10]) a1.kind).bind fun x3 =>
 if !(decide (a0.kind = x3)) then
  some ((Ty.mk 0 0 0 0 ([]) ([]) ([]), false, 11))
 else
  if decide (a1.kind = 3) then
   (idx a0.elem 0).bind fun x13 =>
   some ((x13, decide (a0.min = 0), 0))
  else
   if decide (a1.kind = 2) then
    if decide (a0.max ≤ a1.index) then
     some ((Ty.mk 0 0 0 0 ([]) ([]) ([]), false, 2))
    else
     (idx a0.elem 0).bind fun x21 =>
     some ((x21, decide (a0.min ≤ a1.index), 0))
   else
    (ZeD n a0 a1.name).bind fun y23 =>
    if !y23.2 then
     some ((Ty.mk 0 0 0 0 ([]) ([]) ([]), false, 21))
    else
     if decide (a1.kind = 4) then
      some ((y23.1.2.2.2.1, decide (1 < ((a0.fields.length : Int))), 0))
     else
      some ((y23.1.2.2.2.1, decide (y23.1.2.2.1 = 2), 0))
theorem Znx (w0 : World) (n : Nat) (B : List (List AV)) (Rw : List RowA) (L : List LoopA) (a0 : Ty) (a1 : Part) (r : Ty × Bool × Int) (h : Zjm n a0 a1 = some r) :
  ACalls Tryz.prog w0 65 [.agg (a0.cs), .agg (.val (.int .i64 a1.kind) :: (.val (.int .i64 a1.index) :: ([.val (.string a1.name)])))] ⟨B, Rw, L⟩ fun x st => x = .tup [.agg (r.1.cs), .val (.bool r.2.1), .val (.int .i64 r.2.2)] ∧ st = ⟨B, Rw, L⟩ := by
 rw [Zjm] at h
 refine hd [.cell 4 26, .tmp 5, .tmp 6] Tryz.func65 Tryz.ntmps65 fun M0 W0 hN hNR hNL hcalm hu hO hs => ?_
 simp only [Zan]
 refine rg [2, 3, 4] hs ?_
 apply Zab; intro K2 hK2
 obtain ⟨x3, hx3a, hx3b, hx3d, h⟩ := ix avI h
 simp only [List.map_cons, List.map_nil, ZdZ] at hx3d
 have hx3n : ([0, 9, 8, 8, 10]).length = 5 := rfl
 first | rw [hx3n] at hx3b | simp only [List.length_cons, List.length_nil, Nat.reduceAdd, Nat.zero_add] at hx3b
 apply Zac 1 [2, 3, 4, 7]
 rw [Zaa]; simp +decide only [go_sem, Nat.reduceAdd, hx3d, ZaP, Zax, Zas, List.getElem?_cons_zero, List.getElem?_cons_succ, List.nil_append, List.cons_append, Nat.mul_one]
 (repeat' apply And.intro) <;> first | refine hK2 _ _ ?_ | exact cl
 clear hK2
 apply Zab; intro K4 hK4
 have hs := And.intro hx3d hs
 refine rg [2, 3, 4, 17] hs ?_
 refine cnd h hs (fun hs h => ?_) (fun hs h => ?_)
 ·
  have hb6 := hs.1
  apply Zab; intro K7 hK7
  apply Zac 1 [4, 5, 6]
  rw [Zaa]; simp +decide only [go_sem, Nat.reduceAdd, hx3d, hb6, ZaP, Zax, Zas]
  (repeat' apply And.intro) <;> first | refine hK7 _ _ ?_ | exact cl
  clear hK7
  exact rt h hs hcalm hO
 have hb6 := hs.1
 refine sk [2, 3, 4] hs hK4 ?_
 clear hK4
 apply Zab; intro K8 hK8
 refine rg [2, 3, 4, 20] hs ?_
 apply Zae
 refine rg [2, 3, 4, 20, 21] hs ?_
 refine cnd h hs (fun hs h => ?_) (fun hs h => ?_)
 ·
  have hb11 := hs.1
  apply Zab; intro K12 hK12
  obtain ⟨x13, hx13a, hx13b, hx13d, h⟩ := ix avT h
  have hx13e : (a0.elem.map avT).getD 0 .junk = _ := hx13d
  apply ZgC mix [7] [4, 5, 6] (by kernel_rfl) (fun s => ∃ (X : List (List AV)) (rows : List RowA) (c2 : List AV), s = ⟨B ++ ([a0.cs, .val (.int .i64 a1.kind) :: (.val (.int .i64 a1.index) :: ([.val (.string a1.name)])), c2] ++ X), rows, L⟩) 2 (B.length + 3)
  ·
   simp +decide only [go_sem, Nat.reduceAdd]
  ·
   rintro s ⟨X, rows, c2, rfl⟩
   refine ⟨1, ?_⟩
   rw [Zaa]; simp +decide only [go_sem, Nat.reduceAdd, ZdT, hx3d, hb6, hb11, hx13d, hx13e]
   (repeat' apply And.intro) <;> first | rfl | exact cl
  ·
   refine Good.mk [7] (by kernel_rfl) ⟨[], _, _, by first | rfl | simp only [List.append_nil, List.nil_append]⟩ ?_ ?_
   ·
    intro h; exact absurd h (by decide)
   ·
    intro i hi; simp only [List.mem_cons, List.not_mem_nil, or_false] at hi
    subst hi
    ·
     apply Zba rfl rfl ev
     ·
      simp +decide only [go_sem, Nat.reduceAdd, Zcd, hx3d, hb6, hb11, hx13d, hx13e]
      (repeat' apply And.intro) <;> first | rfl | exact cl
     ·
      simp +decide only [go_sem, Nat.reduceAdd, hx3d, hb6, hb11, hx13d, hx13e]
      refine Good.mk [] (by kernel_rfl) ⟨[], _, _, by first | rfl | simp only [List.append_nil, List.nil_append]⟩ ?_ ?_
      ·
       intro _; apply ZdL [4, 5, 6]; first | (simp +decide only [go_sem, Nat.reduceAdd, hx3d, hb6, hb11, hx13d, hx13e]; done) | (simp +decide only [go_sem, Nat.reduceAdd, hx3d, hb6, hb11, hx13d, hx13e]; rfl)
      ·
       intro i hi; cases hi
  simp +decide only [go_sem, Nat.reduceAdd, hx3d, hb6, hb11, hx13d, hx13e]
  (repeat' apply And.intro) <;> first | refine hK12 _ _ ?_ | exact cl
  clear hK12
  have hs := And.intro hx13d hs
  have hs := And.intro hx13e hs
  exact rt h hs hcalm hO
 have hb11 := hs.1
 refine rg [2, 3, 4, 30] hs ?_
 refine cnd h hs (fun hs h => ?_) (fun hs h => ?_)
 ·
  have hb15 := hs.1
  apply Zab; intro K16 hK16
  refine rg [2, 3, 4, 36] hs ?_
  refine cnd h hs (fun hs h => ?_) (fun hs h => ?_)
  ·
   have hb18 := hs.1
   apply Zab; intro K19 hK19
   apply Zac 1 [4, 5, 6]
   rw [Zaa]; simp +decide only [go_sem, Nat.reduceAdd, hx3d, hb6, hb11, hb15, hb18, ZaP, Zax, Zas]
   (repeat' apply And.intro) <;> first | refine hK19 _ _ ?_ | exact cl
   clear hK19
   exact rt h hs hcalm hO
  have hb18 := hs.1
  refine sk [2, 3, 4] hs hK16 ?_
  clear hK16
  apply Zab; intro K20 hK20
  obtain ⟨x21, hx21a, hx21b, hx21d, h⟩ := ix avT h
  have hx21e : (a0.elem.map avT).getD 0 .junk = _ := hx21d
  apply ZgC mix [9] [4, 5, 6] (by kernel_rfl) (fun s => ∃ (X : List (List AV)) (rows : List RowA) (c2 : List AV), s = ⟨B ++ ([a0.cs, .val (.int .i64 a1.kind) :: (.val (.int .i64 a1.index) :: ([.val (.string a1.name)])), c2] ++ X), rows, L⟩) 2 (B.length + 3)
  ·
   simp +decide only [go_sem, Nat.reduceAdd]
  ·
   rintro s ⟨X, rows, c2, rfl⟩
   refine ⟨1, ?_⟩
   rw [Zaa]; simp +decide only [go_sem, Nat.reduceAdd, ZdT, hx3d, hb6, hb11, hb15, hb18, hx21d, hx21e]
   (repeat' apply And.intro) <;> first | rfl | exact cl
  ·
   refine Good.mk [9] (by kernel_rfl) ⟨[], _, _, by first | rfl | simp only [List.append_nil, List.nil_append]⟩ ?_ ?_
   ·
    intro h; exact absurd h (by decide)
   ·
    intro i hi; simp only [List.mem_cons, List.not_mem_nil, or_false] at hi
    subst hi
    ·
     apply Zba rfl rfl ev
     ·
      simp +decide only [go_sem, Nat.reduceAdd, Zcd, hx3d, hb6, hb11, hb15, hb18, hx21d, hx21e]
      (repeat' apply And.intro) <;> first | rfl | exact cl
     ·
      simp +decide only [go_sem, Nat.reduceAdd, hx3d, hb6, hb11, hb15, hb18, hx21d, hx21e]
      refine Good.mk [] (by kernel_rfl) ⟨[], _, _, by first | rfl | simp only [List.append_nil, List.nil_append]⟩ ?_ ?_
      ·
       intro _; apply ZdL [4, 5, 6]; first | (simp +decide only [go_sem, Nat.reduceAdd, hx3d, hb6, hb11, hb15, hb18, hx21d, hx21e]; done) | (simp +decide only [go_sem, Nat.reduceAdd, hx3d, hb6, hb11, hb15, hb18, hx21d, hx21e]; rfl)
      ·
       intro i hi; cases hi
  simp +decide only [go_sem, Nat.reduceAdd, hx3d, hb6, hb11, hb15, hb18, hx21d, hx21e]
  (repeat' apply And.intro) <;> first | refine hK20 _ _ ?_ | exact cl
  clear hK20
  have hs := And.intro hx21d hs
  have hs := And.intro hx21e hs
  exact rt h hs hcalm hO
 have hb15 := hs.1
 refine sk [2, 3, 4] hs hK8 ?_
 clear hK8
 obtain ⟨y23, hy23, h⟩ := bind_some h
 refine rc 2 [2, 3, 4, 8, 9] hs ?_; intro K22 hK22
 refine Zaf _ (ZgK w0 n _ _ _ a0 a1.name _ hy23) (hv hs) ?_
 refine ne hs hK22 ?_
 clear hK22
 apply Zab; intro K24 hK24
 refine rg [2, 3, 4, 8, 55] hs ?_
 refine cnd h hs (fun hs h => ?_) (fun hs h => ?_)
 ·
  have hb26 := hs.1
  apply Zab; intro K27 hK27
  apply Zac 1 [4, 5, 6]
  rw [Zaa]; simp +decide only [go_sem, Nat.reduceAdd, hx3d, hb6, hb11, hb15, hb26, ZaP, Zax, Zas]
  (repeat' apply And.intro) <;> first | refine hK27 _ _ ?_ | exact cl
  clear hK27
  exact rt h hs hcalm hO
 have hb26 := hs.1
 refine sk [2, 3, 4, 8] hs hK24 ?_
 clear hK24
 apply Zab; intro K28 hK28
 refine rg [2, 4, 8, 59] hs ?_
 refine cnd h hs (fun hs h => ?_) (fun hs h => ?_)
 ·
  have hb30 := hs.1
  apply Zab; intro K31 hK31
  apply ZgC mix [6] [4, 5, 6] (by kernel_rfl) (fun s => ∃ (X : List (List AV)) (rows : List RowA) (c2 : List AV), s = ⟨B ++ ([a0.cs, .val (.int .i64 a1.kind) :: (.val (.int .i64 a1.index) :: ([.val (.string a1.name)])), c2, .val (.int .i64 y23.1.1) :: (.val (.string y23.1.2.1) :: (.val (.int .i64 y23.1.2.2.1) :: ((y23.1.2.2.2.1.cs) ++ ([.list (y23.1.2.2.2.2.map avV) .none]))))] ++ X), rows, L⟩) 2 (B.length + 4)
  ·
   simp +decide only [go_sem, Nat.reduceAdd]
  ·
   rintro s ⟨X, rows, c2, rfl⟩
   refine ⟨1, ?_⟩
   rw [Zaa]; simp +decide only [go_sem, Nat.reduceAdd, ZdT, hx3d, hb6, hb11, hb15, hb26, hb30]
   (repeat' apply And.intro) <;> first | rfl | exact cl
  ·
   refine Good.mk [6] (by kernel_rfl) ⟨[], _, _, by first | rfl | simp only [List.append_nil, List.nil_append]⟩ ?_ ?_
   ·
    intro h; exact absurd h (by decide)
   ·
    intro i hi; simp only [List.mem_cons, List.not_mem_nil, or_false] at hi
    subst hi
    ·
     apply Zba rfl rfl ev
     ·
      simp +decide only [go_sem, Nat.reduceAdd, Zcd, hx3d, hb6, hb11, hb15, hb26, hb30]
      (repeat' apply And.intro) <;> first | rfl | exact cl
     ·
      simp +decide only [go_sem, Nat.reduceAdd, hx3d, hb6, hb11, hb15, hb26, hb30]
      refine Good.mk [] (by kernel_rfl) ⟨[], _, _, by first | rfl | simp only [List.append_nil, List.nil_append]⟩ ?_ ?_
      ·
       intro _; apply ZdL [4, 5, 6]; first | (simp +decide only [go_sem, Nat.reduceAdd, hx3d, hb6, hb11, hb15, hb26, hb30]; done) | (simp +decide only [go_sem, Nat.reduceAdd, hx3d, hb6, hb11, hb15, hb26, hb30]; rfl)
      ·
       intro i hi; cases hi
  simp +decide only [go_sem, Nat.reduceAdd, hx3d, hb6, hb11, hb15, hb26, hb30]
  (repeat' apply And.intro) <;> first | refine hK31 _ _ ?_ | exact cl
  clear hK31
  exact rt h hs hcalm hO
 have hb30 := hs.1
 refine sk [4, 8] hs hK28 ?_
 clear hK28
 apply Zab; intro K32 hK32
 apply ZgC mix [5] [4, 5, 6] (by kernel_rfl) (fun s => ∃ (X : List (List AV)) (rows : List RowA) (c2 : List AV), s = ⟨B ++ ([a0.cs, .val (.int .i64 a1.kind) :: (.val (.int .i64 a1.index) :: ([.val (.string a1.name)])), c2, .val (.int .i64 y23.1.1) :: (.val (.string y23.1.2.1) :: (.val (.int .i64 y23.1.2.2.1) :: ((y23.1.2.2.2.1.cs) ++ ([.list (y23.1.2.2.2.2.map avV) .none]))))] ++ X), rows, L⟩) 2 (B.length + 4)
 ·
  simp +decide only [go_sem, Nat.reduceAdd]
 ·
  rintro s ⟨X, rows, c2, rfl⟩
  refine ⟨1, ?_⟩
  rw [Zaa]; simp +decide only [go_sem, Nat.reduceAdd, ZdT, hx3d, hb6, hb11, hb15, hb26, hb30]
  (repeat' apply And.intro) <;> first | rfl | exact cl
 ·
  refine Good.mk [5] (by kernel_rfl) ⟨[], _, _, by first | rfl | simp only [List.append_nil, List.nil_append]⟩ ?_ ?_
  ·
   intro h; exact absurd h (by decide)
  ·
   intro i hi; simp only [List.mem_cons, List.not_mem_nil, or_false] at hi
   subst hi
   ·
    apply Zba rfl rfl ev
    ·
     simp +decide only [go_sem, Nat.reduceAdd, Zcd, hx3d, hb6, hb11, hb15, hb26, hb30]
     (repeat' apply And.intro) <;> first | rfl | exact cl
    ·
     simp +decide only [go_sem, Nat.reduceAdd, hx3d, hb6, hb11, hb15, hb26, hb30]
     refine Good.mk [] (by kernel_rfl) ⟨[], _, _, by first | rfl | simp only [List.append_nil, List.nil_append]⟩ ?_ ?_
     ·
      intro _; apply ZdL [4, 5, 6]; first | (simp +decide only [go_sem, Nat.reduceAdd, hx3d, hb6, hb11, hb15, hb26, hb30]; done) | (simp +decide only [go_sem, Nat.reduceAdd, hx3d, hb6, hb11, hb15, hb26, hb30]; rfl)
     ·
      intro i hi; cases hi
 simp +decide only [go_sem, Nat.reduceAdd, hx3d, hb6, hb11, hb15, hb26, hb30]
 (repeat' apply And.intro) <;> first | refine hK32 _ _ ?_ | exact cl
 clear hK32
 exact rt h hs hcalm hO
def Zjt (n : Nat)  (x5_k16 : Bool) (b1_k16 : Ty) : Option (Ty × Bool × Int) :=
 (Zb3 n b1_k16).bind fun y34 =>
 some ((y34, x5_k16, 0))
def Zg8 (n : Nat) (a1 : List Part) : Nat → Bool → Int → Ty → Option (Ty × Bool × Int)
 | 0, _, _, _ => none
 | m + 1, x5_l19, x29_l19, b1_l19 =>
  if decide (x29_l19 < ((a1.length : Int))) then
   (idx a1 x29_l19).bind fun x25 =>
   (Zjm n b1_l19 x25).bind fun y27 =>
   if !(decide (y27.2.2 = 0)) then
    some ((Ty.mk 0 0 0 0 ([]) ([]) ([]), false, y27.2.2))
   else
    if I64 (x29_l19 + 1) then
     (Zg8 n a1 m) (x5_l19 || y27.2.1) (x29_l19 + 1) y27.1
    else none
  else
   Zjt n x5_l19 b1_l19
def Zm9 (n : Nat) (a0 : Ty) (a1 : List Part) : Option (Ty × Bool × Int) :=
 (ZdW n a0).bind fun y4 =>
 if !(decide (y4 = 0)) then
  some ((Ty.mk 0 0 0 0 ([]) ([]) ([]), false, y4))
 else
  (ZhO n a1).bind fun y10 =>
  if !(decide (y10 = 0)) then
   some ((Ty.mk 0 0 0 0 ([]) ([]) ([]), false, y10))
  else
   Zg8 n a1 n false 0 a0
theorem ZqK (w0 : World) (hP : Pow10 w0) (hT : Lib.Utf8Tabs 0 1 w0) (n : Nat) (B : List (List AV)) (Rw : List RowA) (L : List LoopA) (a0 : Ty) (a1 : List Part) (r : Ty × Bool × Int) (h : Zm9 n a0 a1 = some r) :
  ACalls Tryz.prog w0 26 [.agg (a0.cs), .list (a1.map ZiA) .none] ⟨B, Rw, L⟩ fun x st => x = .tup [.agg (r.1.cs), .val (.bool r.2.1), .val (.int .i64 r.2.2)] ∧ st = ⟨B, Rw, L⟩ := by
 rw [Zm9] at h
 refine hd [.cell 4 26, .tmp 5, .tmp 6] Tryz.func26 Tryz.ntmps26 fun M0 W0 hN hNR hNL hcalm hu hO hs => ?_
 simp only [Zan]
 refine rg [1, 2, 4, 5] hs ?_
 apply Zab; intro K2 hK2
 obtain ⟨y4, hy4, h⟩ := bind_some h
 refine rc 2 [1, 2, 4, 5, 7] hs ?_; intro K3 hK3
 refine Zaf _ (Zcg w0 hT n _ _ _ a0 _ hy4) (hv hs) ?_
 refine ne hs hK3 ?_
 clear hK3
 refine rg [1, 2, 4, 5, 7, 17] hs ?_
 refine cnd h hs (fun hs h => ?_) (fun hs h => ?_)
 ·
  have hb6 := hs.1
  apply Zab; intro K7 hK7
  apply Zac 1 [4, 5, 6]
  rw [Zaa]; simp +decide only [go_sem, Nat.reduceAdd, hb6, ZaP, Zax, Zas]
  (repeat' apply And.intro) <;> first | refine hK7 _ _ ?_ | exact cl
  clear hK7
  exact rt h hs hcalm hO
 have hb6 := hs.1
 refine sk [1, 2, 4, 5] hs hK2 ?_
 clear hK2
 apply Zab; intro K8 hK8
 obtain ⟨y10, hy10, h⟩ := bind_some h
 refine rc 2 [1, 2, 4, 5, 8] hs ?_; intro K9 hK9
 refine Zaf _ (Zl9 w0 hP n _ _ _ a1 _ hy10) (hv hs) ?_
 refine ne hs hK9 ?_
 clear hK9
 refine rg [1, 2, 4, 5, 8, 23] hs ?_
 refine cnd h hs (fun hs h => ?_) (fun hs h => ?_)
 ·
  have hb12 := hs.1
  apply Zab; intro K13 hK13
  apply Zac 1 [4, 5, 6]
  rw [Zaa]; simp +decide only [go_sem, Nat.reduceAdd, hb6, hb12, ZaP, Zax, Zas]
  (repeat' apply And.intro) <;> first | refine hK13 _ _ ?_ | exact cl
  clear hK13
  exact rt h hs hcalm hO
 have hb12 := hs.1
 refine sk [1, 2, 4, 5] hs hK8 ?_
 clear hK8
 refine rg [1, 4, 5] hs ?_
 refine Zal (fun e st => ∃ (x5_k16 : Bool) (b1_k16 : Ty) (cb1_k16 : List AV), Ck e st B Rw L [(4, true, .box (B.length + 1) 0), (5, true, .val (.bool x5_k16))] [a0.cs, cb1_k16] [] (cb1_k16.map AV.pubCell = b1_k16.cs ∧ Zjt n x5_k16 b1_k16 = some r)) ?_ ?_
 ·
  intro K17 hK17
  refine rg [4, 5, 27, 28, 29] hs ?_
  apply Zae
  refine Zak (fun m e st => ∃ (x5_l19 : Bool) (x29_l19 : Int) (b1_l19 : Ty) (cb1_l19 : List AV), Ck e st B Rw L [(4, true, .box (B.length + 1) 0), (5, true, .val (.bool x5_l19)), (27, true, .list (a1.map ZiA) .none), (28, true, .val (.int .i64 ((a1.length : Int)))), (29, true, .val (.int .i64 x29_l19))] [a0.cs, cb1_l19] [] (cb1_l19.map AV.pubCell = b1_l19.cs ∧ Zg8 n a1 m x5_l19 x29_l19 b1_l19 = some r)) n ⟨false, 0, a0, _, ([]), Rw, ef hs, ef hs, hO, ef hs, h⟩ ?_
  rintro ml19 e st ⟨x5_l19, x29_l19, b1_l19, cb1_l19, Xl19, Rl19, rfl, rfl, hO, hr0, h⟩ Ul19 Vl19
  cases ml19 with
  | zero => cases h
  | succ ml19 =>
  rw [Zg8] at h
  refine ZfR (B.length + 1) (by first | rfl | (simp only [Zjn, Zg5, Zlr, Zki]; rfl)) hr0 ?_; simp +decide only [go_sem, Nat.reduceAdd]
  show awp _ _ _ _ _ _ _ _ [(4, true, .box (B.length + 1) 0), (5, true, .val (.bool x5_l19)), (27, true, .list (a1.map ZiA) .none), (28, true, .val (.int .i64 ((a1.length : Int)))), (29, true, .val (.int .i64 x29_l19))] ⟨B ++ ([a0.cs, b1_l19.cs] ++ Xl19), Rl19, L⟩
  refine td hN hNR hNL hcalm hO ?_
  refine rg [4, 5, 27, 28, 29, 30] hs ?_
  apply Zab; intro K21 hK21
  refine cnd h hs (fun hs h => ?_) (fun hs h => ?_)
  rotate_left
  ·
   have hb22 := hs.1
   refine sx [4, 5] hs hK17 ?_
   exact ⟨x5_l19, b1_l19, _, ([]), Rl19, ef hs, ef hs, hO, ef hs, h⟩
  have hb22 := hs.1
  refine sk [4, 5, 27, 28, 29] hs hK21 ?_
  clear hK21
  apply Zab; intro K23 hK23
  apply Zae
  obtain ⟨x25, hx25, h⟩ := bind_some h
  obtain ⟨hx25a, hx25b, hx25c⟩ := Zau hx25
  have hx25d := Zav (f := ZiA) hx25c
  have hs := And.intro hx25d hs
  refine rg [4, 5, 10, 27, 28, 29] hs ?_
  obtain ⟨y27, hy27, h⟩ := bind_some h
  refine rc 2 [4, 5, 11, 12, 13, 27, 28, 29] hs ?_; intro K26 hK26
  refine Zaf _ (Znx w0 n _ _ _ b1_l19 x25 _ hy27) (hv hs) ?_
  refine ne hs hK26 ?_
  clear hK26
  apply Zab; intro K28 hK28
  refine rg [4, 5, 11, 12, 13, 27, 28, 29, 41] hs ?_
  refine cnd h hs (fun hs h => ?_) (fun hs h => ?_)
  ·
   have hb30 := hs.1
   apply Zab; intro K31 hK31
   apply Zac 1 [4, 5, 6]
   rw [Zaa]; simp +decide only [go_sem, Nat.reduceAdd, hb6, hb12, hb22, hx25d, hb30, ZaP, Zax, Zas]
   (repeat' apply And.intro) <;> first | refine hK31 _ _ ?_ | exact cl
   clear hK31
   exact rt h hs hcalm hO
  have hb30 := hs.1
  refine sk [4, 5, 11, 12, 27, 28, 29] hs hK28 ?_
  clear hK28
  refine rl [4, 5, 27, 28, 29] hs hK23 ?_
  clear hK23
  obtain ⟨hg32, h⟩ := Zad h
  refine rl [4, 5, 27, 28, 29] hs (fun e s => Vl19 ml19 e s (Nat.lt_succ_self _)) ?_
  exact ⟨(x5_l19 || y27.2.1), (x29_l19 + 1), y27.1, _, ([.val (.int .i64 x25.kind) :: (.val (.int .i64 x25.index) :: ([.val (.string x25.name)])), y27.1.cs]), Rl19, ef hs, ef hs, hO, ef hs, h⟩
 ·
  clear h; rintro e st ⟨x5_k16, b1_k16, cb1_k16, Xk16, Rk16, rfl, rfl, hO, hr0, h⟩
  rw [Zjt] at h
  refine ZfR (B.length + 1) (by first | rfl | (simp only [Zjn, Zg5, Zlr, Zki]; rfl)) hr0 ?_; simp +decide only [go_sem, Nat.reduceAdd]
  show awp _ _ _ _ _ _ _ _ [(4, true, .box (B.length + 1) 0), (5, true, .val (.bool x5_k16))] ⟨B ++ ([a0.cs, b1_k16.cs] ++ Xk16), Rk16, L⟩
  refine td hN hNR hNL hcalm hO ?_
  obtain ⟨y34, hy34, h⟩ := bind_some h
  refine rc 2 [4, 5, 6] hs ?_; intro K33 hK33
  refine Zaf _ (Ze6 w0 n _ _ _ b1_k16 _ hy34) (hv hs) ?_
  refine ne hs hK33 ?_
  clear hK33
  exact rt h hs hcalm hO
def Zgh (a0 : ByteArray) : Vl :=
 Vl.mk 5 0 0 a0 ([]) ([])
theorem Zl2 (w0 : World) (B : List (List AV)) (Rw : List RowA) (L : List LoopA) (a0 : ByteArray) (r : Vl) (h : Zgh a0 = r) :
  ACalls Tryz.prog w0 107 [.val (.string a0)] ⟨B, Rw, L⟩ fun x st => x = .agg (r.cs) ∧ st = ⟨B, Rw, L⟩ := by
 rw [Zgh] at h
 refine hd [.cell 2 34] Tryz.func107 Tryz.ntmps107 fun M0 W0 hN hNR hNL hcalm hu hO hs => ?_
 simp only [Zan]
 refine rg [0, 2] hs ?_
 apply Zab; intro K2 hK2
 apply Zac 1 [2]
 rw [Zaa]; simp +decide only [go_sem, Nat.reduceAdd, ZaP, Zax, Zas]
 (repeat' apply And.intro) <;> first | refine hK2 _ _ ?_ | exact cl
 clear hK2
 apply Zah; simp +decide only [go_sem, Nat.reduceAdd]
 subst h
 first | refine ZaE hcalm rfl hO.pre ev ⟨?_, rfl⟩ | refine Za4 hcalm rfl hO.pre ev ⟨?_, rfl⟩
 first | rfl | (simp +decide only [go_sem, Nat.reduceAdd]; done) | (simp +decide only [go_sem, Nat.reduceAdd, Vl.cs, Ty.cs]; done)
theorem Zk5 (w0 : World) (B : List (List AV)) (Rw : List RowA) (L : List LoopA) (a0 : ByteArray) :
  ACalls Tryz.prog w0 107 [.val (.string a0)] ⟨B, Rw, L⟩ fun x st => x = .agg ((Zgh a0).cs) ∧ st = ⟨B, Rw, L⟩ := Zl2 w0 B Rw L a0 _ rfl
def Zjk (n : Nat) (a0 : List Vl) : Option Vl :=
 (Za6 n (Vl.mk 8 0 0 ((⟨#[]⟩ : ByteArray)) a0 ([]))).bind fun y3 =>
 some (y3)
theorem Znd (w0 : World) (n : Nat) (B : List (List AV)) (Rw : List RowA) (L : List LoopA) (a0 : List Vl) (r : Vl) (h : Zjk n a0 = some r) :
  ACalls Tryz.prog w0 108 [.list (a0.map avV) .none] ⟨B, Rw, L⟩ fun x st => x = .agg (r.cs) ∧ st = ⟨B, Rw, L⟩ := by
 rw [Zjk] at h
 refine hd [.cell 2 34] Tryz.func108 Tryz.ntmps108 fun M0 W0 hN hNR hNL hcalm hu hO hs => ?_
 simp only [Zan]
 refine rg [0, 2] hs ?_
 apply Zab; intro K2 hK2
 obtain ⟨y3, hy3, h⟩ := bind_some h
 apply Zac 2 [2]
 rw [Zaa]; simp +decide only [go_sem, Nat.reduceAdd, ZaP, Zax, Zas]
 (repeat' apply And.intro) <;> first | refine Zaf _ (Zcf w0 n _ _ _ (Vl.mk 8 0 0 ((⟨#[]⟩ : ByteArray)) a0 ([])) _ hy3) (by first | rfl | (simp +decide only [go_sem, Nat.reduceAdd, ZaP, Zax, Zas]; done) | (simp +decide only [go_sem, Nat.reduceAdd, Vl.cs, Ty.cs, ZaP, Zax, Zas]; done)) ?_ | exact cl
 rw [Zaa]; simp +decide only [go_sem, Nat.reduceAdd, ZaP, Zax, Zas]
 (repeat' apply And.intro) <;> first | refine hK2 _ _ ?_ | exact cl
 clear hK2
 exact rt h hs hcalm hO
def Zbp (n : Nat) (a0 : List (ByteArray × Vl)) (a1 : (ByteArray × Vl) → Option Bool) : Option Bool :=
 (Zbg n a0 a1).bind fun y3 =>
 some (decide (0 ≤ y3))
theorem ZdP (w0 : World) (n : Nat) (B : List (List AV)) (Rw : List RowA) (L : List LoopA) (a0 : List (ByteArray × Vl)) (fa1 : FuncId) (ca1 : List AV) (a1 : (ByteArray × Vl) → Option Bool) (ha1 : ∀ (x0 : ByteArray × Vl) r, a1 x0 = some r → ∀ B' rows, B <+: B' → Rw <+: rows → ACalls Tryz.prog w0 fa1 ([.agg (.val (.string x0.1) :: (x0.2.cs))] ++ ca1) ⟨B', rows, L⟩ fun v s => v = .val (.bool r) ∧ s = ⟨B', rows, L⟩) (r : Bool) (h : Zbp n a0 a1 = some r) :
  ACalls Tryz.prog w0 166 [.list (a0.map avF) .none, .clo fa1 ca1] ⟨B, Rw, L⟩ fun x st => x = .val (.bool r) ∧ st = ⟨B, Rw, L⟩ := by
 rw [Zbp] at h
 refine hd [.tmp 4] Tryz.func166 Tryz.ntmps166 fun M0 W0 hN hNR hNL hcalm hu hO hs => ?_
 simp only [Zan]
 have hU_a1 := ZcD (hu (.clo fa1 ca1) (by simp))
 refine rg [0, 1] hs ?_
 obtain ⟨y3, hy3, h⟩ := bind_some h
 refine rc 2 [4] hs ?_; intro K2 hK2
 refine Zaf _ (Zc5 w0 n _ _ _ a0 fa1 ca1 a1 (fun x0 r hx B'' rows'' q1 q2 => ha1 x0 r hx B'' rows'' (List.IsPrefix.trans (by first | exact List.prefix_append _ _ | exact List.prefix_refl _) q1) (hO.pre.trans q2)) _ hy3) (hv hs) ?_
 refine ne hs hK2 ?_
 clear hK2
 exact rt h hs hcalm hO
def Zc0 (a0 : ByteArray × Vl) (a1 : ByteArray × Vl) : Bool :=
 (sEq a0.1 a1.1) && (!(Zde a0.2))
theorem Zi1 (w0 : World) (B : List (List AV)) (Rw : List RowA) (L : List LoopA) (a0 : ByteArray × Vl) (la1 : Nat) (a1 : ByteArray × Vl) (hla1 : B[la1]? = some (.val (.string a1.1) :: (a1.2.cs))) (r : Bool) (h : Zc0 a0 a1 = r) :
  ACalls Tryz.prog w0 167 [.agg (.val (.string a0.1) :: (a0.2.cs)), .box la1 0] ⟨B, Rw, L⟩ fun x st => x = .val (.bool r) ∧ st = ⟨B, Rw, L⟩ := by
 rw [Zc0] at h
 refine hd [.tmp 3] Tryz.func167 Tryz.ntmps167 fun M0 W0 hN hNR hNL hcalm hu hO hs => ?_
 simp only [Zan]
 have hltla1 := (List.getElem?_eq_some_iff.1 hla1).1
 have hs := And.intro (Zag hla1) hs
 refine rg [1, 2] hs ?_
 refine rc 2 [3] hs ?_; intro K2 hK2
 refine Ziv _ (fun _ => ZeH w0 _ _ _ a0.2) (hv hs) ?_
 refine ne hs hK2 ?_
 clear hK2
 apply Zah; simp +decide only [go_sem, Nat.reduceAdd, Zag hla1]
 subst h
 first | refine ZaE hcalm rfl hO.pre ev ⟨?_, rfl⟩ | refine Za4 hcalm rfl hO.pre ev ⟨?_, rfl⟩
 first | rfl | (simp +decide only [go_sem, Nat.reduceAdd, Zag hla1]; done) | (simp +decide only [go_sem, Nat.reduceAdd, Vl.cs, Ty.cs, Zag hla1]; done)
theorem Zii (w0 : World) (B : List (List AV)) (Rw : List RowA) (L : List LoopA) (a0 : ByteArray × Vl) (la1 : Nat) (a1 : ByteArray × Vl) (hla1 : B[la1]? = some (.val (.string a1.1) :: (a1.2.cs))) :
  ACalls Tryz.prog w0 167 [.agg (.val (.string a0.1) :: (a0.2.cs)), .box la1 0] ⟨B, Rw, L⟩ fun x st => x = .val (.bool (Zc0 a0 a1)) ∧ st = ⟨B, Rw, L⟩ := Zi1 w0 B Rw L a0 la1 a1 hla1 _ rfl
structure VPre (Rw rows : List RowA) : Prop where
 pre : Rw <+: rows
def dflF : ByteArray × Vl := (⟨#[]⟩, Vl.mk 0 0 0 ⟨#[]⟩ [] [])
def ZgE (l : List (ByteArray × Vl)) : List (ByteArray × Vl) := Zib Prod.fst dflF l
theorem ZgO (l : List (ByteArray × Vl)) : (ZgE l).length = l.length := by simp only [ZgE, Zib, List.length_map]; exact Zc3 _ _
theorem Zdz (x : ByteArray × Vl) : (avF x).cells.length = 7 ∧ ZaC (avF x) = true := by simp +decide only [go_sem, and_self]
theorem Zmw (x : ByteArray × Vl) : (avF x).pub = avF x := by simp +decide only [go_sem]
theorem ZkE (x : ByteArray × Vl) : ∀ c ∈ (avF x).cells, ∀ a b d, Under a b d c := by
 intro c hc a b d
 simp only [avF, AV.cells, List.mem_cons] at hc
 rcases hc with rfl | hc
 ·
  exact .val _
 ·
  exact x.2.under a b d c hc
theorem Znl (w0 : World) (st : St) : ACalls Tryz.prog w0 168 [.list [] .none, .clo 169 []] st fun r s => r = .tup [] ∧ s = st := by
 refine ⟨Zat Tryz.func168 rfl (by decide), fun M w vals hst hrow => ?_⟩
 obtain ⟨v0, v1, rfl⟩ : ∃ v0 v1, vals = #[v0, v1] := by
  have hs := hrow.1
  simp only [List.length_cons, List.length_nil] at hs
  match vals, hs with
  | ⟨[a, b]⟩, _ => exact ⟨a, b, rfl⟩
 have h0 : R w0 M w v0 (.list [] .none) := hrow.2 0 (by simp) (by simp)
 obtain ⟨p, cap, rfl⟩ : ∃ p cap, v0 = .slice p 0 cap := by
  generalize hx : AV.list [] Ev.Own.none = x at h0
  cases h0 with
  | nil ho => exact ⟨_, _, rfl⟩
  | emp ho => exact ⟨_, _, rfl⟩
  | list sz us hc hm hcell hu ho => cases hx; exact ⟨_, _, rfl⟩
  | _ => cases hx
 have h := AnyF.slices_SortFunc_none (P := Tryz.prog) (ρ := Tryz.laysSort_ren) Tryz.laysSort p cap v1 w
 refine h.mono ?_
 rintro en w' ⟨rfl, rfl⟩
 exact ⟨.tuple #[], M, .tup [], st, rfl, ⟨rfl, rfl⟩, .refl _ _ _, hst, .tup rfl (fun i h1 _ => absurd h1 (by simp))⟩
theorem ZnN (w0 : World) {st : St} {id ver : Nat} (l : List (ByteArray × Vl)) (hid : st.rows[id]? = some (.vec ver 7 (l.flatMap fun x => (avF x).cells))) (hn : 0 < l.length) (hz : l.length < 4611686018427387904) :
  ACalls Tryz.prog w0 168 [.vec id ver 0 l.length, .clo 169 []] st fun r s => r = .tup [] ∧ s = { st with rows := st.rows.set id (.vec ver 7 ((ZgE l).flatMap fun x => (avF x).cells)) } :=
 ZmP (ρ := Tryz.laysSort_ren) Tryz.laysSort (Zat Tryz.func168 rfl (by decide)) 6 Tryz.isAgg83 Tryz.sizeOf83 169 (Zat Tryz.func169 rfl (by decide))
  (fun s s' r r' W h1 h2 h3 h4 => ZlY s s' r r' W h1 h2 h3 h4) avF Prod.fst dflF l (fun x => ⟨x.2.cs, rfl, Vl.cs_length _⟩) hid hn hz
def ZdH (n : Nat) (again_l7 : Int → (List (ByteArray × Vl)) → Option Vl) (x10_l7 : Int) (b1_k12_5 : List (ByteArray × Vl)) : Option Vl :=
 if I64 (x10_l7 + 1) then
  again_l7 (x10_l7 + 1) b1_k12_5
 else none
def Zfo (n : Nat)  (b1_k4_5 : List (ByteArray × Vl)) : Option Vl :=
 if b1_k4_5.length < 4611686018427387904 then
  (Za6 n (Vl.mk 9 0 0 ((⟨#[]⟩ : ByteArray)) ([]) (ZgE b1_k4_5))).bind fun y29 =>
  some (y29)
 else none
def ZcF (n : Nat) (a0 : List (ByteArray × Vl)) : Nat → Int → (List (ByteArray × Vl)) → Option Vl
 | 0, _, _ => none
 | m + 1, x10_l7, b1_l7_5 =>
  if decide (x10_l7 < ((a0.length : Int))) then
   (idx a0 x10_l7).bind fun x15 =>
   if I64 (x10_l7 + 1) then
    if 0 ≤ x10_l7 + 1 ∧ x10_l7 + 1 ≤ (a0.length : Int) ∧ (a0.length : Int) ≤ (a0.length : Int) then
     (Zbp n (a0.drop (x10_l7 + 1).toNat) (fun (x0 : ByteArray × Vl) => some (Zc0 x0 x15))).bind fun y19 =>
     if (!(Zde x15.2)) && (!y19) then
      if (b1_l7_5.length + 1) * 104 ≤ 140737488355328 ∧ b1_l7_5.length + 1 ≤ 4611686018427387904 then
       ZdH n (ZcF n a0 m) x10_l7 (b1_l7_5 ++ ([x15]))
      else none
     else
      ZdH n (ZcF n a0 m) x10_l7 b1_l7_5
    else none
   else none
  else
   Zfo n b1_l7_5
def Zgp (n : Nat) (a0 : List (ByteArray × Vl)) : Option Vl :=
 ZcF n a0 n 0 ([])
theorem ZkP (w0 : World) (n : Nat) (B : List (List AV)) (Rw : List RowA) (L : List LoopA) (a0 : List (ByteArray × Vl)) (r : Vl) (h : Zgp n a0 = some r) :
  ACalls Tryz.prog w0 110 [.list (a0.map avF) .none] ⟨B, Rw, L⟩ fun x st => x = .agg (r.cs) ∧ st = ⟨B, Rw, L⟩ := by
 rw [Zgp] at h
 refine hd [.cell 2 34] Tryz.func110 Tryz.ntmps110 fun M0 W0 hN hNR hNL hcalm hu hO hs => ?_
 simp only [Zan]
 refine rg [0, 2] hs ?_
 apply Zab; intro K2 hK2
 apply Zac 1 [0, 2, 3]
 rw [Zaa]; simp +decide only [go_sem, Nat.reduceAdd, ZaP, Zax, Zas]
 (repeat' apply And.intro) <;> first | refine hK2 _ _ ?_ | exact cl
 clear hK2
 refine Zal (fun e st => ∃ (b1_k4_5 : List (ByteArray × Vl)) (ob1_k4_5 : AV) (Xk4 : List (List AV)) (Rk4 : List RowA), e = [(2, true, .box B.length 0), (3, true, .box (B.length + 1) 0)] ∧ st = ⟨B ++ ([[.val (.int .i64 0), .val (.int .i64 0), .val (.int .i64 0), .val (.string ((⟨#[]⟩ : ByteArray))), .list ([]) .full, .list ([]) .full], [.val (.int .i64 9), .val (.int .i64 0), .val (.int .i64 0), .val (.string ((⟨#[]⟩ : ByteArray))), .list ([]) .full, ob1_k4_5]] ++ Xk4), Rk4, L⟩ ∧ VOne Rw Rk4 7 (b1_k4_5.map avF) ob1_k4_5 ∧ Zfo n b1_k4_5 = some r) ?_ ?_
 ·
  intro K5 hK5
  refine ZjJ (B.length + 1) 5 (by first | rfl | (simp only [Zjn, Zg5]; rfl)) rfl ?_; simp +decide only [go_sem, Nat.reduceAdd, List.set_cons_succ, List.set_cons_zero]
  refine rg [0, 2, 3, 8, 9, 10] hs ?_
  apply Zae
  refine Zak (fun m e st => ∃ (x10_l7 : Int) (b1_l7_5 : List (ByteArray × Vl)) (ob1_l7_5 : AV) (Xl7 : List (List AV)) (Rl7 : List RowA), e = [(0, true, .list (a0.map avF) .none), (2, true, .box B.length 0), (3, true, .box (B.length + 1) 0), (8, true, .list (a0.map avF) .none), (9, true, .val (.int .i64 ((a0.length : Int)))), (10, true, .val (.int .i64 x10_l7))] ∧ st = ⟨B ++ ([[.val (.int .i64 0), .val (.int .i64 0), .val (.int .i64 0), .val (.string ((⟨#[]⟩ : ByteArray))), .list ([]) .full, .list ([]) .full], [.val (.int .i64 9), .val (.int .i64 0), .val (.int .i64 0), .val (.string ((⟨#[]⟩ : ByteArray))), .list ([]) .full, ob1_l7_5]] ++ Xl7), Rl7, L⟩ ∧ VOne Rw Rl7 7 (b1_l7_5.map avF) ob1_l7_5 ∧ ZcF n a0 m x10_l7 b1_l7_5 = some r) n ⟨0, [], .list [] .seed, [], Rw, ef hs, ef hs, VOne.none Rw 7, h⟩ ?_
  rintro ml7 e st ⟨x10_l7, b1_l7_5, ob1_l7_5, Xl7, Rl7, rfl, rfl, hO, h⟩ Ul7 Vl7
  cases ml7 with
  | zero => cases h
  | succ ml7 =>
  rw [ZcF] at h
  have hU := hO.under (B.length + 2) L.length
  refine tdV hN hNR hNL hcalm hO ?_
  refine rg [0, 2, 3, 8, 9, 10, 11] hs ?_
  apply Zab; intro K9 hK9
  refine cnd h hs (fun hs h => ?_) (fun hs h => ?_)
  rotate_left
  ·
   refine sx [2, 3] hs hK5 ?_
   exact ⟨b1_l7_5, ob1_l7_5, ([]), Rl7, ef hs, ef hs, VOne.of_eq hO (by simp only [List.map_append, List.map_cons, List.map_nil]), h⟩
  refine sk [0, 2, 3, 8, 9, 10] hs hK9 ?_
  clear hK9
  refine Zal (fun e st => ∃ (b1_k12_5 : List (ByteArray × Vl)) (ob1_k12_5 : AV) (Xk12 : List (List AV)) (Rk12 : List RowA), e = [(0, true, .list (a0.map avF) .none), (2, true, .box B.length 0), (3, true, .box (B.length + 1) 0), (8, true, .list (a0.map avF) .none), (9, true, .val (.int .i64 ((a0.length : Int)))), (10, true, .val (.int .i64 x10_l7))] ∧ st = ⟨B ++ ([[.val (.int .i64 0), .val (.int .i64 0), .val (.int .i64 0), .val (.string ((⟨#[]⟩ : ByteArray))), .list ([]) .full, .list ([]) .full], [.val (.int .i64 9), .val (.int .i64 0), .val (.int .i64 0), .val (.string ((⟨#[]⟩ : ByteArray))), .list ([]) .full, ob1_k12_5]] ++ Xk12), Rk12, L⟩ ∧ VOne Rw Rk12 7 (b1_k12_5.map avF) ob1_k12_5 ∧ ZdH n (ZcF n a0 ml7) x10_l7 b1_k12_5 = some r) ?_ ?_
  ·
   intro K13 hK13
   apply Zae
   obtain ⟨x15, hx15, h⟩ := bind_some h
   obtain ⟨hx15a, hx15b, hx15c⟩ := Zau hx15
   have hx15d := Zav (f := avF) hx15c
   have hs := And.intro hx15d hs
   refine rg [0, 2, 3, 4, 5, 8, 9, 10] hs ?_
   obtain ⟨hg17, h⟩ := Zad h
   obtain ⟨hg18, h⟩ := Zad h
   obtain ⟨y19, hy19, h⟩ := bind_some h
   refine rc 2 [0, 2, 3, 5, 6, 8, 9, 10] hs ?_; intro K16 hK16
   refine Zaf _ (ZdP w0 n _ _ _ (a0.drop (x10_l7 + 1).toNat) 167 [.box (B.length + 2) 0] (fun (x0 : ByteArray × Vl) => some (Zc0 x0 x15)) (fun x0 r hx B' rows' hB' hR' => by cases hx; exact Zii w0 _ _ _ x0 _ x15 (Zdf hB' (ef hs))) _ hy19) (hv hs) ?_
   refine ne hs hK16 ?_
   clear hK16
   refine rc 2 [0, 2, 3, 5, 8, 9, 10, 28] hs ?_; intro K20 hK20
   refine Zaf _ (ZeH w0 _ _ _ x15.2) (hv hs) ?_
   refine ne hs hK20 ?_
   clear hK20
   refine cnd h hs (fun hs h => ?_) (fun hs h => ?_)
   ·
    obtain ⟨hg22, h⟩ := Zad h
    obtain ⟨o23, rows24, hO, hap25⟩ := hO.append (P := Tryz.prog) (y := avF x15) ZlJ (by rw [Zg9]; rfl) (by decide) (by rw [List.length_map]; exact hg22.1) (by rw [List.length_map]; exact hg22.2) (Zdz x15) (Zmw x15) (ZkE x15) (fun z hz => by obtain ⟨y, _, rfl⟩ := List.mem_map.1 hz; exact (Zdz y).1)
    simp only [ZdU] at hap25
    replace hap25 := And.intro hap25 hO.cell
    have hs := And.intro hap25 hs
    refine rl [0, 2, 3, 8, 9, 10] hs hK13 ?_
    exact ⟨(b1_l7_5 ++ ([x15])), o23, ([.val (.string x15.1) :: (x15.2.cs)]), rows24, ef hs, ef hs, VOne.of_eq hO (by simp only [List.map_append, List.map_cons, List.map_nil]), h⟩
   refine sk [0, 2, 3, 8, 9, 10] hs hK13 ?_
   exact ⟨b1_l7_5, ob1_l7_5, ([.val (.string x15.1) :: (x15.2.cs)]), Rl7, ef hs, ef hs, VOne.of_eq hO (by simp only [List.map_append, List.map_cons, List.map_nil]), h⟩
  ·
   clear h; rintro e st ⟨b1_k12_5, ob1_k12_5, Xk12, Rk12, rfl, rfl, hO, h⟩
   rw [ZdH] at h
   have hU := hO.under (B.length + 2) L.length
   refine tdV hN hNR hNL hcalm hO ?_
   obtain ⟨hg26, h⟩ := Zad h
   refine rl [0, 2, 3, 8, 9, 10] hs (fun e s => Vl7 ml7 e s (Nat.lt_succ_self _)) ?_
   exact ⟨(x10_l7 + 1), b1_k12_5, ob1_k12_5, ([]), Rk12, ef hs, ef hs, VOne.of_eq hO (by simp only [List.map_append, List.map_cons, List.map_nil]), h⟩
 ·
  clear h; rintro e st ⟨b1_k4_5, ob1_k4_5, Xk4, Rk4, rfl, rfl, hO, h⟩
  rw [Zfo] at h
  have hU := hO.under (B.length + 2) L.length
  refine tdV hN hNR hNL hcalm hO ?_
  obtain ⟨hgL, h⟩ := Zad h
  rcases hO.at_ with ⟨hnil, rfl⟩ | ⟨id, ver, rfl, hpos, hid, hrow⟩
  ·
   have hb0 : b1_k4_5 = [] := List.map_eq_nil_iff.1 hnil
   subst hb0
   refine rc 2 [2, 3] hs ?_; intro K27 hK27
   refine Zaf _ (Znl w0 _) (hv hs) ?_
   refine ne hs hK27 ?_
   clear hK27
   obtain ⟨y29, hy29, h⟩ := bind_some h
   rw [show ZgE [] = [] from List.eq_nil_of_length_eq_zero (ZgO [])] at hy29
   refine rc 2 [2] hs ?_; intro K28 hK28
   refine Zaf _ (Zcf w0 n _ _ _ (Vl.mk 9 0 0 ((⟨#[]⟩ : ByteArray)) ([]) []) _ hy29) (hv hs) ?_
   refine ne hs hK28 ?_
   clear hK28
   exact rt h hs hcalm hO
  ·
   rw [List.length_map] at hpos
   rw [List.length_map]
   rw [show ((b1_k4_5.map avF).flatMap AV.cells) = b1_k4_5.flatMap fun x => (avF x).cells from List.flatMap_map ..] at hrow
   refine rc 2 [2, 3] hs ?_; intro K27 hK27
   refine ZbN _ (ZnN w0 (st := ⟨_, _, _⟩) b1_k4_5 hrow hpos hgL) (hv hs) ?_; rintro _ _ ⟨rfl, rfl⟩
   refine ne hs hK27 ?_
   clear hK27
   have hlt := (List.getElem?_eq_some_iff.1 hrow).1
   have hvr : ZeB (Rk4.set id (.vec ver 7 ((ZgE b1_k4_5).flatMap fun x => (avF x).cells))) id ver = some (7, (ZgE b1_k4_5).flatMap fun x => (avF x).cells) := by simp [ZeB, hlt]
   have hsl : (ZgE b1_k4_5).length = b1_k4_5.length := ZgO _
   refine Zik (B.length + 1) 5 true (by first | rfl | (simp only [Zjn, Zg5]; rfl)) rfl hvr (.inl rfl) (by rw [Nat.zero_add, Zhl (fun x _ => (Zdz x).1), hsl]; exact Nat.le_refl _) ?_
   have hfz : ZmI 7 true ((ZgE b1_k4_5).flatMap fun x => (avF x).cells) 0 b1_k4_5.length = (ZgE b1_k4_5).map avF := by
    have := Znm (ys := (ZgE b1_k4_5).map avF) (sz := 7) (fun y hy => by obtain ⟨x, _, rfl⟩ := List.mem_map.1 hy; exact ⟨_, rfl, (Zdz x).1⟩)
    rw [List.length_map, hsl, List.flatMap_map] at this
    exact this
   rw [hfz]
   simp +decide only [go_sem, Nat.reduceAdd, List.set_cons_succ, List.set_cons_zero]
   obtain ⟨y29, hy29, h⟩ := bind_some h
   have hO : VPre Rw ((Rk4.set id (.vec ver 7 ((ZgE b1_k4_5).flatMap fun x => (avF x).cells))).set id (.dead (ver + 1))) := ⟨ZeW (ZeW hO.pre hid _) hid _⟩
   refine rc 2 [2] hs ?_; intro K28 hK28
   refine Zaf _ (Zcf w0 n _ _ _ (Vl.mk 9 0 0 ((⟨#[]⟩ : ByteArray)) ([]) (ZgE b1_k4_5)) _ hy29) (hv hs) ?_
   refine ne hs hK28 ?_
   clear hK28
   exact rt h hs hcalm hO
def Zfm (n : Nat) (a0 : ByteArray) (a1 : Vl) : Option Vl :=
 (Za6 n (Vl.mk 10 0 0 a0 ([a1]) ([]))).bind fun y3 =>
 some (y3)
theorem ZjS (w0 : World) (n : Nat) (B : List (List AV)) (Rw : List RowA) (L : List LoopA) (a0 : ByteArray) (a1 : Vl) (r : Vl) (h : Zfm n a0 a1 = some r) :
  ACalls Tryz.prog w0 109 [.val (.string a0), .agg (a1.cs)] ⟨B, Rw, L⟩ fun x st => x = .agg (r.cs) ∧ st = ⟨B, Rw, L⟩ := by
 rw [Zfm] at h
 refine hd [.cell 4 34] Tryz.func109 Tryz.ntmps109 fun M0 W0 hN hNR hNL hcalm hu hO hs => ?_
 simp only [Zan]
 refine rg [0, 3, 4] hs ?_
 apply Zab; intro K2 hK2
 obtain ⟨y3, hy3, h⟩ := bind_some h
 apply Zac 2 [4]
 rw [Zaa]; simp +decide only [go_sem, Nat.reduceAdd, ZaP, Zax, Zas]
 (repeat' apply And.intro) <;> first | refine Zaf _ (Zcf w0 n _ _ _ (Vl.mk 10 0 0 a0 ([a1]) ([])) _ hy3) (by first | rfl | (simp +decide only [go_sem, Nat.reduceAdd, ZaP, Zax, Zas]; done) | (simp +decide only [go_sem, Nat.reduceAdd, Vl.cs, Ty.cs, ZaP, Zax, Zas]; done)) ?_ | exact cl
 rw [Zaa]; simp +decide only [go_sem, Nat.reduceAdd, ZaP, Zax, Zas]
 (repeat' apply And.intro) <;> first | refine hK2 _ _ ?_ | exact cl
 clear hK2
 exact rt h hs hcalm hO
def Zfn (rec : Ty → Option Vl) (n : Nat)  (x3_k34 : List Vl) : Option Vl :=
 (Zjk n x3_k34).bind fun y50 =>
 some (y50)
def Zdr (rec : Ty → Option Vl) (n : Nat) (again_l64 : (List (ByteArray × Vl)) → Int → Option Vl) (x82_l64 : Int) (x4_k69 : List (ByteArray × Vl)) : Option Vl :=
 if I64 (x82_l64 + 1) then
  again_l64 x4_k69 (x82_l64 + 1)
 else none
def Zfz (rec : Ty → Option Vl) (n : Nat)  (x4_k61 : List (ByteArray × Vl)) : Option Vl :=
 (Zgp n x4_k61).bind fun y91 =>
 some (y91)
def ZgI (rec : Ty → Option Vl) (n : Nat) (a0 : Ty) : Option Vl :=
 some (Vl.mk a0.kind 0 0 ((⟨#[]⟩ : ByteArray)) ([]) ([]))
def Zd3 (rec : Ty → Option Vl) (n : Nat) (a0 : Ty) : Nat → (List Vl) → Int → Option Vl
 | 0, _, _ => none
 | m + 1, x3_l37, x50_l37 =>
  if decide (x50_l37 < a0.min) then
   (idx a0.elem 0).bind fun x42 =>
   (rec x42).bind fun y43 =>
   if (x3_l37.length + 1) * 88 ≤ 140737488355328 ∧ x3_l37.length + 1 ≤ 4611686018427387904 then
    if I64 (x50_l37 + 1) then
     (Zd3 rec n a0 m) (x3_l37 ++ ([y43])) (x50_l37 + 1)
    else none
   else none
  else
   Zfn rec n x3_l37
def Zb7 (rec : Ty → Option Vl) (n : Nat) (a0 : Ty) : Nat → (List (ByteArray × Vl)) → Int → Option Vl
 | 0, _, _ => none
 | m + 1, x4_l64, x82_l64 =>
  if decide (x82_l64 < ((a0.fields.length : Int))) then
   (idx a0.fields x82_l64).bind fun x72 =>
   if decide (x72.2.2.1 = 1) then
    (rec x72.2.2.2.1).bind fun y76 =>
    if (x4_l64.length + 1) * 104 ≤ 140737488355328 ∧ x4_l64.length + 1 ≤ 4611686018427387904 then
     Zdr rec n (Zb7 rec n a0 m) x82_l64 (x4_l64 ++ ([(x72.2.1, y76)]))
    else none
   else
    if decide (x72.2.2.1 = 3) then
     (idx x72.2.2.2.2 0).bind fun x83 =>
     (Za6 n x83).bind fun y84 =>
     if (x4_l64.length + 1) * 104 ≤ 140737488355328 ∧ x4_l64.length + 1 ≤ 4611686018427387904 then
      Zdr rec n (Zb7 rec n a0 m) x82_l64 (x4_l64 ++ ([(x72.2.1, y84)]))
     else none
    else
     Zdr rec n (Zb7 rec n a0 m) x82_l64 x4_l64
  else
   Zfz rec n x4_l64
def Zdg (rec : Ty → Option Vl) (n : Nat) (a0 : Ty) (x9_k7 : Bool) : Option Vl :=
 if x9_k7 then
  some (Vl.mk a0.kind ((if a0.min < (if 0 < a0.max then 0 else a0.max) then (if 0 < a0.max then 0 else a0.max) else a0.min)) a0.scale ((⟨#[]⟩ : ByteArray)) ([]) ([]))
 else
  if decide (a0.kind = 4) then
   if decide (0 < ((a0.words.length : Int))) then
    (idx a0.words 0).bind fun x23 =>
    some (Zej x23)
   else
    if 0 ≤ a0.min ∧ a0.min ≤ 9223372036854775807 ∧ ((⟨#[97]⟩ : ByteArray)).size * a0.min.toNat ≤ 140737488355328 then
     some (Zej ((⟨(Lib.repeatL ((⟨#[97]⟩ : ByteArray)).data.toList a0.min.toNat).toArray⟩ : ByteArray)))
    else none
  else
   if decide (a0.kind = 5) then
    if 0 ≤ a0.min ∧ a0.min ≤ 9223372036854775807 ∧ ((⟨#[0]⟩ : ByteArray)).size * a0.min.toNat ≤ 140737488355328 then
     some (Zgh ((⟨(Lib.repeatL ((⟨#[0]⟩ : ByteArray)).data.toList a0.min.toNat).toArray⟩ : ByteArray)))
    else none
   else
    if decide (a0.kind = 8) then
     Zd3 rec n a0 n ([]) 0
    else
     if decide (a0.kind = 10) then
      (idx a0.fields 0).bind fun x54 =>
      (rec x54.2.2.2.1).bind fun y55 =>
      (Zfm n x54.2.1 y55).bind fun y56 =>
      some (y56)
     else
      if decide (a0.kind = 9) then
       Zb7 rec n a0 n ([]) 0
      else
       ZgI rec n a0 
def ZhI (rec : Ty → Option Vl) (n : Nat) (a0 : Ty) : Option Vl :=
 if decide (a0.kind = 2) then
  Zdg rec n a0 true
 else
  if decide (a0.kind = 3) then
   Zdg rec n a0 true
  else
   if decide (a0.kind = 6) then
    Zdg rec n a0 true
   else
    Zdg rec n a0 (decide (a0.kind = 7))
def Zgb : Nat → Ty → Option Vl
 | 0, _ => none
 | n + 1, a0 => ZhI (Zgb n) n a0
def Zh2 (w0 : World) (F : Ty → Option Vl) : Prop := ∀ (B : List (List AV)) (Rw : List RowA) (L : List LoopA) (a0 : Ty) (r : Vl), F a0 = some r → ACalls Tryz.prog w0 61 [.agg (a0.cs)] ⟨B, Rw, L⟩ fun x st => x = .agg (r.cs) ∧ st = ⟨B, Rw, L⟩
theorem Zkq (w0 : World) (rec : Ty → Option Vl) (ih : Zh2 w0 rec) (n : Nat) : Zh2 w0 (ZhI rec n) := by
 intro B Rw L a0 r h
 rw [ZhI] at h
 refine hd [.cell 2 34] Tryz.func61 Tryz.ntmps61 fun M0 W0 hN hNR hNL hcalm hu hO hs => ?_
 simp only [Zan]
 refine rg [1, 2] hs ?_
 refine Zal (fun e st => Ck e st B Rw L [(1, true, .box B.length 0), (2, true, .box (B.length + 1) 0)] [a0.cs, [.val (.int .i64 0), .val (.int .i64 0), .val (.int .i64 0), .val (.string ((⟨#[]⟩ : ByteArray))), .list ([]) .full, .list ([]) .full]] [] (ZgI rec n a0  = some r)) ?_ ?_
 ·
  intro K4 hK4
  refine rg [1, 2, 8] hs ?_
  apply Zae
  refine Zal (fun e st => ∃ (x9_k7 : Bool), Ck e st B Rw L [(1, true, .box B.length 0), (2, true, .box (B.length + 1) 0), (8, true, .val (.int .i64 a0.kind)), (9, true, .val (.bool x9_k7))] [a0.cs, [.val (.int .i64 0), .val (.int .i64 0), .val (.int .i64 0), .val (.string ((⟨#[]⟩ : ByteArray))), .list ([]) .full, .list ([]) .full]] [] (Zdg rec n a0 x9_k7 = some r)) ?_ ?_
  ·
   intro K8 hK8
   refine rg [1, 2, 8, 9] hs ?_
   refine cnd h hs (fun hs h => ?_) (fun hs h => ?_)
   ·
    refine sk [1, 2, 8, 9] hs hK8 ?_
    exact ⟨true, ([]), Rw, ef hs, ef hs, hO, h⟩
   refine rg [1, 2, 8, 9] hs ?_
   refine cnd h hs (fun hs h => ?_) (fun hs h => ?_)
   ·
    refine sk [1, 2, 8, 9] hs hK8 ?_
    exact ⟨true, ([]), Rw, ef hs, ef hs, hO, h⟩
   refine rg [1, 2, 8, 9] hs ?_
   refine cnd h hs (fun hs h => ?_) (fun hs h => ?_)
   ·
    refine sk [1, 2, 8, 9] hs hK8 ?_
    exact ⟨true, ([]), Rw, ef hs, ef hs, hO, h⟩
   refine rl [1, 2, 8, 9] hs hK8 ?_
   exact ⟨(decide (a0.kind = 7)), ([]), Rw, ef hs, ef hs, hO, h⟩
  ·
   clear h; rintro e st ⟨x9_k7, Xk7, Rk7, rfl, rfl, hO, h⟩
   rw [Zdg] at h
   refine td hN hNR hNL hcalm hO ?_
   refine cnd h hs (fun hs h => ?_) (fun hs h => ?_)
   ·
    have hb15 := hs.1
    apply Zab; intro K16 hK16
    apply Zac 1 [2]
    rw [Zaa]; simp +decide only [go_sem, Nat.reduceAdd, hb15, ZaP, Zax, Zas]
    (repeat' apply And.intro) <;> first | refine hK16 _ _ ?_ | exact cl
    clear hK16
    exact rt h hs hcalm hO
   have hb15 := hs.1
   refine rg [1, 2, 8, 25] hs ?_
   refine cnd h hs (fun hs h => ?_) (fun hs h => ?_)
   ·
    have hb18 := hs.1
    apply Zab; intro K19 hK19
    refine rg [1, 2, 30] hs ?_
    refine cnd h hs (fun hs h => ?_) (fun hs h => ?_)
    ·
     obtain ⟨x23, hx23, h⟩ := bind_some h
     obtain ⟨hx23a, hx23b, hx23c⟩ := Zau hx23
     have hx23d := Zav (f := avS) hx23c
     have hx23e : (a0.words.map avS).getD 0 .junk = _ := hx23d
     have hs := And.intro hx23d hs
     have hs := And.intro hx23e hs
     refine rc 2 [2] hs ?_; intro K22 hK22
     refine Zaf _ (ZgF w0 _ _ _ x23) (hv hs) ?_
     refine ne hs hK22 ?_
     clear hK22
     exact rt h hs hcalm hO
    refine sk [1, 2] hs hK19 ?_
    clear hK19
    obtain ⟨hg25, h⟩ := Zad h
    refine rc 3 [2] hs ?_; intro K24 hK24
    refine Zaf _ (Zh5 w0 _ _ _ ((⟨#[97]⟩ : ByteArray)) a0.min hg25) (hv hs) ?_
    refine nc hs ?_
    refine Zaf _ (ZgF w0 _ _ _ ((⟨(Lib.repeatL ((⟨#[97]⟩ : ByteArray)).data.toList a0.min.toNat).toArray⟩ : ByteArray))) (hv hs) ?_
    refine ne hs hK24 ?_
    clear hK24
    exact rt h hs hcalm hO
   have hb18 := hs.1
   refine rg [1, 2, 8, 40] hs ?_
   refine cnd h hs (fun hs h => ?_) (fun hs h => ?_)
   ·
    have hb27 := hs.1
    obtain ⟨hg29, h⟩ := Zad h
    refine rc 3 [2] hs ?_; intro K28 hK28
    refine Zaf _ (Zh5 w0 _ _ _ ((⟨#[0]⟩ : ByteArray)) a0.min hg29) (hv hs) ?_
    refine nc hs ?_
    refine Zaf _ (Zk5 w0 _ _ _ ((⟨(Lib.repeatL ((⟨#[0]⟩ : ByteArray)).data.toList a0.min.toNat).toArray⟩ : ByteArray))) (hv hs) ?_
    refine ne hs hK28 ?_
    clear hK28
    exact rt h hs hcalm hO
   have hb27 := hs.1
   refine rg [1, 2, 8, 46] hs ?_
   refine cnd h hs (fun hs h => ?_) (fun hs h => ?_)
   ·
    have hb31 := hs.1
    refine rg [1, 2, 3] hs ?_
    refine Zal (fun e st => ∃ (x3_k34 : List Vl) (ox3_k34 : Ev.Own), Ck e st B Rw L [(2, true, .box (B.length + 1) 0), (3, true, .list (x3_k34.map avV) ox3_k34)] [a0.cs, [.val (.int .i64 0), .val (.int .i64 0), .val (.int .i64 0), .val (.string ((⟨#[]⟩ : ByteArray))), .list ([]) .full, .list ([]) .full]] [(6, x3_k34.length, ox3_k34)] (Zfn rec n x3_k34 = some r)) ?_ ?_
    ·
     intro K35 hK35
     refine rg [1, 2, 3, 49, 50] hs ?_
     apply Zae
     refine Zak (fun m e st => ∃ (x3_l37 : List Vl) (x50_l37 : Int) (ox3_l37 : Ev.Own), Ck e st B Rw L [(1, true, .box B.length 0), (2, true, .box (B.length + 1) 0), (3, true, .list (x3_l37.map avV) ox3_l37), (49, true, .val (.int .i64 a0.min)), (50, true, .val (.int .i64 x50_l37))] [a0.cs, [.val (.int .i64 0), .val (.int .i64 0), .val (.int .i64 0), .val (.string ((⟨#[]⟩ : ByteArray))), .list ([]) .full, .list ([]) .full]] [(6, x3_l37.length, ox3_l37)] (Zd3 rec n a0 m x3_l37 x50_l37 = some r)) n ⟨([]), 0, .full, ([]), Rk7, ef hs, ef hs, Owns.of_eq ((hO).full 6 0) (by first | rfl | simp only [List.length_append, List.length_cons, List.length_nil, List.length_map, Nat.zero_add, Nat.add_zero]), h⟩ ?_
     rintro ml37 e st ⟨x3_l37, x50_l37, ox3_l37, Xl37, Rl37, rfl, rfl, hO, h⟩ Ul37 Vl37
     cases ml37 with
     | zero => cases h
     | succ ml37 =>
     rw [Zd3] at h
     have hU := hO.unders
     simp only [List.mem_cons, List.not_mem_nil, or_false, forall_eq_or_imp, forall_eq] at hU
     refine td hN hNR hNL hcalm hO ?_
     refine rg [1, 2, 3, 49, 50, 51] hs ?_
     apply Zab; intro K39 hK39
     refine cnd h hs (fun hs h => ?_) (fun hs h => ?_)
     rotate_left
     ·
      refine sx [2, 3] hs hK35 ?_
      exact ⟨x3_l37, ox3_l37, ([]), Rl37, ef hs, ef hs, Owns.of_eq (hO) (by first | rfl | simp only [List.length_append, List.length_cons, List.length_nil, List.length_map, Nat.zero_add, Nat.add_zero]), h⟩
     refine sk [1, 2, 3, 49, 50] hs hK39 ?_
     clear hK39
     apply Zab; intro K41 hK41
     apply Zae
     obtain ⟨x42, hx42a, hx42b, hx42d, h⟩ := ix avT h
     have hx42e : (a0.elem.map avT).getD 0 .junk = _ := hx42d
     obtain ⟨y43, hy43, h⟩ := bind_some h
     obtain ⟨hg44, h⟩ := Zad h
     obtain ⟨o45, rows46, hO, hap47⟩ := hO.append (P := Tryz.prog) Zlt (by rw [Zg2]; rfl) (by decide) 1 hg44.1 hg44.2
     replace hap47 := fun (ys : List AV) B L o2 => hap47 (x3_l37.map avV) ys B L o2 (by first | rfl | simp only [List.length_map, List.length_nil, List.length_append, List.length_cons, Nat.zero_add])
     replace hap47 := fun (y : AV) B L o2 => hap47 [y] B L o2 (by first | rfl | simp only [List.length_map, List.length_nil, List.length_cons]) ev
     try simp only [List.mem_singleton, List.mem_cons, List.not_mem_nil, or_false, forall_eq_or_imp, forall_eq, List.map_append, List.map_cons, List.map_nil, ZdZ, ZeA, Zeq, Zes, Zer, ZdU, Zc7, Zdb, Zez, ZbR, ZbQ, Zda] at hap47
     have hs := And.intro hx42d hs
     have hs := And.intro hx42e hs
     have hs := And.intro hap47 hs
     refine rk 2 [1, 2, 3, 49, 50] hs ?_
     refine Zaf _ (ih _ _ _ x42 _ hy43) (hv hs) ?_
     refine ne hs hK41 ?_
     clear hK41
     obtain ⟨hg48, h⟩ := Zad h
     refine rl [1, 2, 3, 49, 50] hs (fun e s => Vl37 ml37 e s (Nat.lt_succ_self _)) ?_
     exact ⟨(x3_l37 ++ ([y43])), (x50_l37 + 1), o45, ([]), rows46, ef hs, ef hs, Owns.of_eq (hO) (by first | rfl | simp only [List.length_append, List.length_cons, List.length_nil, List.length_map, Nat.zero_add, Nat.add_zero]), h⟩
    ·
     clear h; rintro e st ⟨x3_k34, ox3_k34, Xk34, Rk34, rfl, rfl, hO, h⟩
     rw [Zfn] at h
     have hU := hO.unders
     simp only [List.mem_cons, List.not_mem_nil, or_false, forall_eq_or_imp, forall_eq] at hU
     refine td hN hNR hNL hcalm hO ?_
     obtain ⟨y50, hy50, h⟩ := bind_some h
     refine rc 2 [2] hs ?_; intro K49 hK49
     refine Zaf _ (Znd w0 n _ _ _ x3_k34 _ hy50) (hv hs) ?_
     refine ne hs hK49 ?_
     clear hK49
     exact rt h hs hcalm hO
   have hb31 := hs.1
   refine rg [1, 2, 8, 63] hs ?_
   refine cnd h hs (fun hs h => ?_) (fun hs h => ?_)
   ·
    have hb52 := hs.1
    apply Zab; intro K53 hK53
    obtain ⟨x54, hx54a, hx54b, hx54d, h⟩ := ix ZdK h
    have hx54e : (a0.fields.map ZdK).getD 0 .junk = _ := hx54d
    obtain ⟨y55, hy55, h⟩ := bind_some h
    obtain ⟨y56, hy56, h⟩ := bind_some h
    apply Zap mix 12 3 1 [2] (by kernel_rfl)
    rw [Zaa]; simp +decide only [go_sem, Nat.reduceAdd, hb15, hb18, hb27, hb31, hb52, hx54d, hx54e]
    have hs := And.intro hx54d hs
    have hs := And.intro hx54e hs
    (repeat' apply And.intro) <;> first | refine Zaf _ (ih _ _ _ x54.2.2.2.1 _ hy55) (hv hs) ?_ | exact cl
    rw [Zaa]; simp +decide only [go_sem, Nat.reduceAdd, hb15, hb18, hb27, hb31, hb52, hx54d, hx54e]
    (repeat' apply And.intro) <;> first | refine Zaf _ (ZjS w0 n _ _ _ x54.2.1 y55 _ hy56) (hv hs) ?_ | exact cl
    rw [Zaa]; simp +decide only [go_sem, Nat.reduceAdd, hb15, hb18, hb27, hb31, hb52, hx54d, hx54e]
    (repeat' with_reducible apply And.intro) <;> first | (rw [Zaa]; simp +decide only [go_sem, Nat.reduceAdd, hb15, hb18, hb27, hb31, hb52, hx54d, hx54e]) | exact cl
    (repeat' apply And.intro) <;> first | refine hK53 _ _ ?_ | exact cl
    clear hK53
    exact rt h hs hcalm hO
   have hb52 := hs.1
   refine rg [1, 2, 77] hs ?_
   refine cnd h hs (fun hs h => ?_) (fun hs h => ?_)
   ·
    have hb58 := hs.1
    refine rg [1, 2, 4] hs ?_
    refine Zal (fun e st => ∃ (x4_k61 : List (ByteArray × Vl)) (ox4_k61 : Ev.Own), Ck e st B Rw L [(2, true, .box (B.length + 1) 0), (4, true, .list (x4_k61.map avF) ox4_k61)] [a0.cs, [.val (.int .i64 0), .val (.int .i64 0), .val (.int .i64 0), .val (.string ((⟨#[]⟩ : ByteArray))), .list ([]) .full, .list ([]) .full]] [(7, x4_k61.length, ox4_k61)] (Zfz rec n x4_k61 = some r)) ?_ ?_
    ·
     intro K62 hK62
     refine rg [2, 4, 80, 81, 82] hs ?_
     apply Zae
     refine Zak (fun m e st => ∃ (x4_l64 : List (ByteArray × Vl)) (x82_l64 : Int) (ox4_l64 : Ev.Own), Ck e st B Rw L [(2, true, .box (B.length + 1) 0), (4, true, .list (x4_l64.map avF) ox4_l64), (80, true, .list (a0.fields.map ZdK) .none), (81, true, .val (.int .i64 ((a0.fields.length : Int)))), (82, true, .val (.int .i64 x82_l64))] [a0.cs, [.val (.int .i64 0), .val (.int .i64 0), .val (.int .i64 0), .val (.string ((⟨#[]⟩ : ByteArray))), .list ([]) .full, .list ([]) .full]] [(7, x4_l64.length, ox4_l64)] (Zb7 rec n a0 m x4_l64 x82_l64 = some r)) n ⟨([]), 0, .full, ([]), Rk7, ef hs, ef hs, Owns.of_eq ((hO).full 7 0) (by first | rfl | simp only [List.length_append, List.length_cons, List.length_nil, List.length_map, Nat.zero_add, Nat.add_zero]), h⟩ ?_
     rintro ml64 e st ⟨x4_l64, x82_l64, ox4_l64, Xl64, Rl64, rfl, rfl, hO, h⟩ Ul64 Vl64
     cases ml64 with
     | zero => cases h
     | succ ml64 =>
     rw [Zb7] at h
     have hU := hO.unders
     simp only [List.mem_cons, List.not_mem_nil, or_false, forall_eq_or_imp, forall_eq] at hU
     refine td hN hNR hNL hcalm hO ?_
     refine rg [2, 4, 80, 81, 82, 83] hs ?_
     apply Zab; intro K66 hK66
     refine cnd h hs (fun hs h => ?_) (fun hs h => ?_)
     rotate_left
     ·
      have hb67 := hs.1
      refine sx [2, 4] hs hK62 ?_
      exact ⟨x4_l64, ox4_l64, ([]), Rl64, ef hs, ef hs, Owns.of_eq (hO) (by first | rfl | simp only [List.length_append, List.length_cons, List.length_nil, List.length_map, Nat.zero_add, Nat.add_zero]), h⟩
     have hb67 := hs.1
     refine sk [2, 4, 80, 81, 82] hs hK66 ?_
     clear hK66
     refine Zal (fun e st => ∃ (x4_k69 : List (ByteArray × Vl)) (ox4_k69 : Ev.Own), Ck e st B Rw L [(2, true, .box (B.length + 1) 0), (4, true, .list (x4_k69.map avF) ox4_k69), (80, true, .list (a0.fields.map ZdK) .none), (81, true, .val (.int .i64 ((a0.fields.length : Int)))), (82, true, .val (.int .i64 x82_l64))] [a0.cs, [.val (.int .i64 0), .val (.int .i64 0), .val (.int .i64 0), .val (.string ((⟨#[]⟩ : ByteArray))), .list ([]) .full, .list ([]) .full]] [(7, x4_k69.length, ox4_k69)] (Zdr rec n (Zb7 rec n a0 ml64) x82_l64 x4_k69 = some r)) ?_ ?_
     ·
      intro K70 hK70
      apply Zae
      obtain ⟨x72, hx72, h⟩ := bind_some h
      obtain ⟨hx72a, hx72b, hx72c⟩ := Zau hx72
      have hx72d := Zav (f := ZdK) hx72c
      have hs := And.intro hx72d hs
      refine rg [2, 4, 6, 80, 81, 82] hs ?_
      refine rg [2, 4, 6, 80, 81, 82, 87] hs ?_
      apply Zae
      refine rg [2, 4, 6, 80, 81, 82, 87, 88] hs ?_
      refine cnd h hs (fun hs h => ?_) (fun hs h => ?_)
      ·
       have hb75 := hs.1
       obtain ⟨y76, hy76, h⟩ := bind_some h
       obtain ⟨hg77, h⟩ := Zad h
       obtain ⟨o78, rows79, hO, hap80⟩ := hO.append (P := Tryz.prog) ZlJ (by rw [Zg9]; rfl) (by decide) 1 hg77.1 hg77.2
       replace hap80 := fun (ys : List AV) B L o2 => hap80 (x4_l64.map avF) ys B L o2 (by first | rfl | simp only [List.length_map, List.length_nil, List.length_append, List.length_cons, Nat.zero_add])
       replace hap80 := fun (y : AV) B L o2 => hap80 [y] B L o2 (by first | rfl | simp only [List.length_map, List.length_nil, List.length_cons]) ev
       try simp only [List.mem_singleton, List.mem_cons, List.not_mem_nil, or_false, forall_eq_or_imp, forall_eq, List.map_append, List.map_cons, List.map_nil, ZdZ, ZeA, Zeq, Zes, Zer, ZdU, Zc7, Zdb, Zez, ZbR, ZbQ, Zda] at hap80
       apply Zap mix 8 2 1 [2, 4, 80, 81, 82] (by kernel_rfl)
       rw [Zaa]; simp +decide only [go_sem, Nat.reduceAdd, hb15, hb18, hb27, hb31, hb52, hb58, hb67, hx72d, hb75, hap80, ZaP, Zax, Zas]
       (repeat' apply And.intro) <;> first | refine Zaf _ (ih _ _ _ x72.2.2.2.1 _ hy76) (by first | rfl | (simp +decide only [go_sem, Nat.reduceAdd, hb15, hb18, hb27, hb31, hb52, hb58, hb67, hx72d, hb75, hap80, ZaP, Zax, Zas]; done) | (simp +decide only [go_sem, Nat.reduceAdd, Vl.cs, Ty.cs, hb15, hb18, hb27, hb31, hb52, hb58, hb67, hx72d, hb75, hap80, ZaP, Zax, Zas]; done)) ?_ | exact cl
       rw [Zaa]; simp +decide only [go_sem, Nat.reduceAdd, hb15, hb18, hb27, hb31, hb52, hb58, hb67, hx72d, hb75, hap80, ZaP, Zax, Zas]
       (repeat' with_reducible apply And.intro) <;> first | (rw [Zaa]; simp +decide only [go_sem, Nat.reduceAdd, hb15, hb18, hb27, hb31, hb52, hb58, hb67, hx72d, hb75, hap80, ZaP, Zax, Zas]) | exact cl
       have hs := And.intro hap80 hs
       (repeat' apply And.intro) <;> first | refine hK70 _ _ ⟨(x4_l64 ++ ([(x72.2.1, y76)])), o78, ([.val (.int .i64 x72.1) :: (.val (.string x72.2.1) :: (.val (.int .i64 x72.2.2.1) :: ((x72.2.2.2.1.cs) ++ ([.list (x72.2.2.2.2.map avV) .none]))))]), rows79, ef hs, ef hs, Owns.of_eq (hO) (by first | rfl | simp only [List.length_append, List.length_cons, List.length_nil, List.length_map, Nat.zero_add, Nat.add_zero]), h⟩ | exact cl
      have hb75 := hs.1
      refine rg [2, 4, 6, 80, 81, 82, 99] hs ?_
      refine cnd h hs (fun hs h => ?_) (fun hs h => ?_)
      ·
       have hb82 := hs.1
       obtain ⟨x83, hx83a, hx83b, hx83d, h⟩ := ix avV h
       have hx83e : (x72.2.2.2.2.map avV).getD 0 .junk = _ := hx83d
       obtain ⟨y84, hy84, h⟩ := bind_some h
       obtain ⟨hg85, h⟩ := Zad h
       obtain ⟨o86, rows87, hO, hap88⟩ := hO.append (P := Tryz.prog) ZlJ (by rw [Zg9]; rfl) (by decide) 1 hg85.1 hg85.2
       replace hap88 := fun (ys : List AV) B L o2 => hap88 (x4_l64.map avF) ys B L o2 (by first | rfl | simp only [List.length_map, List.length_nil, List.length_append, List.length_cons, Nat.zero_add])
       replace hap88 := fun (y : AV) B L o2 => hap88 [y] B L o2 (by first | rfl | simp only [List.length_map, List.length_nil, List.length_cons]) ev
       try simp only [List.mem_singleton, List.mem_cons, List.not_mem_nil, or_false, forall_eq_or_imp, forall_eq, List.map_append, List.map_cons, List.map_nil, ZdZ, ZeA, Zeq, Zes, Zer, ZdU, Zc7, Zdb, Zez, ZbR, ZbQ, Zda] at hap88
       apply Zap mix 10 2 1 [2, 4, 80, 81, 82] (by kernel_rfl)
       rw [Zaa]; simp +decide only [go_sem, Nat.reduceAdd, hb15, hb18, hb27, hb31, hb52, hb58, hb67, hx72d, hb75, hb82, hx83d, hx83e, hap88, ZaP, Zax, Zas]
       (repeat' apply And.intro) <;> first | refine Zaf _ (Zcf w0 n _ _ _ x83 _ hy84) (by first | rfl | (simp +decide only [go_sem, Nat.reduceAdd, hb15, hb18, hb27, hb31, hb52, hb58, hb67, hx72d, hb75, hb82, hx83d, hx83e, hap88, ZaP, Zax, Zas]; done) | (simp +decide only [go_sem, Nat.reduceAdd, Vl.cs, Ty.cs, hb15, hb18, hb27, hb31, hb52, hb58, hb67, hx72d, hb75, hb82, hx83d, hx83e, hap88, ZaP, Zax, Zas]; done)) ?_ | exact cl
       rw [Zaa]; simp +decide only [go_sem, Nat.reduceAdd, hb15, hb18, hb27, hb31, hb52, hb58, hb67, hx72d, hb75, hb82, hx83d, hx83e, hap88, ZaP, Zax, Zas]
       (repeat' with_reducible apply And.intro) <;> first | (rw [Zaa]; simp +decide only [go_sem, Nat.reduceAdd, hb15, hb18, hb27, hb31, hb52, hb58, hb67, hx72d, hb75, hb82, hx83d, hx83e, hap88, ZaP, Zax, Zas]) | exact cl
       have hs := And.intro hx83d hs
       have hs := And.intro hx83e hs
       have hs := And.intro hap88 hs
       (repeat' apply And.intro) <;> first | refine hK70 _ _ ⟨(x4_l64 ++ ([(x72.2.1, y84)])), o86, ([.val (.int .i64 x72.1) :: (.val (.string x72.2.1) :: (.val (.int .i64 x72.2.2.1) :: ((x72.2.2.2.1.cs) ++ ([.list (x72.2.2.2.2.map avV) .none]))))]), rows87, ef hs, ef hs, Owns.of_eq (hO) (by first | rfl | simp only [List.length_append, List.length_cons, List.length_nil, List.length_map, Nat.zero_add, Nat.add_zero]), h⟩ | exact cl
      have hb82 := hs.1
      refine sk [2, 4, 80, 81, 82] hs hK70 ?_
      exact ⟨x4_l64, ox4_l64, ([.val (.int .i64 x72.1) :: (.val (.string x72.2.1) :: (.val (.int .i64 x72.2.2.1) :: ((x72.2.2.2.1.cs) ++ ([.list (x72.2.2.2.2.map avV) .none]))))]), Rl64, ef hs, ef hs, Owns.of_eq (hO) (by first | rfl | simp only [List.length_append, List.length_cons, List.length_nil, List.length_map, Nat.zero_add, Nat.add_zero]), h⟩
     ·
      clear h; rintro e st ⟨x4_k69, ox4_k69, Xk69, Rk69, rfl, rfl, hO, h⟩
      rw [Zdr] at h
      have hU := hO.unders
      simp only [List.mem_cons, List.not_mem_nil, or_false, forall_eq_or_imp, forall_eq] at hU
      refine td hN hNR hNL hcalm hO ?_
      obtain ⟨hg89, h⟩ := Zad h
      refine rl [2, 4, 80, 81, 82] hs (fun e s => Vl64 ml64 e s (Nat.lt_succ_self _)) ?_
      exact ⟨x4_k69, (x82_l64 + 1), ox4_k69, ([]), Rk69, ef hs, ef hs, Owns.of_eq (hO) (by first | rfl | simp only [List.length_append, List.length_cons, List.length_nil, List.length_map, Nat.zero_add, Nat.add_zero]), h⟩
    ·
     clear h; rintro e st ⟨x4_k61, ox4_k61, Xk61, Rk61, rfl, rfl, hO, h⟩
     rw [Zfz] at h
     have hU := hO.unders
     simp only [List.mem_cons, List.not_mem_nil, or_false, forall_eq_or_imp, forall_eq] at hU
     refine td hN hNR hNL hcalm hO ?_
     obtain ⟨y91, hy91, h⟩ := bind_some h
     refine rc 2 [2] hs ?_; intro K90 hK90
     refine Zaf _ (ZkP w0 n _ _ _ x4_k61 _ hy91) (hv hs) ?_
     refine ne hs hK90 ?_
     clear hK90
     exact rt h hs hcalm hO
   have hb58 := hs.1
   refine sk [1, 2] hs hK4 ?_
   exact ⟨([]), Rk7, ef hs, ef hs, hO, h⟩
 ·
  clear h; rintro e st ⟨Xk3, Rk3, rfl, rfl, hO, h⟩
  rw [ZgI] at h
  refine td hN hNR hNL hcalm hO ?_
  apply Zab; intro K92 hK92
  apply Zac 1 [2]
  rw [Zaa]; simp +decide only [go_sem, Nat.reduceAdd, ZaP, Zax, Zas]
  (repeat' apply And.intro) <;> first | refine hK92 _ _ ?_ | exact cl
  clear hK92
  exact rt h hs hcalm hO
theorem Ziw (w0 : World) : ∀ n : Nat, Zh2 w0 (Zgb n)
 | 0 => fun _ _ _ _ _ h => (nomatch h)
 | n + 1 => Zkq w0 (Zgb n) (Ziw w0 n) n
def ZhV (n : Nat) (a0 : Ty) : Option (Vl × Int) :=
 (ZdW n a0).bind fun y4 =>
 if !(decide (y4 = 0)) then
  some ((Vl.mk 0 0 0 ((⟨#[]⟩ : ByteArray)) ([]) ([]), y4))
 else
  (Zgb n a0).bind fun y9 =>
  some ((y9, 0))
theorem Zmx (w0 : World) (hT : Lib.Utf8Tabs 0 1 w0) (n : Nat) (B : List (List AV)) (Rw : List RowA) (L : List LoopA) (a0 : Ty) (r : Vl × Int) (h : ZhV n a0 = some r) :
  ACalls Tryz.prog w0 21 [.agg (a0.cs)] ⟨B, Rw, L⟩ fun x st => x = .tup [.agg (r.1.cs), .val (.int .i64 r.2)] ∧ st = ⟨B, Rw, L⟩ := by
 rw [ZhV] at h
 refine hd [.cell 2 34, .tmp 3] Tryz.func21 Tryz.ntmps21 fun M0 W0 hN hNR hNL hcalm hu hO hs => ?_
 simp only [Zan]
 refine rg [1, 2] hs ?_
 apply Zab; intro K2 hK2
 obtain ⟨y4, hy4, h⟩ := bind_some h
 refine rc 2 [1, 2, 4] hs ?_; intro K3 hK3
 refine Zaf _ (Zcg w0 hT n _ _ _ a0 _ hy4) (hv hs) ?_
 refine ne hs hK3 ?_
 clear hK3
 refine rg [1, 2, 4, 8] hs ?_
 refine cnd h hs (fun hs h => ?_) (fun hs h => ?_)
 ·
  have hb6 := hs.1
  apply Zab; intro K7 hK7
  apply Zac 1 [2, 3]
  rw [Zaa]; simp +decide only [go_sem, Nat.reduceAdd, hb6, ZaP, Zax, Zas]
  (repeat' apply And.intro) <;> first | refine hK7 _ _ ?_ | exact cl
  clear hK7
  exact rt h hs hcalm hO
 have hb6 := hs.1
 refine sk [1, 2] hs hK2 ?_
 clear hK2
 obtain ⟨y9, hy9, h⟩ := bind_some h
 refine rc 2 [2, 3] hs ?_; intro K8 hK8
 refine Zaf _ (Ziw w0 n _ _ _ a0 _ hy9) (hv hs) ?_
 refine ne hs hK8 ?_
 clear hK8
 exact rt h hs hcalm hO
def ZcU (n : Nat)  : Option Bool :=
 (ZhV n (ZaF )).bind fun y4 =>
 (Zm9 n (ZaF ) ([Part.mk 1 0 ((⟨#[108]⟩ : ByteArray)), Part.mk 2 2 ((⟨#[]⟩ : ByteArray))])).bind fun y6 =>
 (ZdW n (ZaF )).bind fun y8 =>
 if ((decide (y8 = 0)) && (decide (y4.2 = 0))) && (decide (((y4.1.fields.length : Int)) = 1)) then
  (idx y4.1.fields 0).bind fun x10 =>
  if sEq x10.1 ((⟨#[110]⟩ : ByteArray)) then
   if decide (x10.2.int = 1) then
    (Zfs n (ZaF ) y4.1).bind fun y13 =>
    some ((((y13 && (decide (y6.2.2 = 0))) && y6.2.1) && (decide (y6.1.kind = 4))) && (decide (y6.1.max = 5)))
   else
    some (false)
  else
   some (false)
 else
  some (false)
theorem Zea (w0 : World) (hP : Pow10 w0) (hT : Lib.Utf8Tabs 0 1 w0) (n : Nat) (B : List (List AV)) (Rw : List RowA) (L : List LoopA)  (r : Bool) (h : ZcU n  = some r) :
  ACalls Tryz.prog w0 14 [] ⟨B, Rw, L⟩ fun x st => x = .val (.bool r) ∧ st = ⟨B, Rw, L⟩ := by
 rw [ZcU] at h
 refine hd [.tmp 0] Tryz.func14 Tryz.ntmps14 fun M0 W0 hN hNR hNL hcalm hu hO hs => ?_
 simp only [Zan]
 refine rg [] hs ?_
 refine rc 2 [1] hs ?_; intro K2 hK2
 refine Zaf _ (Zih w0 _ _ _ ) (hv hs) ?_
 refine ne hs hK2 ?_
 clear hK2
 obtain ⟨y4, hy4, h⟩ := bind_some h
 refine rc 2 [1, 2, 3] hs ?_; intro K3 hK3
 refine Zaf _ (Zmx w0 hT n _ _ _ (ZaF ) _ hy4) (hv hs) ?_
 refine ne hs hK3 ?_
 clear hK3
 apply Zab; intro K5 hK5
 obtain ⟨y6, hy6, h⟩ := bind_some h
 apply Zac 2 [1, 2, 3, 4, 5, 6]
 rw [Zaa]; simp +decide only [go_sem, Nat.reduceAdd, ZaP, Zax, Zas]
 (repeat' apply And.intro) <;> first | refine Zaf _ (ZqK w0 hP hT n _ _ _ (ZaF ) ([Part.mk 1 0 ((⟨#[108]⟩ : ByteArray)), Part.mk 2 2 ((⟨#[]⟩ : ByteArray))]) _ hy6) (by first | rfl | (simp +decide only [go_sem, Nat.reduceAdd, ZaP, Zax, Zas]; done) | (simp +decide only [go_sem, Nat.reduceAdd, Vl.cs, Ty.cs, ZaP, Zax, Zas]; done)) ?_ | exact cl
 rw [Zaa]; simp +decide only [go_sem, Nat.reduceAdd, ZaP, Zax, Zas]
 (repeat' apply And.intro) <;> first | refine hK5 _ _ ?_ | exact cl
 clear hK5
 apply Zab; intro K7 hK7
 obtain ⟨y8, hy8, h⟩ := bind_some h
 rcases Bool.eq_false_or_eq_true (((decide (y8 = 0)) && (decide (y4.2 = 0))) && (decide (((y4.1.fields.length : Int)) = 1))) with hf9 | hf9
 ·
  replace h := ZaQ h hf9
  obtain ⟨x10, hx10a, hx10b, hx10d, h⟩ := ix avF h
  have hx10e : (y4.1.fields.map avF).getD 0 .junk = _ := hx10d
  rcases Bool.eq_false_or_eq_true (sEq x10.1 ((⟨#[110]⟩ : ByteArray))) with hf11 | hf11
  ·
   replace h := ZaQ h hf11
   rcases Bool.eq_false_or_eq_true (decide (x10.2.int = 1)) with hf12 | hf12
   ·
    replace h := ZaQ h hf12
    obtain ⟨y13, hy13, h⟩ := bind_some h
    have hs := And.intro hf9 hs
    have hs := And.intro hx10d hs
    have hs := And.intro hx10e hs
    have hs := And.intro hf11 hs
    have hs := And.intro hf12 hs
    refine rk 3 [0] hs ?_
    refine Zaf _ (Zcg w0 hT n _ _ _ (ZaF ) _ hy8) (hv hs) ?_
    refine nc hs ?_
    refine Zaf _ (ZjZ w0 hT n _ _ _ (ZaF ) y4.1 _ hy13) (hv hs) ?_
    refine ne hs hK7 ?_
    clear hK7
    exact rt h hs hcalm hO
   ·
    replace h := ZaO h hf12
    apply Zac 3 [0]
    rw [Zaa]; simp +decide only [go_sem, Nat.reduceAdd, hf9, hx10d, hx10e, hf11, hf12]
    have hs := And.intro hf9 hs
    have hs := And.intro hx10d hs
    have hs := And.intro hx10e hs
    have hs := And.intro hf11 hs
    have hs := And.intro hf12 hs
    (repeat' apply And.intro) <;> first | refine Zaf _ (Zcg w0 hT n _ _ _ (ZaF ) _ hy8) (hv hs) ?_ | exact cl
    rw [Zaa]; simp +decide only [go_sem, Nat.reduceAdd, hf9, hx10d, hx10e, hf11, hf12]
    (repeat' apply And.intro) <;> first | refine Zay ?_ | exact cl
    rw [Zaa]; simp +decide only [go_sem, Nat.reduceAdd, hf9, hx10d, hx10e, hf11, hf12]
    (repeat' apply And.intro) <;> first | refine hK7 _ _ ?_ | exact cl
    clear hK7
    exact rt h hs hcalm hO
  ·
   replace h := ZaO h hf11
   apply Zac 3 [0]
   rw [Zaa]; simp +decide only [go_sem, Nat.reduceAdd, hf9, hx10d, hx10e, hf11]
   have hs := And.intro hf9 hs
   have hs := And.intro hx10d hs
   have hs := And.intro hx10e hs
   have hs := And.intro hf11 hs
   (repeat' apply And.intro) <;> first | refine Zaf _ (Zcg w0 hT n _ _ _ (ZaF ) _ hy8) (hv hs) ?_ | exact cl
   rw [Zaa]; simp +decide only [go_sem, Nat.reduceAdd, hf9, hx10d, hx10e, hf11]
   (repeat' apply And.intro) <;> first | refine Zay ?_ | exact cl
   rw [Zaa]; simp +decide only [go_sem, Nat.reduceAdd, hf9, hx10d, hx10e, hf11]
   (repeat' apply And.intro) <;> first | refine hK7 _ _ ?_ | exact cl
   clear hK7
   exact rt h hs hcalm hO
 ·
  replace h := ZaO h hf9
  apply Zac 3 [0]
  rw [Zaa]; simp +decide only [go_sem, Nat.reduceAdd, hf9]
  have hs := And.intro hf9 hs
  (repeat' apply And.intro) <;> first | refine Zaf _ (Zcg w0 hT n _ _ _ (ZaF ) _ hy8) (hv hs) ?_ | exact cl
  rw [Zaa]; simp +decide only [go_sem, Nat.reduceAdd, hf9]
  (repeat' apply And.intro) <;> first | refine Zay ?_ | exact cl
  rw [Zaa]; simp +decide only [go_sem, Nat.reduceAdd, hf9]
  (repeat' apply And.intro) <;> first | refine hK7 _ _ ?_ | exact cl
  clear hK7
  exact rt h hs hcalm hO
theorem ZqY (m : Nat) : ZcU (m + 60) = some true := by kernel_rfl
theorem Zpl (n : Nat) (h : 60 ≤ n) : ZcU n = some true := by
 obtain ⟨m, rfl⟩ : ∃ m, n = m + 60 := ⟨n - 60, by omega⟩
 exact ZqY m
def ZbD (n : Nat)  (x3_k14 : List Ty) : Option ((List Ty)) :=
 some (x3_k14)
def ZbH (n : Nat) (a0 : Ty) : Nat → (List Ty) → Int → Option ((List Ty))
 | 0, _, _ => none
 | m + 1, x3_l19, x4_l19 =>
  if decide (x4_l19 < ((a0.fields.length : Int))) then
   (idx a0.fields x4_l19).bind fun x24 =>
   if (x3_l19.length + 1) * 104 ≤ 140737488355328 ∧ x3_l19.length + 1 ≤ 4611686018427387904 then
    if I64 (x4_l19 + 1) then
     (ZbH n a0 m) (x3_l19 ++ ([x24.2.2.2.1])) (x4_l19 + 1)
    else none
   else none
  else
   ZbD n x3_l19
def ZcQ (n : Nat) (a0 : Ty) (x3_k4 : List Ty) : Option ((List Ty)) :=
 if (decide (a0.kind = 9)) || (decide (a0.kind = 10)) then
  ZbH n a0 n x3_k4 0
 else
  ZbD n x3_k4
def Zdh (n : Nat) (a0 : Ty) : Option ((List Ty)) :=
 if decide (a0.kind = 8) then
  if (0 + a0.elem.length) * 104 ≤ 140737488355328 ∧ 0 + a0.elem.length ≤ 4611686018427387904 then
   ZcQ n a0 a0.elem
  else none
 else
  ZcQ n a0 ([])
theorem Zhk (w0 : World) (n : Nat) (B : List (List AV)) (Rw : List RowA) (L : List LoopA) (a0 : Ty) (r : (List Ty)) (h : Zdh n a0 = some r) :
  ACalls Tryz.prog w0 40 [.agg (a0.cs)] ⟨B, Rw, L⟩ fun x st => x = .list (r.map avT) .none ∧ st = ⟨B, Rw, L⟩ := by
 rw [Zdh] at h
 refine hd [.tmp 2] Tryz.func40 Tryz.ntmps40 fun M0 W0 hN hNR hNL hcalm hu hO hs => ?_
 simp only [Zan]
 refine rg [1] hs ?_
 refine rg [1, 3] hs ?_
 refine Zal (fun e st => ∃ (x3_k4 : List Ty) (ox3_k4 : Ev.Own), Ck e st B Rw L [(1, true, .box B.length 0), (3, true, .list (x3_k4.map avT) ox3_k4)] [a0.cs] [(7, x3_k4.length, ox3_k4)] (ZcQ n a0 x3_k4 = some r)) ?_ ?_
 ·
  intro K5 hK5
  refine rg [1, 3, 7] hs ?_
  refine cnd h hs (fun hs h => ?_) (fun hs h => ?_)
  ·
   obtain ⟨hg8, h⟩ := Zad h
   have hO := hO.full 7 0
   obtain ⟨o10, rows11, hO, hap12⟩ := hO.append (P := Tryz.prog) ZlK (by rw [Zg3]; rfl) (by decide) a0.elem.length hg8.1 hg8.2
   simp only [Nat.zero_add] at hO
   replace hap12 := fun (ys : List AV) B L o2 => hap12 ([]) ys B L o2 (by first | rfl | simp only [List.length_map, List.length_nil, List.length_append, List.length_cons, Nat.zero_add])
   replace hap12 := fun B L o2 => hap12 (a0.elem.map avT) B L o2 (by first | rfl | simp only [List.length_map, List.length_nil, List.length_cons]) ev
   try simp only [List.mem_singleton, List.mem_cons, List.not_mem_nil, or_false, forall_eq_or_imp, forall_eq, List.map_append, List.map_cons, List.map_nil, ZdZ, ZeA, Zeq, Zes, Zer, ZdU, Zc7, Zdb, Zez, ZbR, ZbQ, Zda] at hap12
   have hs := And.intro hap12 hs
   refine rl [1, 3] hs hK5 ?_
   exact ⟨a0.elem, o10, ([]), rows11, ef hs, ef hs, Owns.of_eq (hO) (by first | rfl | simp only [List.length_append, List.length_cons, List.length_nil, List.length_map, Nat.zero_add, Nat.add_zero]), h⟩
  refine sk [1, 3] hs hK5 ?_
  exact ⟨([]), .full, ([]), Rw, ef hs, ef hs, Owns.of_eq ((hO).full 7 0) (by first | rfl | simp only [List.length_append, List.length_cons, List.length_nil, List.length_map, Nat.zero_add, Nat.add_zero]), h⟩
 ·
  clear h; rintro e st ⟨x3_k4, ox3_k4, Xk4, Rk4, rfl, rfl, hO, h⟩
  rw [ZcQ] at h
  have hU := hO.unders
  simp only [List.mem_cons, List.not_mem_nil, or_false, forall_eq_or_imp, forall_eq] at hU
  refine td hN hNR hNL hcalm hO ?_
  refine Zal (fun e st => ∃ (x3_k14 : List Ty) (ox3_k14 : Ev.Own), Ck e st B Rw L [(3, true, .list (x3_k14.map avT) ox3_k14)] [a0.cs] [(7, x3_k14.length, ox3_k14)] (ZbD n x3_k14 = some r)) ?_ ?_
  ·
   intro K15 hK15
   refine rg [1, 3, 19] hs ?_
   refine cnd h hs (fun hs h => ?_) (fun hs h => ?_)
   ·
    refine rg [1, 3, 4] hs ?_
    apply Zae
    refine Zak (fun m e st => ∃ (x3_l19 : List Ty) (x4_l19 : Int) (ox3_l19 : Ev.Own), Ck e st B Rw L [(1, true, .box B.length 0), (3, true, .list (x3_l19.map avT) ox3_l19), (4, true, .val (.int .i64 x4_l19))] [a0.cs] [(7, x3_l19.length, ox3_l19)] (ZbH n a0 m x3_l19 x4_l19 = some r)) n ⟨x3_k4, 0, ox3_k4, ([]), Rk4, ef hs, ef hs, Owns.of_eq (hO) (by first | rfl | simp only [List.length_append, List.length_cons, List.length_nil, List.length_map, Nat.zero_add, Nat.add_zero]), h⟩ ?_
    rintro ml19 e st ⟨x3_l19, x4_l19, ox3_l19, Xl19, Rl19, rfl, rfl, hO, h⟩ Ul19 Vl19
    cases ml19 with
    | zero => cases h
    | succ ml19 =>
    rw [ZbH] at h
    have hU := hO.unders
    simp only [List.mem_cons, List.not_mem_nil, or_false, forall_eq_or_imp, forall_eq] at hU
    refine td hN hNR hNL hcalm hO ?_
    apply Zab; intro K20 hK20
    refine rg [1, 3, 4, 24] hs ?_
    refine cnd h hs (fun hs h => ?_) (fun hs h => ?_)
    rotate_left
    ·
     refine sx [3] hs hK15 ?_
     exact ⟨x3_l19, ox3_l19, ([]), Rl19, ef hs, ef hs, Owns.of_eq (hO) (by first | rfl | simp only [List.length_append, List.length_cons, List.length_nil, List.length_map, Nat.zero_add, Nat.add_zero]), h⟩
    refine sk [1, 3, 4] hs hK20 ?_
    clear hK20
    apply Zab; intro K23 hK23
    apply Zae
    obtain ⟨x24, hx24a, hx24b, hx24d, h⟩ := ix ZdK h
    obtain ⟨hg25, h⟩ := Zad h
    obtain ⟨o26, rows27, hO, hap28⟩ := hO.append (P := Tryz.prog) ZlK (by rw [Zg3]; rfl) (by decide) 1 hg25.1 hg25.2
    replace hap28 := fun (ys : List AV) B L o2 => hap28 (x3_l19.map avT) ys B L o2 (by first | rfl | simp only [List.length_map, List.length_nil, List.length_append, List.length_cons, Nat.zero_add])
    replace hap28 := fun (y : AV) B L o2 => hap28 [y] B L o2 (by first | rfl | simp only [List.length_map, List.length_nil, List.length_cons]) ev
    try simp only [List.mem_singleton, List.mem_cons, List.not_mem_nil, or_false, forall_eq_or_imp, forall_eq, List.map_append, List.map_cons, List.map_nil, ZdZ, ZeA, Zeq, Zes, Zer, ZdU, Zc7, Zdb, Zez, ZbR, ZbQ, Zda] at hap28
    have hs := And.intro hx24d hs
    have hs := And.intro hap28 hs
    refine rl [1, 3, 4] hs hK23 ?_
    clear hK23
    obtain ⟨hg29, h⟩ := Zad h
    refine rl [1, 3, 4] hs (fun e s => Vl19 ml19 e s (Nat.lt_succ_self _)) ?_
    exact ⟨(x3_l19 ++ ([x24.2.2.2.1])), (x4_l19 + 1), o26, ([]), rows27, ef hs, ef hs, Owns.of_eq (hO) (by first | rfl | simp only [List.length_append, List.length_cons, List.length_nil, List.length_map, Nat.zero_add, Nat.add_zero]), h⟩
   refine sk [3] hs hK15 ?_
   exact ⟨x3_k4, ox3_k4, ([]), Rk4, ef hs, ef hs, Owns.of_eq (hO) (by first | rfl | simp only [List.length_append, List.length_cons, List.length_nil, List.length_map, Nat.zero_add, Nat.add_zero]), h⟩
  ·
   clear h; rintro e st ⟨x3_k14, ox3_k14, Xk14, Rk14, rfl, rfl, hO, h⟩
   rw [ZbD] at h
   have hU := hO.unders
   simp only [List.mem_cons, List.not_mem_nil, or_false, forall_eq_or_imp, forall_eq] at hU
   refine td hN hNR hNL hcalm hO ?_
   refine rg [2] hs ?_
   exact rt h hs hcalm hO
def Zeo (rec : Ty → Option Int) (n : Nat)  (x3_k6 : Int) : Option Int :=
 if I64 (x3_k6 + 1) then
  some (x3_k6 + 1)
 else none
def Zcc (rec : Ty → Option Int) (n : Nat) (y4 : (List Ty)) : Nat → Int → Int → Option Int
 | 0, _, _ => none
 | m + 1, x3_l9, x5_l9 =>
  if decide (x5_l9 < ((y4.length : Int))) then
   (idx y4 x5_l9).bind fun x14 =>
   (rec x14).bind fun y15 =>
   if I64 (x5_l9 + 1) then
    (Zcc rec n y4 m) ((if x3_l9 < y15 then y15 else x3_l9)) (x5_l9 + 1)
   else none
  else
   Zeo rec n x3_l9
def Ze8 (rec : Ty → Option Int) (n : Nat) (a0 : Ty) : Option Int :=
 (Zdh n a0).bind fun y4 =>
 Zcc rec n y4 n 0 0
def Zbx : Nat → Ty → Option Int
 | 0, _ => none
 | n + 1, a0 => Ze8 (Zbx n) n a0
def Zgm (w0 : World) (F : Ty → Option Int) : Prop := ∀ (B : List (List AV)) (Rw : List RowA) (L : List LoopA) (a0 : Ty) (r : Int), F a0 = some r → ACalls Tryz.prog w0 44 [.agg (a0.cs)] ⟨B, Rw, L⟩ fun x st => x = .val (.int .i64 r) ∧ st = ⟨B, Rw, L⟩
theorem Zi5 (w0 : World) (rec : Ty → Option Int) (ih : Zgm w0 rec) (n : Nat) : Zgm w0 (Ze8 rec n) := by
 intro B Rw L a0 r h
 rw [Ze8] at h
 refine hd [.tmp 2] Tryz.func44 Tryz.ntmps44 fun M0 W0 hN hNR hNL hcalm hu hO hs => ?_
 simp only [Zan]
 refine rg [1] hs ?_
 refine rg [1, 3] hs ?_
 obtain ⟨y4, hy4, h⟩ := bind_some h
 refine rc 2 [3, 4] hs ?_; intro K3 hK3
 refine Zaf _ (Zhk w0 n _ _ _ a0 _ hy4) (hv hs) ?_
 refine ne hs hK3 ?_
 clear hK3
 refine Zal (fun e st => ∃ (x3_k6 : Int), Ck e st B Rw L [(3, true, .val (.int .i64 x3_k6))] [a0.cs] [] (Zeo rec n x3_k6 = some r)) ?_ ?_
 ·
  intro K7 hK7
  refine rg [3, 4, 5] hs ?_
  apply Zae
  refine Zak (fun m e st => ∃ (x3_l9 : Int) (x5_l9 : Int), Ck e st B Rw L [(3, true, .val (.int .i64 x3_l9)), (4, true, .list (y4.map avT) .none), (5, true, .val (.int .i64 x5_l9))] [a0.cs] [] (Zcc rec n y4 m x3_l9 x5_l9 = some r)) n ⟨0, 0, ([]), Rw, ef hs, ef hs, hO, h⟩ ?_
  rintro ml9 e st ⟨x3_l9, x5_l9, Xl9, Rl9, rfl, rfl, hO, h⟩ Ul9 Vl9
  cases ml9 with
  | zero => cases h
  | succ ml9 =>
  rw [Zcc] at h
  refine td hN hNR hNL hcalm hO ?_
  apply Zab; intro K10 hK10
  refine rg [3, 4, 5, 11] hs ?_
  refine cnd h hs (fun hs h => ?_) (fun hs h => ?_)
  rotate_left
  ·
   refine sx [3] hs hK7 ?_
   exact ⟨x3_l9, ([]), Rl9, ef hs, ef hs, hO, h⟩
  refine sk [3, 4, 5] hs hK10 ?_
  clear hK10
  apply Zab; intro K13 hK13
  apply Zae
  obtain ⟨x14, hx14a, hx14b, hx14d, h⟩ := ix avT h
  obtain ⟨y15, hy15, h⟩ := bind_some h
  have hs := And.intro hx14d hs
  refine rk 2 [3, 4, 5] hs ?_
  refine Zaf _ (ih _ _ _ x14 _ hy15) (hv hs) ?_
  refine ne hs hK13 ?_
  clear hK13
  obtain ⟨hg16, h⟩ := Zad h
  refine rl [3, 4, 5] hs (fun e s => Vl9 ml9 e s (Nat.lt_succ_self _)) ?_
  exact ⟨((if x3_l9 < y15 then y15 else x3_l9)), (x5_l9 + 1), ([]), Rl9, ef hs, ef hs, hO, h⟩
 ·
  clear h; rintro e st ⟨x3_k6, Xk6, Rk6, rfl, rfl, hO, h⟩
  rw [Zeo] at h
  refine td hN hNR hNL hcalm hO ?_
  obtain ⟨hg18, h⟩ := Zad h
  refine rg [2] hs ?_
  exact rt h hs hcalm hO
theorem ZfD (w0 : World) : ∀ n : Nat, Zgm w0 (Zbx n)
 | 0 => fun _ _ _ _ _ h => (nomatch h)
 | n + 1 => Zi5 w0 (Zbx n) (ZfD w0 n) n
def Zgn (rec : Ty → Option Int) (n : Nat)  (x3_k6 : Int) : Option Int :=
 some (x3_k6)
def ZcC (rec : Ty → Option Int) (n : Nat) (y4 : (List Ty)) : Nat → Int → Int → Option Int
 | 0, _, _ => none
 | m + 1, x3_l9, x5_l9 =>
  if decide (x5_l9 < ((y4.length : Int))) then
   (idx y4 x5_l9).bind fun x14 =>
   (rec x14).bind fun y15 =>
   if I64 (x3_l9 + y15) then
    if I64 (x5_l9 + 1) then
     (ZcC rec n y4 m) (x3_l9 + y15) (x5_l9 + 1)
    else none
   else none
  else
   Zgn rec n x3_l9
def Zf0 (rec : Ty → Option Int) (n : Nat) (a0 : Ty) : Option Int :=
 (Zdh n a0).bind fun y4 =>
 ZcC rec n y4 n 1 0
def Zds : Nat → Ty → Option Int
 | 0, _ => none
 | n + 1, a0 => Zf0 (Zds n) n a0
def ZhN (w0 : World) (F : Ty → Option Int) : Prop := ∀ (B : List (List AV)) (Rw : List RowA) (L : List LoopA) (a0 : Ty) (r : Int), F a0 = some r → ACalls Tryz.prog w0 42 [.agg (a0.cs)] ⟨B, Rw, L⟩ fun x st => x = .val (.int .i64 r) ∧ st = ⟨B, Rw, L⟩
theorem Zkr (w0 : World) (rec : Ty → Option Int) (ih : ZhN w0 rec) (n : Nat) : ZhN w0 (Zf0 rec n) := by
 intro B Rw L a0 r h
 rw [Zf0] at h
 refine hd [.tmp 2] Tryz.func42 Tryz.ntmps42 fun M0 W0 hN hNR hNL hcalm hu hO hs => ?_
 simp only [Zan]
 refine rg [1] hs ?_
 refine rg [1, 3] hs ?_
 obtain ⟨y4, hy4, h⟩ := bind_some h
 refine rc 2 [3, 4] hs ?_; intro K3 hK3
 refine Zaf _ (Zhk w0 n _ _ _ a0 _ hy4) (hv hs) ?_
 refine ne hs hK3 ?_
 clear hK3
 refine Zal (fun e st => ∃ (x3_k6 : Int), Ck e st B Rw L [(3, true, .val (.int .i64 x3_k6))] [a0.cs] [] (Zgn rec n x3_k6 = some r)) ?_ ?_
 ·
  intro K7 hK7
  refine rg [3, 4, 5] hs ?_
  apply Zae
  refine Zak (fun m e st => ∃ (x3_l9 : Int) (x5_l9 : Int), Ck e st B Rw L [(3, true, .val (.int .i64 x3_l9)), (4, true, .list (y4.map avT) .none), (5, true, .val (.int .i64 x5_l9))] [a0.cs] [] (ZcC rec n y4 m x3_l9 x5_l9 = some r)) n ⟨1, 0, ([]), Rw, ef hs, ef hs, hO, h⟩ ?_
  rintro ml9 e st ⟨x3_l9, x5_l9, Xl9, Rl9, rfl, rfl, hO, h⟩ Ul9 Vl9
  cases ml9 with
  | zero => cases h
  | succ ml9 =>
  rw [ZcC] at h
  refine td hN hNR hNL hcalm hO ?_
  apply Zab; intro K10 hK10
  refine rg [3, 4, 5, 11] hs ?_
  refine cnd h hs (fun hs h => ?_) (fun hs h => ?_)
  rotate_left
  ·
   refine sx [3] hs hK7 ?_
   exact ⟨x3_l9, ([]), Rl9, ef hs, ef hs, hO, h⟩
  refine sk [3, 4, 5] hs hK10 ?_
  clear hK10
  apply Zab; intro K13 hK13
  apply Zae
  obtain ⟨x14, hx14a, hx14b, hx14d, h⟩ := ix avT h
  obtain ⟨y15, hy15, h⟩ := bind_some h
  obtain ⟨hg16, h⟩ := Zad h
  have hs := And.intro hx14d hs
  refine rk 2 [3, 4, 5] hs ?_
  refine Zaf _ (ih _ _ _ x14 _ hy15) (hv hs) ?_
  refine ne hs hK13 ?_
  clear hK13
  obtain ⟨hg17, h⟩ := Zad h
  refine rl [3, 4, 5] hs (fun e s => Vl9 ml9 e s (Nat.lt_succ_self _)) ?_
  exact ⟨(x3_l9 + y15), (x5_l9 + 1), ([]), Rl9, ef hs, ef hs, hO, h⟩
 ·
  clear h; rintro e st ⟨x3_k6, Xk6, Rk6, rfl, rfl, hO, h⟩
  rw [Zgn] at h
  refine td hN hNR hNL hcalm hO ?_
  refine rg [2] hs ?_
  exact rt h hs hcalm hO
theorem ZeY (w0 : World) : ∀ n : Nat, ZhN w0 (Zds n)
 | 0 => fun _ _ _ _ _ h => (nomatch h)
 | n + 1 => Zkr w0 (Zds n) (ZeY w0 n) n
end Go.Proofs.YtggimoedcamonaaGreatDoor
