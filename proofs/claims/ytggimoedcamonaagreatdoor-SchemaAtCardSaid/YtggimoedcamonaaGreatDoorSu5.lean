/-
  Part 5 of the proof: rules and walks that the claim's last text uses.
-/
import Derived.Test.YtggimoedcamonaaGreatDoorSu4
set_option linter.unusedSimpArgs false
set_option linter.unusedVariables false
set_option maxRecDepth 100000
set_option maxHeartbeats 4000000
namespace Go.Proofs.YtggimoedcamonaaGreatDoor
open Go Go.RowKit Go.Ev
def v_Check_r7 (n : Nat)  : List (Nat × Vl) → Int → Option Int
 | [], b3_r7 =>
  some (0)
 | p_r7 :: rest, b3_r7 =>
  if I64 (b3_r7 + 1) then
   if decide (4096 < (b3_r7 + 1)) then
    some (9)
   else
    if decide (8 < ((p_r7.1 : Int))) then
     some (23)
    else
     if v_IsNull_F p_r7.2 then
      some (19)
     else
      if (decide (p_r7.2.kind < 1)) || (decide (10 < p_r7.2.kind)) then
       some (11)
      else
       if !(v_uses_F p_r7.2) then
        some (3)
       else
        if decide (p_r7.2.kind = 0) then
         none
        else
         if decide (p_r7.2.kind = 1) then
          if !(decide ((v_rules_1_F p_r7.2) = 0)) then
           some (v_rules_1_F p_r7.2)
          else
           (v_Check_r7 n rest) (b3_r7 + 1)
         else
          if decide (p_r7.2.kind = 2) then
           if !(decide ((v_rules_2_F p_r7.2) = 0)) then
            some (v_rules_2_F p_r7.2)
           else
            (v_Check_r7 n rest) (b3_r7 + 1)
          else
           if decide (p_r7.2.kind = 3) then
            (v_rules_3_F n p_r7.2).bind fun y42 =>
            if !(decide (y42 = 0)) then
             some (y42)
            else
             (v_Check_r7 n rest) (b3_r7 + 1)
           else
            if decide (p_r7.2.kind = 4) then
             (v_rules_4_F p_r7.2).bind fun y48 =>
             if !(decide (y48 = 0)) then
              some (y48)
             else
              (v_Check_r7 n rest) (b3_r7 + 1)
            else
             if decide (p_r7.2.kind = 5) then
              if !(decide ((v_rules_5_F p_r7.2) = 0)) then
               some (v_rules_5_F p_r7.2)
              else
               (v_Check_r7 n rest) (b3_r7 + 1)
             else
              if decide (p_r7.2.kind = 6) then
               if !(decide ((v_rules_6_F p_r7.2) = 0)) then
                some (v_rules_6_F p_r7.2)
               else
                (v_Check_r7 n rest) (b3_r7 + 1)
              else
               if decide (p_r7.2.kind = 7) then
                if !(decide ((v_rules_7_F p_r7.2) = 0)) then
                 some (v_rules_7_F p_r7.2)
                else
                 (v_Check_r7 n rest) (b3_r7 + 1)
               else
                if decide (p_r7.2.kind = 8) then
                 if !(decide ((v_rules_8_F p_r7.2) = 0)) then
                  some (v_rules_8_F p_r7.2)
                 else
                  (v_Check_r7 n rest) (b3_r7 + 1)
                else
                 if decide (p_r7.2.kind = 9) then
                  (v_rules_9_F n p_r7.2).bind fun y74 =>
                  if !(decide (y74 = 0)) then
                   some (y74)
                  else
                   (v_Check_r7 n rest) (b3_r7 + 1)
                 else
                  if decide (p_r7.2.kind = 10) then
                   (v_rules_10_F p_r7.2).bind fun y80 =>
                   if !(decide (y80 = 0)) then
                    some (y80)
                   else
                    (v_Check_r7 n rest) (b3_r7 + 1)
                  else
                   none
  else none
def v_Check_F (n : Nat) (a0 : Vl) : Option Int :=
 if a0.size < 1048576 then
  v_Check_r7 n (preV 1 a0) 0
 else none
theorem v_Check_at (w0 : World) (hT : Lib.Utf8Tabs 0 1 w0) (n : Nat) (B : List (List AV)) (Rw : List RowA) (L : List LoopA) (a0 : Vl) (r : Int) (h : v_Check_F n a0 = some r) :
  ACalls Tryz.prog w0 48 [.agg (a0.cs)] ⟨B, Rw, L⟩ fun x st => x = .val (.int .i64 r) ∧ st = ⟨B, Rw, L⟩ := by
 rw [v_Check_F] at h
 refine hd [.cell 2 29] Tryz.func48 Tryz.ntmps48 fun M0 W0 hN hNR hNL hcalm hu hO hs => ?_
 simp only [argsE]
 refine rg [1, 2] hs ?_
 apply awp_seq; intro K2 hK2
 apply awp_region 2 [1, 2, 3]
 rw [evK_succ]; simp +decide only [go_sem, Nat.reduceAdd, rulesA]
 (repeat' apply And.intro) <;> first | refine callK_p _ (rules_at w0 _ _ _ ) (by first | rfl | (simp +decide only [go_sem, Nat.reduceAdd, rulesA]; done) | (simp +decide only [go_sem, Nat.reduceAdd, Vl.cs, Ty.cs, rulesA]; done)) ?_ | exact cl
 rw [evK_succ]; simp +decide only [go_sem, Nat.reduceAdd, rulesA]
 (repeat' apply And.intro) <;> first | refine hK2 _ _ ?_ | exact cl
 clear hK2
 refine rg [1, 2, 3, 4] hs ?_
 apply awp_seq; intro K4 hK4
 refine rc 2 [2, 3, 4, 10] hs ?_; intro K5 hK5
 refine callK_pp _ (preorder_at w0 _ _ _ a0) (hv hs) ?_; rintro _ _ ⟨rfl, rfl⟩
 refine ne hs hK5 ?_
 clear hK5
 apply awp_block
 obtain ⟨hg6, h⟩ := guard_some h
 refine awp_range (itemsV a0) (fun st => st.boxes[(B.length + 4)]? = some a0.cs) (fun i st => ∃ (b3_r7 : Int) (Rr7 : List RowA), st = ⟨B ++ ([a0.cs, [.val (.int .i64 0)], [.val .nilFunc, .clo 122 [], .clo 124 [], .clo 125 [], .clo 127 [], .clo 130 [], .clo 131 [], .clo 132 [], .clo 133 [], .clo 134 [], .clo 135 []], [.val (.int .i64 b3_r7)], a0.cs]), Rr7, L⟩ ∧ Owns Rw Rr7 [] ∧ v_Check_r7 n ((preV 1 a0).drop i) b3_r7 = some r) (fun ex st => ex = .ret ∧ ∃ (z0 : List AV) (z2 : List AV) (z3 : List AV) (z4 : List AV) (rows : List RowA), st = ⟨B ++ [z0, [.val (.int .i64 r)], z2, z3, z4], rows, L⟩ ∧ Owns Rw rows []) ev ev (preorder_iter w0 a0 hg6 _) (fun x hx => itemsV_two a0 x hx) (by decide) ?_ ⟨0, Rw, ef hs, hO, h⟩ (fun _ _ h => .inl h.1) ?_ ?_ ?_
 ·
  rintro i st la ⟨b3_r7, Rr7, rfl, hO, h⟩ _ _; simp +decide [St.push]
 ·
  rintro i s1 ⟨XB, XR, XL⟩ x M1 W1 l la la' hX hI hlike hloops hx hra K hK
  obtain ⟨p_r7, hpi, rfl, hi⟩ := itemsV_get a0 i x hx
  (try simp only at hX)
  subst hX
  obtain ⟨b3_r7, Rr7, rfl, hO, h⟩ := hI
  rw [drop_get hpi, v_Check_r7] at h
  have hra0_r7 := hO
  simp only [St.ext, St.push, List.append_assoc, List.append_nil]
  refine rg [2, 3, 4, 5, 12] hs ?_
  apply awp_region 1 [2, 3, 4, 5, 6]
  rw [evK_succ]; simp +decide only [go_sem, Nat.reduceAdd]
  (repeat' apply And.intro) <;> first | refine hK _ _ (by simp [St.ext, St.push]) (fun KQ hKQ => ?_) | exact cl
  clear hK
  dsimp only [St.ext, St.push]
  apply awp_block
  obtain ⟨hg10, h⟩ := guard_some h
  refine rg [2, 3, 4, 5, 6] hs ?_
  apply awp_seq; intro K11 hK11
  apply awp_block
  refine rg [2, 3, 5, 6, 15] hs ?_
  refine cnd h hs (fun hs h => ?_) (fun hs h => ?_)
  ·
   have hb13 := hs.1
   refine rg [2] hs ?_
   apply awp_ret; simp +decide only [go_sem, Nat.reduceAdd, hb13]
   have hgt := Option.some.inj h; subst hgt
   refine hKQ _ _ _ ⟨⟨B ++ [a0.cs, [.val (.int .i64 9)], [.val .nilFunc, .clo 122 [], .clo 124 [], .clo 125 [], .clo 127 [], .clo 130 [], .clo 131 [], .clo 132 [], .clo 133 [], .clo 134 [], .clo 135 []], [.val (.int .i64 (b3_r7 + 1))], a0.cs], Rr7, L⟩, [p_r7.2.cs], by first | rfl | (simp only [List.append_assoc, List.append_nil, List.cons_append, List.nil_append]; done), ⟨by simp, by first | exact Nat.le_refl _ | (have := hO.len; simp; omega), rfl⟩, rfl, ⟨rfl, _, _, _, _, Rr7, ef hs, hO.sub (List.nil_sublist _)⟩, ?_⟩
   exact .inr (round_calm hra hra0_r7 hO rfl (by have := hO.len; have := hra0_r7.len; first | exact Nat.le_refl _ | omega) (by simp only [List.append_assoc, List.cons_append, List.nil_append]) (by (simp +decide only [go_sem, Nat.reduceAdd]) <;> (try (repeat' apply And.intro)) <;> first | omega | assumption))
  have hb13 := hs.1
  refine rg [2, 3, 6, 18] hs ?_
  refine cnd h hs (fun hs h => ?_) (fun hs h => ?_)
  ·
   have hb16 := hs.1
   refine rg [2] hs ?_
   apply awp_ret; simp +decide only [go_sem, Nat.reduceAdd, hb13, hb16]
   have hgt := Option.some.inj h; subst hgt
   refine hKQ _ _ _ ⟨⟨B ++ [a0.cs, [.val (.int .i64 23)], [.val .nilFunc, .clo 122 [], .clo 124 [], .clo 125 [], .clo 127 [], .clo 130 [], .clo 131 [], .clo 132 [], .clo 133 [], .clo 134 [], .clo 135 []], [.val (.int .i64 (b3_r7 + 1))], a0.cs], Rr7, L⟩, [p_r7.2.cs], by first | rfl | (simp only [List.append_assoc, List.append_nil, List.cons_append, List.nil_append]; done), ⟨by simp, by first | exact Nat.le_refl _ | (have := hO.len; simp; omega), rfl⟩, rfl, ⟨rfl, _, _, _, _, Rr7, ef hs, hO.sub (List.nil_sublist _)⟩, ?_⟩
   exact .inr (round_calm hra hra0_r7 hO rfl (by have := hO.len; have := hra0_r7.len; first | exact Nat.le_refl _ | omega) (by simp only [List.append_assoc, List.cons_append, List.nil_append]) (by (simp +decide only [go_sem, Nat.reduceAdd]) <;> (try (repeat' apply And.intro)) <;> first | omega | assumption))
  have hb16 := hs.1
  refine rc 2 [2, 3, 6, 21] hs ?_; intro K18 hK18
  refine callK_p _ (v_IsNull_at' w0 _ _ _ p_r7.2) (hv hs) ?_
  refine ne hs hK18 ?_
  clear hK18
  refine cnd h hs (fun hs h => ?_) (fun hs h => ?_)
  ·
   have hb19 := hs.1
   refine rg [2] hs ?_
   apply awp_ret; simp +decide only [go_sem, Nat.reduceAdd, hb13, hb16, hb19]
   have hgt := Option.some.inj h; subst hgt
   refine hKQ _ _ _ ⟨⟨B ++ [a0.cs, [.val (.int .i64 19)], [.val .nilFunc, .clo 122 [], .clo 124 [], .clo 125 [], .clo 127 [], .clo 130 [], .clo 131 [], .clo 132 [], .clo 133 [], .clo 134 [], .clo 135 []], [.val (.int .i64 (b3_r7 + 1))], a0.cs], Rr7, L⟩, [p_r7.2.cs], by first | rfl | (simp only [List.append_assoc, List.append_nil, List.cons_append, List.nil_append]; done), ⟨by simp, by first | exact Nat.le_refl _ | (have := hO.len; simp; omega), rfl⟩, rfl, ⟨rfl, _, _, _, _, Rr7, ef hs, hO.sub (List.nil_sublist _)⟩, ?_⟩
   exact .inr (round_calm hra hra0_r7 hO rfl (by have := hO.len; have := hra0_r7.len; first | exact Nat.le_refl _ | omega) (by simp only [List.append_assoc, List.cons_append, List.nil_append]) (by (simp +decide only [go_sem, Nat.reduceAdd]) <;> (try (repeat' apply And.intro)) <;> first | omega | assumption))
  have hb19 := hs.1
  refine rg [2, 3, 6, 24] hs ?_
  refine cnd h hs (fun hs h => ?_) (fun hs h => ?_)
  ·
   have hb22 := hs.1
   refine rg [2] hs ?_
   apply awp_ret; simp +decide only [go_sem, Nat.reduceAdd, hb13, hb16, hb19, hb22]
   have hgt := Option.some.inj h; subst hgt
   refine hKQ _ _ _ ⟨⟨B ++ [a0.cs, [.val (.int .i64 11)], [.val .nilFunc, .clo 122 [], .clo 124 [], .clo 125 [], .clo 127 [], .clo 130 [], .clo 131 [], .clo 132 [], .clo 133 [], .clo 134 [], .clo 135 []], [.val (.int .i64 (b3_r7 + 1))], a0.cs], Rr7, L⟩, [p_r7.2.cs], by first | rfl | (simp only [List.append_assoc, List.append_nil, List.cons_append, List.nil_append]; done), ⟨by simp, by first | exact Nat.le_refl _ | (have := hO.len; simp; omega), rfl⟩, rfl, ⟨rfl, _, _, _, _, Rr7, ef hs, hO.sub (List.nil_sublist _)⟩, ?_⟩
   exact .inr (round_calm hra hra0_r7 hO rfl (by have := hO.len; have := hra0_r7.len; first | exact Nat.le_refl _ | omega) (by simp only [List.append_assoc, List.cons_append, List.nil_append]) (by (simp +decide only [go_sem, Nat.reduceAdd]) <;> (try (repeat' apply And.intro)) <;> first | omega | assumption))
  have hb22 := hs.1
  refine rc 2 [2, 3, 6, 33] hs ?_; intro K24 hK24
  refine callK_p _ (v_uses_at' w0 _ _ _ p_r7.2) (hv hs) ?_
  refine ne hs hK24 ?_
  clear hK24
  refine cnd h hs (fun hs h => ?_) (fun hs h => ?_)
  ·
   have hb25 := hs.1
   refine rg [2] hs ?_
   apply awp_ret; simp +decide only [go_sem, Nat.reduceAdd, hb13, hb16, hb19, hb22, hb25]
   have hgt := Option.some.inj h; subst hgt
   refine hKQ _ _ _ ⟨⟨B ++ [a0.cs, [.val (.int .i64 3)], [.val .nilFunc, .clo 122 [], .clo 124 [], .clo 125 [], .clo 127 [], .clo 130 [], .clo 131 [], .clo 132 [], .clo 133 [], .clo 134 [], .clo 135 []], [.val (.int .i64 (b3_r7 + 1))], a0.cs], Rr7, L⟩, [p_r7.2.cs], by first | rfl | (simp only [List.append_assoc, List.append_nil, List.cons_append, List.nil_append]; done), ⟨by simp, by first | exact Nat.le_refl _ | (have := hO.len; simp; omega), rfl⟩, rfl, ⟨rfl, _, _, _, _, Rr7, ef hs, hO.sub (List.nil_sublist _)⟩, ?_⟩
   exact .inr (round_calm hra hra0_r7 hO rfl (by have := hO.len; have := hra0_r7.len; first | exact Nat.le_refl _ | omega) (by simp only [List.append_assoc, List.cons_append, List.nil_append]) (by (simp +decide only [go_sem, Nat.reduceAdd]) <;> (try (repeat' apply And.intro)) <;> first | omega | assumption))
  have hb25 := hs.1
  refine sk [2, 3, 6] hs hK11 ?_
  clear hK11
  apply awp_seq; intro K27 hK27
  rcases Bool.eq_false_or_eq_true (decide (p_r7.2.kind = 0)) with hf28 | hf28
  ·
   replace h := ite_tt h hf28
   have hk29 : p_r7.2.kind = 0 := of_decide_eq_true hf28
   cases h
  ·
   replace h := ite_ff h hf28
   rcases Bool.eq_false_or_eq_true (decide (p_r7.2.kind = 1)) with hf30 | hf30
   ·
    replace h := ite_tt h hf30
    have hk31 : p_r7.2.kind = 1 := of_decide_eq_true hf30
    apply awp_draw mix 7 2 1 [2, 7] (by kernel_rfl)
    rw [evK_succ]; simp +decide only [go_sem, Nat.reduceAdd, hb13, hb16, hb19, hb22, hb25, hf28, hf30, hk31]
    have hs := And.intro hf28 hs
    have hs := And.intro hf30 hs
    have hs := And.intro hk31 hs
    (repeat' apply And.intro) <;> first | refine callK_p _ (v_rules_1_at' w0 _ _ _ p_r7.2) (hv hs) ?_ | exact cl
    rw [evK_succ]; simp +decide only [go_sem, Nat.reduceAdd, hb13, hb16, hb19, hb22, hb25, hf28, hf30, hk31]
    (repeat' with_reducible apply And.intro) <;> first | (rw [evK_succ]; simp +decide only [go_sem, Nat.reduceAdd, hb13, hb16, hb19, hb22, hb25, hf28, hf30, hk31]) | exact cl
    (repeat' apply And.intro) <;> first | refine hK27 _ _ ?_ | exact cl
    clear hK27
    refine rg [2, 7, 44] hs ?_
    refine cnd h hs (fun hs h => ?_) (fun hs h => ?_)
    ·
     have hb33 := hs.1
     refine rg [2] hs ?_
     apply awp_ret; simp +decide only [go_sem, Nat.reduceAdd, hb13, hb16, hb19, hb22, hb25, hf28, hf30, hk31, hb33]
     have hgt := Option.some.inj h; subst hgt
     refine hKQ _ _ _ ⟨⟨B ++ [a0.cs, [.val (.int .i64 (v_rules_1_F p_r7.2))], [.val .nilFunc, .clo 122 [], .clo 124 [], .clo 125 [], .clo 127 [], .clo 130 [], .clo 131 [], .clo 132 [], .clo 133 [], .clo 134 [], .clo 135 []], [.val (.int .i64 (b3_r7 + 1))], a0.cs], Rr7, L⟩, [p_r7.2.cs], by first | rfl | (simp only [List.append_assoc, List.append_nil, List.cons_append, List.nil_append]; done), ⟨by simp, by first | exact Nat.le_refl _ | (have := hO.len; simp; omega), rfl⟩, rfl, ⟨rfl, _, _, _, _, Rr7, ef hs, hO.sub (List.nil_sublist _)⟩, ?_⟩
     exact .inr (round_calm hra hra0_r7 hO rfl (by have := hO.len; have := hra0_r7.len; first | exact Nat.le_refl _ | omega) (by simp only [List.append_assoc, List.cons_append, List.nil_append]) (by (simp +decide only [go_sem, Nat.reduceAdd]) <;> (try (repeat' apply And.intro)) <;> first | omega | assumption))
    have hb33 := hs.1
    refine awp_sub (keepL [] _) ?_ (sub_keepL _ _)
    apply awp_skip; simp +decide only [go_sem, Nat.reduceAdd]
    (repeat' apply And.intro) <;> first | refine hKQ _ _ _ ⟨⟨B ++ [a0.cs, [.val (.int .i64 0)], [.val .nilFunc, .clo 122 [], .clo 124 [], .clo 125 [], .clo 127 [], .clo 130 [], .clo 131 [], .clo 132 [], .clo 133 [], .clo 134 [], .clo 135 []], [.val (.int .i64 (b3_r7 + 1))], a0.cs], Rr7, L⟩, [p_r7.2.cs], by first | rfl | (simp only [List.append_assoc, List.append_nil, List.cons_append, List.nil_append]; done), ⟨by simp, by first | exact Nat.le_refl _ | (have := hO.len; simp; omega), rfl⟩, rfl, ⟨(b3_r7 + 1), Rr7, ef hs, hO, h⟩, ?_⟩ | exact cl
    exact .inr (round_calm hra hra0_r7 hO rfl (by have := hO.len; have := hra0_r7.len; first | exact Nat.le_refl _ | omega) (by simp only [List.append_assoc, List.cons_append, List.nil_append]) (by (simp +decide only [go_sem, Nat.reduceAdd]) <;> (try (repeat' apply And.intro)) <;> first | omega | assumption))
   ·
    replace h := ite_ff h hf30
    rcases Bool.eq_false_or_eq_true (decide (p_r7.2.kind = 2)) with hf35 | hf35
    ·
     replace h := ite_tt h hf35
     have hk36 : p_r7.2.kind = 2 := of_decide_eq_true hf35
     apply awp_draw mix 7 2 1 [2, 7] (by kernel_rfl)
     rw [evK_succ]; simp +decide only [go_sem, Nat.reduceAdd, hb13, hb16, hb19, hb22, hb25, hf28, hf30, hf35, hk36]
     have hs := And.intro hf28 hs
     have hs := And.intro hf30 hs
     have hs := And.intro hf35 hs
     have hs := And.intro hk36 hs
     (repeat' apply And.intro) <;> first | refine callK_p _ (v_rules_2_at' w0 _ _ _ p_r7.2) (hv hs) ?_ | exact cl
     rw [evK_succ]; simp +decide only [go_sem, Nat.reduceAdd, hb13, hb16, hb19, hb22, hb25, hf28, hf30, hf35, hk36]
     (repeat' with_reducible apply And.intro) <;> first | (rw [evK_succ]; simp +decide only [go_sem, Nat.reduceAdd, hb13, hb16, hb19, hb22, hb25, hf28, hf30, hf35, hk36]) | exact cl
     (repeat' apply And.intro) <;> first | refine hK27 _ _ ?_ | exact cl
     clear hK27
     refine rg [2, 7, 44] hs ?_
     refine cnd h hs (fun hs h => ?_) (fun hs h => ?_)
     ·
      have hb38 := hs.1
      refine rg [2] hs ?_
      apply awp_ret; simp +decide only [go_sem, Nat.reduceAdd, hb13, hb16, hb19, hb22, hb25, hf28, hf30, hf35, hk36, hb38]
      have hgt := Option.some.inj h; subst hgt
      refine hKQ _ _ _ ⟨⟨B ++ [a0.cs, [.val (.int .i64 (v_rules_2_F p_r7.2))], [.val .nilFunc, .clo 122 [], .clo 124 [], .clo 125 [], .clo 127 [], .clo 130 [], .clo 131 [], .clo 132 [], .clo 133 [], .clo 134 [], .clo 135 []], [.val (.int .i64 (b3_r7 + 1))], a0.cs], Rr7, L⟩, [p_r7.2.cs], by first | rfl | (simp only [List.append_assoc, List.append_nil, List.cons_append, List.nil_append]; done), ⟨by simp, by first | exact Nat.le_refl _ | (have := hO.len; simp; omega), rfl⟩, rfl, ⟨rfl, _, _, _, _, Rr7, ef hs, hO.sub (List.nil_sublist _)⟩, ?_⟩
      exact .inr (round_calm hra hra0_r7 hO rfl (by have := hO.len; have := hra0_r7.len; first | exact Nat.le_refl _ | omega) (by simp only [List.append_assoc, List.cons_append, List.nil_append]) (by (simp +decide only [go_sem, Nat.reduceAdd]) <;> (try (repeat' apply And.intro)) <;> first | omega | assumption))
     have hb38 := hs.1
     refine awp_sub (keepL [] _) ?_ (sub_keepL _ _)
     apply awp_skip; simp +decide only [go_sem, Nat.reduceAdd]
     (repeat' apply And.intro) <;> first | refine hKQ _ _ _ ⟨⟨B ++ [a0.cs, [.val (.int .i64 0)], [.val .nilFunc, .clo 122 [], .clo 124 [], .clo 125 [], .clo 127 [], .clo 130 [], .clo 131 [], .clo 132 [], .clo 133 [], .clo 134 [], .clo 135 []], [.val (.int .i64 (b3_r7 + 1))], a0.cs], Rr7, L⟩, [p_r7.2.cs], by first | rfl | (simp only [List.append_assoc, List.append_nil, List.cons_append, List.nil_append]; done), ⟨by simp, by first | exact Nat.le_refl _ | (have := hO.len; simp; omega), rfl⟩, rfl, ⟨(b3_r7 + 1), Rr7, ef hs, hO, h⟩, ?_⟩ | exact cl
     exact .inr (round_calm hra hra0_r7 hO rfl (by have := hO.len; have := hra0_r7.len; first | exact Nat.le_refl _ | omega) (by simp only [List.append_assoc, List.cons_append, List.nil_append]) (by (simp +decide only [go_sem, Nat.reduceAdd]) <;> (try (repeat' apply And.intro)) <;> first | omega | assumption))
    ·
     replace h := ite_ff h hf35
     rcases Bool.eq_false_or_eq_true (decide (p_r7.2.kind = 3)) with hf40 | hf40
     ·
      replace h := ite_tt h hf40
      have hk41 : p_r7.2.kind = 3 := of_decide_eq_true hf40
      obtain ⟨y42, hy42, h⟩ := bind_some h
      apply awp_draw mix 7 2 1 [2, 7] (by kernel_rfl)
      rw [evK_succ]; simp +decide only [go_sem, Nat.reduceAdd, hb13, hb16, hb19, hb22, hb25, hf28, hf30, hf35, hf40, hk41]
      have hs := And.intro hf28 hs
      have hs := And.intro hf30 hs
      have hs := And.intro hf35 hs
      have hs := And.intro hf40 hs
      have hs := And.intro hk41 hs
      (repeat' apply And.intro) <;> first | refine callK_p _ (v_rules_3_at w0 n _ _ _ p_r7.2 _ hy42) (hv hs) ?_ | exact cl
      rw [evK_succ]; simp +decide only [go_sem, Nat.reduceAdd, hb13, hb16, hb19, hb22, hb25, hf28, hf30, hf35, hf40, hk41]
      (repeat' with_reducible apply And.intro) <;> first | (rw [evK_succ]; simp +decide only [go_sem, Nat.reduceAdd, hb13, hb16, hb19, hb22, hb25, hf28, hf30, hf35, hf40, hk41]) | exact cl
      (repeat' apply And.intro) <;> first | refine hK27 _ _ ?_ | exact cl
      clear hK27
      refine rg [2, 7, 44] hs ?_
      refine cnd h hs (fun hs h => ?_) (fun hs h => ?_)
      ·
       have hb44 := hs.1
       refine rg [2] hs ?_
       apply awp_ret; simp +decide only [go_sem, Nat.reduceAdd, hb13, hb16, hb19, hb22, hb25, hf28, hf30, hf35, hf40, hk41, hb44]
       have hgt := Option.some.inj h; subst hgt
       refine hKQ _ _ _ ⟨⟨B ++ [a0.cs, [.val (.int .i64 y42)], [.val .nilFunc, .clo 122 [], .clo 124 [], .clo 125 [], .clo 127 [], .clo 130 [], .clo 131 [], .clo 132 [], .clo 133 [], .clo 134 [], .clo 135 []], [.val (.int .i64 (b3_r7 + 1))], a0.cs], Rr7, L⟩, [p_r7.2.cs], by first | rfl | (simp only [List.append_assoc, List.append_nil, List.cons_append, List.nil_append]; done), ⟨by simp, by first | exact Nat.le_refl _ | (have := hO.len; simp; omega), rfl⟩, rfl, ⟨rfl, _, _, _, _, Rr7, ef hs, hO.sub (List.nil_sublist _)⟩, ?_⟩
       exact .inr (round_calm hra hra0_r7 hO rfl (by have := hO.len; have := hra0_r7.len; first | exact Nat.le_refl _ | omega) (by simp only [List.append_assoc, List.cons_append, List.nil_append]) (by (simp +decide only [go_sem, Nat.reduceAdd]) <;> (try (repeat' apply And.intro)) <;> first | omega | assumption))
      have hb44 := hs.1
      refine awp_sub (keepL [] _) ?_ (sub_keepL _ _)
      apply awp_skip; simp +decide only [go_sem, Nat.reduceAdd]
      (repeat' apply And.intro) <;> first | refine hKQ _ _ _ ⟨⟨B ++ [a0.cs, [.val (.int .i64 0)], [.val .nilFunc, .clo 122 [], .clo 124 [], .clo 125 [], .clo 127 [], .clo 130 [], .clo 131 [], .clo 132 [], .clo 133 [], .clo 134 [], .clo 135 []], [.val (.int .i64 (b3_r7 + 1))], a0.cs], Rr7, L⟩, [p_r7.2.cs], by first | rfl | (simp only [List.append_assoc, List.append_nil, List.cons_append, List.nil_append]; done), ⟨by simp, by first | exact Nat.le_refl _ | (have := hO.len; simp; omega), rfl⟩, rfl, ⟨(b3_r7 + 1), Rr7, ef hs, hO, h⟩, ?_⟩ | exact cl
      exact .inr (round_calm hra hra0_r7 hO rfl (by have := hO.len; have := hra0_r7.len; first | exact Nat.le_refl _ | omega) (by simp only [List.append_assoc, List.cons_append, List.nil_append]) (by (simp +decide only [go_sem, Nat.reduceAdd]) <;> (try (repeat' apply And.intro)) <;> first | omega | assumption))
     ·
      replace h := ite_ff h hf40
      rcases Bool.eq_false_or_eq_true (decide (p_r7.2.kind = 4)) with hf46 | hf46
      ·
       replace h := ite_tt h hf46
       have hk47 : p_r7.2.kind = 4 := of_decide_eq_true hf46
       obtain ⟨y48, hy48, h⟩ := bind_some h
       apply awp_draw mix 7 2 1 [2, 7] (by kernel_rfl)
       rw [evK_succ]; simp +decide only [go_sem, Nat.reduceAdd, hb13, hb16, hb19, hb22, hb25, hf28, hf30, hf35, hf40, hf46, hk47]
       have hs := And.intro hf28 hs
       have hs := And.intro hf30 hs
       have hs := And.intro hf35 hs
       have hs := And.intro hf40 hs
       have hs := And.intro hf46 hs
       have hs := And.intro hk47 hs
       (repeat' apply And.intro) <;> first | refine callK_p _ (v_rules_4_at w0 hT _ _ _ p_r7.2 _ hy48) (hv hs) ?_ | exact cl
       rw [evK_succ]; simp +decide only [go_sem, Nat.reduceAdd, hb13, hb16, hb19, hb22, hb25, hf28, hf30, hf35, hf40, hf46, hk47]
       (repeat' with_reducible apply And.intro) <;> first | (rw [evK_succ]; simp +decide only [go_sem, Nat.reduceAdd, hb13, hb16, hb19, hb22, hb25, hf28, hf30, hf35, hf40, hf46, hk47]) | exact cl
       (repeat' apply And.intro) <;> first | refine hK27 _ _ ?_ | exact cl
       clear hK27
       refine rg [2, 7, 44] hs ?_
       refine cnd h hs (fun hs h => ?_) (fun hs h => ?_)
       ·
        have hb50 := hs.1
        refine rg [2] hs ?_
        apply awp_ret; simp +decide only [go_sem, Nat.reduceAdd, hb13, hb16, hb19, hb22, hb25, hf28, hf30, hf35, hf40, hf46, hk47, hb50]
        have hgt := Option.some.inj h; subst hgt
        refine hKQ _ _ _ ⟨⟨B ++ [a0.cs, [.val (.int .i64 y48)], [.val .nilFunc, .clo 122 [], .clo 124 [], .clo 125 [], .clo 127 [], .clo 130 [], .clo 131 [], .clo 132 [], .clo 133 [], .clo 134 [], .clo 135 []], [.val (.int .i64 (b3_r7 + 1))], a0.cs], Rr7, L⟩, [p_r7.2.cs], by first | rfl | (simp only [List.append_assoc, List.append_nil, List.cons_append, List.nil_append]; done), ⟨by simp, by first | exact Nat.le_refl _ | (have := hO.len; simp; omega), rfl⟩, rfl, ⟨rfl, _, _, _, _, Rr7, ef hs, hO.sub (List.nil_sublist _)⟩, ?_⟩
        exact .inr (round_calm hra hra0_r7 hO rfl (by have := hO.len; have := hra0_r7.len; first | exact Nat.le_refl _ | omega) (by simp only [List.append_assoc, List.cons_append, List.nil_append]) (by (simp +decide only [go_sem, Nat.reduceAdd]) <;> (try (repeat' apply And.intro)) <;> first | omega | assumption))
       have hb50 := hs.1
       refine awp_sub (keepL [] _) ?_ (sub_keepL _ _)
       apply awp_skip; simp +decide only [go_sem, Nat.reduceAdd]
       (repeat' apply And.intro) <;> first | refine hKQ _ _ _ ⟨⟨B ++ [a0.cs, [.val (.int .i64 0)], [.val .nilFunc, .clo 122 [], .clo 124 [], .clo 125 [], .clo 127 [], .clo 130 [], .clo 131 [], .clo 132 [], .clo 133 [], .clo 134 [], .clo 135 []], [.val (.int .i64 (b3_r7 + 1))], a0.cs], Rr7, L⟩, [p_r7.2.cs], by first | rfl | (simp only [List.append_assoc, List.append_nil, List.cons_append, List.nil_append]; done), ⟨by simp, by first | exact Nat.le_refl _ | (have := hO.len; simp; omega), rfl⟩, rfl, ⟨(b3_r7 + 1), Rr7, ef hs, hO, h⟩, ?_⟩ | exact cl
       exact .inr (round_calm hra hra0_r7 hO rfl (by have := hO.len; have := hra0_r7.len; first | exact Nat.le_refl _ | omega) (by simp only [List.append_assoc, List.cons_append, List.nil_append]) (by (simp +decide only [go_sem, Nat.reduceAdd]) <;> (try (repeat' apply And.intro)) <;> first | omega | assumption))
      ·
       replace h := ite_ff h hf46
       rcases Bool.eq_false_or_eq_true (decide (p_r7.2.kind = 5)) with hf52 | hf52
       ·
        replace h := ite_tt h hf52
        have hk53 : p_r7.2.kind = 5 := of_decide_eq_true hf52
        apply awp_draw mix 7 2 1 [2, 7] (by kernel_rfl)
        rw [evK_succ]; simp +decide only [go_sem, Nat.reduceAdd, hb13, hb16, hb19, hb22, hb25, hf28, hf30, hf35, hf40, hf46, hf52, hk53]
        have hs := And.intro hf28 hs
        have hs := And.intro hf30 hs
        have hs := And.intro hf35 hs
        have hs := And.intro hf40 hs
        have hs := And.intro hf46 hs
        have hs := And.intro hf52 hs
        have hs := And.intro hk53 hs
        (repeat' apply And.intro) <;> first | refine callK_p _ (v_rules_5_at' w0 _ _ _ p_r7.2) (hv hs) ?_ | exact cl
        rw [evK_succ]; simp +decide only [go_sem, Nat.reduceAdd, hb13, hb16, hb19, hb22, hb25, hf28, hf30, hf35, hf40, hf46, hf52, hk53]
        (repeat' with_reducible apply And.intro) <;> first | (rw [evK_succ]; simp +decide only [go_sem, Nat.reduceAdd, hb13, hb16, hb19, hb22, hb25, hf28, hf30, hf35, hf40, hf46, hf52, hk53]) | exact cl
        (repeat' apply And.intro) <;> first | refine hK27 _ _ ?_ | exact cl
        clear hK27
        refine rg [2, 7, 44] hs ?_
        refine cnd h hs (fun hs h => ?_) (fun hs h => ?_)
        ·
         have hb55 := hs.1
         refine rg [2] hs ?_
         apply awp_ret; simp +decide only [go_sem, Nat.reduceAdd, hb13, hb16, hb19, hb22, hb25, hf28, hf30, hf35, hf40, hf46, hf52, hk53, hb55]
         have hgt := Option.some.inj h; subst hgt
         refine hKQ _ _ _ ⟨⟨B ++ [a0.cs, [.val (.int .i64 (v_rules_5_F p_r7.2))], [.val .nilFunc, .clo 122 [], .clo 124 [], .clo 125 [], .clo 127 [], .clo 130 [], .clo 131 [], .clo 132 [], .clo 133 [], .clo 134 [], .clo 135 []], [.val (.int .i64 (b3_r7 + 1))], a0.cs], Rr7, L⟩, [p_r7.2.cs], by first | rfl | (simp only [List.append_assoc, List.append_nil, List.cons_append, List.nil_append]; done), ⟨by simp, by first | exact Nat.le_refl _ | (have := hO.len; simp; omega), rfl⟩, rfl, ⟨rfl, _, _, _, _, Rr7, ef hs, hO.sub (List.nil_sublist _)⟩, ?_⟩
         exact .inr (round_calm hra hra0_r7 hO rfl (by have := hO.len; have := hra0_r7.len; first | exact Nat.le_refl _ | omega) (by simp only [List.append_assoc, List.cons_append, List.nil_append]) (by (simp +decide only [go_sem, Nat.reduceAdd]) <;> (try (repeat' apply And.intro)) <;> first | omega | assumption))
        have hb55 := hs.1
        refine awp_sub (keepL [] _) ?_ (sub_keepL _ _)
        apply awp_skip; simp +decide only [go_sem, Nat.reduceAdd]
        (repeat' apply And.intro) <;> first | refine hKQ _ _ _ ⟨⟨B ++ [a0.cs, [.val (.int .i64 0)], [.val .nilFunc, .clo 122 [], .clo 124 [], .clo 125 [], .clo 127 [], .clo 130 [], .clo 131 [], .clo 132 [], .clo 133 [], .clo 134 [], .clo 135 []], [.val (.int .i64 (b3_r7 + 1))], a0.cs], Rr7, L⟩, [p_r7.2.cs], by first | rfl | (simp only [List.append_assoc, List.append_nil, List.cons_append, List.nil_append]; done), ⟨by simp, by first | exact Nat.le_refl _ | (have := hO.len; simp; omega), rfl⟩, rfl, ⟨(b3_r7 + 1), Rr7, ef hs, hO, h⟩, ?_⟩ | exact cl
        exact .inr (round_calm hra hra0_r7 hO rfl (by have := hO.len; have := hra0_r7.len; first | exact Nat.le_refl _ | omega) (by simp only [List.append_assoc, List.cons_append, List.nil_append]) (by (simp +decide only [go_sem, Nat.reduceAdd]) <;> (try (repeat' apply And.intro)) <;> first | omega | assumption))
       ·
        replace h := ite_ff h hf52
        rcases Bool.eq_false_or_eq_true (decide (p_r7.2.kind = 6)) with hf57 | hf57
        ·
         replace h := ite_tt h hf57
         have hk58 : p_r7.2.kind = 6 := of_decide_eq_true hf57
         apply awp_draw mix 7 2 1 [2, 7] (by kernel_rfl)
         rw [evK_succ]; simp +decide only [go_sem, Nat.reduceAdd, hb13, hb16, hb19, hb22, hb25, hf28, hf30, hf35, hf40, hf46, hf52, hf57, hk58]
         have hs := And.intro hf28 hs
         have hs := And.intro hf30 hs
         have hs := And.intro hf35 hs
         have hs := And.intro hf40 hs
         have hs := And.intro hf46 hs
         have hs := And.intro hf52 hs
         have hs := And.intro hf57 hs
         have hs := And.intro hk58 hs
         (repeat' apply And.intro) <;> first | refine callK_p _ (v_rules_6_at' w0 _ _ _ p_r7.2) (hv hs) ?_ | exact cl
         rw [evK_succ]; simp +decide only [go_sem, Nat.reduceAdd, hb13, hb16, hb19, hb22, hb25, hf28, hf30, hf35, hf40, hf46, hf52, hf57, hk58]
         (repeat' with_reducible apply And.intro) <;> first | (rw [evK_succ]; simp +decide only [go_sem, Nat.reduceAdd, hb13, hb16, hb19, hb22, hb25, hf28, hf30, hf35, hf40, hf46, hf52, hf57, hk58]) | exact cl
         (repeat' apply And.intro) <;> first | refine hK27 _ _ ?_ | exact cl
         clear hK27
         refine rg [2, 7, 44] hs ?_
         refine cnd h hs (fun hs h => ?_) (fun hs h => ?_)
         ·
          have hb60 := hs.1
          refine rg [2] hs ?_
          apply awp_ret; simp +decide only [go_sem, Nat.reduceAdd, hb13, hb16, hb19, hb22, hb25, hf28, hf30, hf35, hf40, hf46, hf52, hf57, hk58, hb60]
          have hgt := Option.some.inj h; subst hgt
          refine hKQ _ _ _ ⟨⟨B ++ [a0.cs, [.val (.int .i64 (v_rules_6_F p_r7.2))], [.val .nilFunc, .clo 122 [], .clo 124 [], .clo 125 [], .clo 127 [], .clo 130 [], .clo 131 [], .clo 132 [], .clo 133 [], .clo 134 [], .clo 135 []], [.val (.int .i64 (b3_r7 + 1))], a0.cs], Rr7, L⟩, [p_r7.2.cs], by first | rfl | (simp only [List.append_assoc, List.append_nil, List.cons_append, List.nil_append]; done), ⟨by simp, by first | exact Nat.le_refl _ | (have := hO.len; simp; omega), rfl⟩, rfl, ⟨rfl, _, _, _, _, Rr7, ef hs, hO.sub (List.nil_sublist _)⟩, ?_⟩
          exact .inr (round_calm hra hra0_r7 hO rfl (by have := hO.len; have := hra0_r7.len; first | exact Nat.le_refl _ | omega) (by simp only [List.append_assoc, List.cons_append, List.nil_append]) (by (simp +decide only [go_sem, Nat.reduceAdd]) <;> (try (repeat' apply And.intro)) <;> first | omega | assumption))
         have hb60 := hs.1
         refine awp_sub (keepL [] _) ?_ (sub_keepL _ _)
         apply awp_skip; simp +decide only [go_sem, Nat.reduceAdd]
         (repeat' apply And.intro) <;> first | refine hKQ _ _ _ ⟨⟨B ++ [a0.cs, [.val (.int .i64 0)], [.val .nilFunc, .clo 122 [], .clo 124 [], .clo 125 [], .clo 127 [], .clo 130 [], .clo 131 [], .clo 132 [], .clo 133 [], .clo 134 [], .clo 135 []], [.val (.int .i64 (b3_r7 + 1))], a0.cs], Rr7, L⟩, [p_r7.2.cs], by first | rfl | (simp only [List.append_assoc, List.append_nil, List.cons_append, List.nil_append]; done), ⟨by simp, by first | exact Nat.le_refl _ | (have := hO.len; simp; omega), rfl⟩, rfl, ⟨(b3_r7 + 1), Rr7, ef hs, hO, h⟩, ?_⟩ | exact cl
         exact .inr (round_calm hra hra0_r7 hO rfl (by have := hO.len; have := hra0_r7.len; first | exact Nat.le_refl _ | omega) (by simp only [List.append_assoc, List.cons_append, List.nil_append]) (by (simp +decide only [go_sem, Nat.reduceAdd]) <;> (try (repeat' apply And.intro)) <;> first | omega | assumption))
        ·
         replace h := ite_ff h hf57
         rcases Bool.eq_false_or_eq_true (decide (p_r7.2.kind = 7)) with hf62 | hf62
         ·
          replace h := ite_tt h hf62
          have hk63 : p_r7.2.kind = 7 := of_decide_eq_true hf62
          apply awp_draw mix 7 2 1 [2, 7] (by kernel_rfl)
          rw [evK_succ]; simp +decide only [go_sem, Nat.reduceAdd, hb13, hb16, hb19, hb22, hb25, hf28, hf30, hf35, hf40, hf46, hf52, hf57, hf62, hk63]
          have hs := And.intro hf28 hs
          have hs := And.intro hf30 hs
          have hs := And.intro hf35 hs
          have hs := And.intro hf40 hs
          have hs := And.intro hf46 hs
          have hs := And.intro hf52 hs
          have hs := And.intro hf57 hs
          have hs := And.intro hf62 hs
          have hs := And.intro hk63 hs
          (repeat' apply And.intro) <;> first | refine callK_p _ (v_rules_7_at' w0 _ _ _ p_r7.2) (hv hs) ?_ | exact cl
          rw [evK_succ]; simp +decide only [go_sem, Nat.reduceAdd, hb13, hb16, hb19, hb22, hb25, hf28, hf30, hf35, hf40, hf46, hf52, hf57, hf62, hk63]
          (repeat' with_reducible apply And.intro) <;> first | (rw [evK_succ]; simp +decide only [go_sem, Nat.reduceAdd, hb13, hb16, hb19, hb22, hb25, hf28, hf30, hf35, hf40, hf46, hf52, hf57, hf62, hk63]) | exact cl
          (repeat' apply And.intro) <;> first | refine hK27 _ _ ?_ | exact cl
          clear hK27
          refine rg [2, 7, 44] hs ?_
          refine cnd h hs (fun hs h => ?_) (fun hs h => ?_)
          ·
           have hb65 := hs.1
           refine rg [2] hs ?_
           apply awp_ret; simp +decide only [go_sem, Nat.reduceAdd, hb13, hb16, hb19, hb22, hb25, hf28, hf30, hf35, hf40, hf46, hf52, hf57, hf62, hk63, hb65]
           have hgt := Option.some.inj h; subst hgt
           refine hKQ _ _ _ ⟨⟨B ++ [a0.cs, [.val (.int .i64 (v_rules_7_F p_r7.2))], [.val .nilFunc, .clo 122 [], .clo 124 [], .clo 125 [], .clo 127 [], .clo 130 [], .clo 131 [], .clo 132 [], .clo 133 [], .clo 134 [], .clo 135 []], [.val (.int .i64 (b3_r7 + 1))], a0.cs], Rr7, L⟩, [p_r7.2.cs], by first | rfl | (simp only [List.append_assoc, List.append_nil, List.cons_append, List.nil_append]; done), ⟨by simp, by first | exact Nat.le_refl _ | (have := hO.len; simp; omega), rfl⟩, rfl, ⟨rfl, _, _, _, _, Rr7, ef hs, hO.sub (List.nil_sublist _)⟩, ?_⟩
           exact .inr (round_calm hra hra0_r7 hO rfl (by have := hO.len; have := hra0_r7.len; first | exact Nat.le_refl _ | omega) (by simp only [List.append_assoc, List.cons_append, List.nil_append]) (by (simp +decide only [go_sem, Nat.reduceAdd]) <;> (try (repeat' apply And.intro)) <;> first | omega | assumption))
          have hb65 := hs.1
          refine awp_sub (keepL [] _) ?_ (sub_keepL _ _)
          apply awp_skip; simp +decide only [go_sem, Nat.reduceAdd]
          (repeat' apply And.intro) <;> first | refine hKQ _ _ _ ⟨⟨B ++ [a0.cs, [.val (.int .i64 0)], [.val .nilFunc, .clo 122 [], .clo 124 [], .clo 125 [], .clo 127 [], .clo 130 [], .clo 131 [], .clo 132 [], .clo 133 [], .clo 134 [], .clo 135 []], [.val (.int .i64 (b3_r7 + 1))], a0.cs], Rr7, L⟩, [p_r7.2.cs], by first | rfl | (simp only [List.append_assoc, List.append_nil, List.cons_append, List.nil_append]; done), ⟨by simp, by first | exact Nat.le_refl _ | (have := hO.len; simp; omega), rfl⟩, rfl, ⟨(b3_r7 + 1), Rr7, ef hs, hO, h⟩, ?_⟩ | exact cl
          exact .inr (round_calm hra hra0_r7 hO rfl (by have := hO.len; have := hra0_r7.len; first | exact Nat.le_refl _ | omega) (by simp only [List.append_assoc, List.cons_append, List.nil_append]) (by (simp +decide only [go_sem, Nat.reduceAdd]) <;> (try (repeat' apply And.intro)) <;> first | omega | assumption))
         ·
          replace h := ite_ff h hf62
          rcases Bool.eq_false_or_eq_true (decide (p_r7.2.kind = 8)) with hf67 | hf67
          ·
           replace h := ite_tt h hf67
           have hk68 : p_r7.2.kind = 8 := of_decide_eq_true hf67
           apply awp_draw mix 7 2 1 [2, 7] (by kernel_rfl)
           rw [evK_succ]; simp +decide only [go_sem, Nat.reduceAdd, hb13, hb16, hb19, hb22, hb25, hf28, hf30, hf35, hf40, hf46, hf52, hf57, hf62, hf67, hk68]
           have hs := And.intro hf28 hs
           have hs := And.intro hf30 hs
           have hs := And.intro hf35 hs
           have hs := And.intro hf40 hs
           have hs := And.intro hf46 hs
           have hs := And.intro hf52 hs
           have hs := And.intro hf57 hs
           have hs := And.intro hf62 hs
           have hs := And.intro hf67 hs
           have hs := And.intro hk68 hs
           (repeat' apply And.intro) <;> first | refine callK_p _ (v_rules_8_at' w0 _ _ _ p_r7.2) (hv hs) ?_ | exact cl
           rw [evK_succ]; simp +decide only [go_sem, Nat.reduceAdd, hb13, hb16, hb19, hb22, hb25, hf28, hf30, hf35, hf40, hf46, hf52, hf57, hf62, hf67, hk68]
           (repeat' with_reducible apply And.intro) <;> first | (rw [evK_succ]; simp +decide only [go_sem, Nat.reduceAdd, hb13, hb16, hb19, hb22, hb25, hf28, hf30, hf35, hf40, hf46, hf52, hf57, hf62, hf67, hk68]) | exact cl
           (repeat' apply And.intro) <;> first | refine hK27 _ _ ?_ | exact cl
           clear hK27
           refine rg [2, 7, 44] hs ?_
           refine cnd h hs (fun hs h => ?_) (fun hs h => ?_)
           ·
            have hb70 := hs.1
            refine rg [2] hs ?_
            apply awp_ret; simp +decide only [go_sem, Nat.reduceAdd, hb13, hb16, hb19, hb22, hb25, hf28, hf30, hf35, hf40, hf46, hf52, hf57, hf62, hf67, hk68, hb70]
            have hgt := Option.some.inj h; subst hgt
            refine hKQ _ _ _ ⟨⟨B ++ [a0.cs, [.val (.int .i64 (v_rules_8_F p_r7.2))], [.val .nilFunc, .clo 122 [], .clo 124 [], .clo 125 [], .clo 127 [], .clo 130 [], .clo 131 [], .clo 132 [], .clo 133 [], .clo 134 [], .clo 135 []], [.val (.int .i64 (b3_r7 + 1))], a0.cs], Rr7, L⟩, [p_r7.2.cs], by first | rfl | (simp only [List.append_assoc, List.append_nil, List.cons_append, List.nil_append]; done), ⟨by simp, by first | exact Nat.le_refl _ | (have := hO.len; simp; omega), rfl⟩, rfl, ⟨rfl, _, _, _, _, Rr7, ef hs, hO.sub (List.nil_sublist _)⟩, ?_⟩
            exact .inr (round_calm hra hra0_r7 hO rfl (by have := hO.len; have := hra0_r7.len; first | exact Nat.le_refl _ | omega) (by simp only [List.append_assoc, List.cons_append, List.nil_append]) (by (simp +decide only [go_sem, Nat.reduceAdd]) <;> (try (repeat' apply And.intro)) <;> first | omega | assumption))
           have hb70 := hs.1
           refine awp_sub (keepL [] _) ?_ (sub_keepL _ _)
           apply awp_skip; simp +decide only [go_sem, Nat.reduceAdd]
           (repeat' apply And.intro) <;> first | refine hKQ _ _ _ ⟨⟨B ++ [a0.cs, [.val (.int .i64 0)], [.val .nilFunc, .clo 122 [], .clo 124 [], .clo 125 [], .clo 127 [], .clo 130 [], .clo 131 [], .clo 132 [], .clo 133 [], .clo 134 [], .clo 135 []], [.val (.int .i64 (b3_r7 + 1))], a0.cs], Rr7, L⟩, [p_r7.2.cs], by first | rfl | (simp only [List.append_assoc, List.append_nil, List.cons_append, List.nil_append]; done), ⟨by simp, by first | exact Nat.le_refl _ | (have := hO.len; simp; omega), rfl⟩, rfl, ⟨(b3_r7 + 1), Rr7, ef hs, hO, h⟩, ?_⟩ | exact cl
           exact .inr (round_calm hra hra0_r7 hO rfl (by have := hO.len; have := hra0_r7.len; first | exact Nat.le_refl _ | omega) (by simp only [List.append_assoc, List.cons_append, List.nil_append]) (by (simp +decide only [go_sem, Nat.reduceAdd]) <;> (try (repeat' apply And.intro)) <;> first | omega | assumption))
          ·
           replace h := ite_ff h hf67
           rcases Bool.eq_false_or_eq_true (decide (p_r7.2.kind = 9)) with hf72 | hf72
           ·
            replace h := ite_tt h hf72
            have hk73 : p_r7.2.kind = 9 := of_decide_eq_true hf72
            obtain ⟨y74, hy74, h⟩ := bind_some h
            apply awp_draw mix 7 2 1 [2, 7] (by kernel_rfl)
            rw [evK_succ]; simp +decide only [go_sem, Nat.reduceAdd, hb13, hb16, hb19, hb22, hb25, hf28, hf30, hf35, hf40, hf46, hf52, hf57, hf62, hf67, hf72, hk73]
            have hs := And.intro hf28 hs
            have hs := And.intro hf30 hs
            have hs := And.intro hf35 hs
            have hs := And.intro hf40 hs
            have hs := And.intro hf46 hs
            have hs := And.intro hf52 hs
            have hs := And.intro hf57 hs
            have hs := And.intro hf62 hs
            have hs := And.intro hf67 hs
            have hs := And.intro hf72 hs
            have hs := And.intro hk73 hs
            (repeat' apply And.intro) <;> first | refine callK_p _ (v_rules_9_at w0 n _ _ _ p_r7.2 _ hy74) (hv hs) ?_ | exact cl
            rw [evK_succ]; simp +decide only [go_sem, Nat.reduceAdd, hb13, hb16, hb19, hb22, hb25, hf28, hf30, hf35, hf40, hf46, hf52, hf57, hf62, hf67, hf72, hk73]
            (repeat' with_reducible apply And.intro) <;> first | (rw [evK_succ]; simp +decide only [go_sem, Nat.reduceAdd, hb13, hb16, hb19, hb22, hb25, hf28, hf30, hf35, hf40, hf46, hf52, hf57, hf62, hf67, hf72, hk73]) | exact cl
            (repeat' apply And.intro) <;> first | refine hK27 _ _ ?_ | exact cl
            clear hK27
            refine rg [2, 7, 44] hs ?_
            refine cnd h hs (fun hs h => ?_) (fun hs h => ?_)
            ·
             have hb76 := hs.1
             refine rg [2] hs ?_
             apply awp_ret; simp +decide only [go_sem, Nat.reduceAdd, hb13, hb16, hb19, hb22, hb25, hf28, hf30, hf35, hf40, hf46, hf52, hf57, hf62, hf67, hf72, hk73, hb76]
             have hgt := Option.some.inj h; subst hgt
             refine hKQ _ _ _ ⟨⟨B ++ [a0.cs, [.val (.int .i64 y74)], [.val .nilFunc, .clo 122 [], .clo 124 [], .clo 125 [], .clo 127 [], .clo 130 [], .clo 131 [], .clo 132 [], .clo 133 [], .clo 134 [], .clo 135 []], [.val (.int .i64 (b3_r7 + 1))], a0.cs], Rr7, L⟩, [p_r7.2.cs], by first | rfl | (simp only [List.append_assoc, List.append_nil, List.cons_append, List.nil_append]; done), ⟨by simp, by first | exact Nat.le_refl _ | (have := hO.len; simp; omega), rfl⟩, rfl, ⟨rfl, _, _, _, _, Rr7, ef hs, hO.sub (List.nil_sublist _)⟩, ?_⟩
             exact .inr (round_calm hra hra0_r7 hO rfl (by have := hO.len; have := hra0_r7.len; first | exact Nat.le_refl _ | omega) (by simp only [List.append_assoc, List.cons_append, List.nil_append]) (by (simp +decide only [go_sem, Nat.reduceAdd]) <;> (try (repeat' apply And.intro)) <;> first | omega | assumption))
            have hb76 := hs.1
            refine awp_sub (keepL [] _) ?_ (sub_keepL _ _)
            apply awp_skip; simp +decide only [go_sem, Nat.reduceAdd]
            (repeat' apply And.intro) <;> first | refine hKQ _ _ _ ⟨⟨B ++ [a0.cs, [.val (.int .i64 0)], [.val .nilFunc, .clo 122 [], .clo 124 [], .clo 125 [], .clo 127 [], .clo 130 [], .clo 131 [], .clo 132 [], .clo 133 [], .clo 134 [], .clo 135 []], [.val (.int .i64 (b3_r7 + 1))], a0.cs], Rr7, L⟩, [p_r7.2.cs], by first | rfl | (simp only [List.append_assoc, List.append_nil, List.cons_append, List.nil_append]; done), ⟨by simp, by first | exact Nat.le_refl _ | (have := hO.len; simp; omega), rfl⟩, rfl, ⟨(b3_r7 + 1), Rr7, ef hs, hO, h⟩, ?_⟩ | exact cl
            exact .inr (round_calm hra hra0_r7 hO rfl (by have := hO.len; have := hra0_r7.len; first | exact Nat.le_refl _ | omega) (by simp only [List.append_assoc, List.cons_append, List.nil_append]) (by (simp +decide only [go_sem, Nat.reduceAdd]) <;> (try (repeat' apply And.intro)) <;> first | omega | assumption))
           ·
            replace h := ite_ff h hf72
            rcases Bool.eq_false_or_eq_true (decide (p_r7.2.kind = 10)) with hf78 | hf78
            ·
             replace h := ite_tt h hf78
             have hk79 : p_r7.2.kind = 10 := of_decide_eq_true hf78
             obtain ⟨y80, hy80, h⟩ := bind_some h
             apply awp_draw mix 7 2 1 [2, 7] (by kernel_rfl)
             rw [evK_succ]; simp +decide only [go_sem, Nat.reduceAdd, hb13, hb16, hb19, hb22, hb25, hf28, hf30, hf35, hf40, hf46, hf52, hf57, hf62, hf67, hf72, hf78, hk79]
             have hs := And.intro hf28 hs
             have hs := And.intro hf30 hs
             have hs := And.intro hf35 hs
             have hs := And.intro hf40 hs
             have hs := And.intro hf46 hs
             have hs := And.intro hf52 hs
             have hs := And.intro hf57 hs
             have hs := And.intro hf62 hs
             have hs := And.intro hf67 hs
             have hs := And.intro hf72 hs
             have hs := And.intro hf78 hs
             have hs := And.intro hk79 hs
             (repeat' apply And.intro) <;> first | refine callK_p _ (v_rules_10_at w0 _ _ _ p_r7.2 _ hy80) (hv hs) ?_ | exact cl
             rw [evK_succ]; simp +decide only [go_sem, Nat.reduceAdd, hb13, hb16, hb19, hb22, hb25, hf28, hf30, hf35, hf40, hf46, hf52, hf57, hf62, hf67, hf72, hf78, hk79]
             (repeat' with_reducible apply And.intro) <;> first | (rw [evK_succ]; simp +decide only [go_sem, Nat.reduceAdd, hb13, hb16, hb19, hb22, hb25, hf28, hf30, hf35, hf40, hf46, hf52, hf57, hf62, hf67, hf72, hf78, hk79]) | exact cl
             (repeat' apply And.intro) <;> first | refine hK27 _ _ ?_ | exact cl
             clear hK27
             refine rg [2, 7, 44] hs ?_
             refine cnd h hs (fun hs h => ?_) (fun hs h => ?_)
             ·
              have hb82 := hs.1
              refine rg [2] hs ?_
              apply awp_ret; simp +decide only [go_sem, Nat.reduceAdd, hb13, hb16, hb19, hb22, hb25, hf28, hf30, hf35, hf40, hf46, hf52, hf57, hf62, hf67, hf72, hf78, hk79, hb82]
              have hgt := Option.some.inj h; subst hgt
              refine hKQ _ _ _ ⟨⟨B ++ [a0.cs, [.val (.int .i64 y80)], [.val .nilFunc, .clo 122 [], .clo 124 [], .clo 125 [], .clo 127 [], .clo 130 [], .clo 131 [], .clo 132 [], .clo 133 [], .clo 134 [], .clo 135 []], [.val (.int .i64 (b3_r7 + 1))], a0.cs], Rr7, L⟩, [p_r7.2.cs], by first | rfl | (simp only [List.append_assoc, List.append_nil, List.cons_append, List.nil_append]; done), ⟨by simp, by first | exact Nat.le_refl _ | (have := hO.len; simp; omega), rfl⟩, rfl, ⟨rfl, _, _, _, _, Rr7, ef hs, hO.sub (List.nil_sublist _)⟩, ?_⟩
              exact .inr (round_calm hra hra0_r7 hO rfl (by have := hO.len; have := hra0_r7.len; first | exact Nat.le_refl _ | omega) (by simp only [List.append_assoc, List.cons_append, List.nil_append]) (by (simp +decide only [go_sem, Nat.reduceAdd]) <;> (try (repeat' apply And.intro)) <;> first | omega | assumption))
             have hb82 := hs.1
             refine awp_sub (keepL [] _) ?_ (sub_keepL _ _)
             apply awp_skip; simp +decide only [go_sem, Nat.reduceAdd]
             (repeat' apply And.intro) <;> first | refine hKQ _ _ _ ⟨⟨B ++ [a0.cs, [.val (.int .i64 0)], [.val .nilFunc, .clo 122 [], .clo 124 [], .clo 125 [], .clo 127 [], .clo 130 [], .clo 131 [], .clo 132 [], .clo 133 [], .clo 134 [], .clo 135 []], [.val (.int .i64 (b3_r7 + 1))], a0.cs], Rr7, L⟩, [p_r7.2.cs], by first | rfl | (simp only [List.append_assoc, List.append_nil, List.cons_append, List.nil_append]; done), ⟨by simp, by first | exact Nat.le_refl _ | (have := hO.len; simp; omega), rfl⟩, rfl, ⟨(b3_r7 + 1), Rr7, ef hs, hO, h⟩, ?_⟩ | exact cl
             exact .inr (round_calm hra hra0_r7 hO rfl (by have := hO.len; have := hra0_r7.len; first | exact Nat.le_refl _ | omega) (by simp only [List.append_assoc, List.cons_append, List.nil_append]) (by (simp +decide only [go_sem, Nat.reduceAdd]) <;> (try (repeat' apply And.intro)) <;> first | omega | assumption))
            ·
             replace h := ite_ff h hf78
             cases h
 ·
  rintro s la ⟨XB, XR, XL⟩ hXR ⟨b3_r7, Rr7, rfl, hO, h⟩ _ _
  simp only at hXR
  subst hXR
  rw [List.drop_eq_nil_of_le (by rw [itemsV_length]; exact Nat.le_refl _), v_Check_r7] at h
  simp only [St.ext, St.push, List.append_assoc, List.append_nil]
  (repeat' apply And.intro) <;> first | refine hK4 _ _ ?_ | exact cl
  clear hK4
  refine awp_tidyL (bs := [a0.cs, [.val (.int .i64 0)], [.val .nilFunc, .clo 122 [], .clo 124 [], .clo 125 [], .clo 127 [], .clo 130 [], .clo 131 [], .clo 132 [], .clo 133 [], .clo 134 [], .clo 135 []], [.val (.int .i64 b3_r7)], a0.cs]) hN hNR hNL rfl hcalm hO (by (simp +decide only [go_sem, Nat.reduceAdd]) <;> (try (repeat' apply And.intro)) <;> first | omega | assumption) (by (simp +decide only [go_sem, Nat.reduceAdd, calmE]) <;> (try (repeat' apply And.intro)) <;> first | omega | assumption) ?_
  refine rg [2] hs ?_
  exact rt h hs hcalm hO
 ·
  rintro ex s la ⟨XB, XR, XL⟩ hXR ⟨rfl, z0, z2, z3, z4, rows, rfl, hO⟩ _ _
  simp only at hXR
  subst hXR
  simp only [St.ext, St.push, List.append_assoc, List.append_nil]
  simp +decide only [go_sem, Nat.reduceAdd]
  (repeat' with_reducible apply And.intro) <;> first | refine fin_r hcalm rfl hO.pre ev ⟨?_, rfl⟩ | (intros; omega) | (intros; simp_all; done)
  first | rfl | (simp +decide only [go_sem, Nat.reduceAdd]; done)
theorem int_pred {j : Nat} : ((j + 1 : Nat) : Int) - 1 = (j : Int) := by omega
theorem pos_int {j : Nat} : decide (0 < ((j + 1 : Nat) : Int)) = true := decide_eq_true (by omega)
theorem I64_nat {k : Nat} (h : k < 1000000000000) : I64 (k : Int) := by unfold I64; omega
def fErr : Option ByteArray → List ByteArray → Int
 | _, [] => 0
 | none, x :: r => if nameB x = true then fErr (some x) r else 12
 | some p, x :: r => if nameB x = true then (if sEq x p = true then 7 else if sLt x p = true then 24 else fErr (some x) r) else 12
def prvN (l : List (ByteArray × Vl)) : Nat → Option ByteArray
 | 0 => none
 | i + 1 => (l[i]?).map Prod.fst
theorem r4f_l10 (n : Nat) (l : List (ByteArray × Vl)) (hl : (l).length ≤ 1000000000) (hz : ∀ p ∈ l, p.1.size ≤ maxLen) : ∀ (k m i : Nat), i + k = (l).length → k < m → r4_fields_l10 n l m i = some (fErr (prvN (l) i) (((l).map Prod.fst).drop i))
 | k, 0, i, _, h => absurd h (Nat.not_lt_zero _)
 | 0, m + 1, i, hi, _ => by
  rw [r4_fields_l10, lt_int, decide_eq_false (by omega)]
  simp only [Bool.false_eq_true, if_false, r4_fields_k7]
  rw [List.drop_eq_nil_of_le (by rw [List.length_map]; omega)]
  cases prvN (l) i <;> rfl
 | k + 1, m + 1, i, hi, hm => by
  have hlt : i < (l).length := by omega
  have ih := r4f_l10 n l hl hz k m (i + 1) (by omega) (by omega)
  rw [r4_fields_l10, lt_int, decide_eq_true hlt]
  simp only [if_true, idx_nat hlt, Option.bind_some]
  rw [if_pos (hz _ (List.getElem_mem hlt)), List.drop_eq_getElem_cons (by rw [List.length_map]; omega), List.getElem_map]
  have hp : prvN (l) (i + 1) = some (l)[i].1 := by simp only [prvN, List.getElem?_eq_getElem hlt]; rfl
  rw [hp] at ih
  cases i with
  | zero =>
   simp only [prvN, fErr]
   by_cases hb : nameB (l)[0].1 = true
   ·
    rw [if_pos hb, hb]
    simp only [Bool.not_true, Bool.false_eq_true, if_false]
    rw [if_neg (by decide), if_pos (I64_succ (by omega))]
    exact ih
   ·
    rw [if_neg hb, Bool.eq_false_iff.2 hb]; rfl
  | succ j =>
   have hj : j < (l).length := by omega
   have hq : prvN (l) (j + 1) = some (l)[j].1 := by simp only [prvN, List.getElem?_eq_getElem hj]; rfl
   rw [hq]
   simp only [fErr]
   by_cases hb : nameB (l)[j + 1].1 = true
   ·
    rw [if_pos hb, hb]
    simp only [Bool.not_true, Bool.false_eq_true, if_false, pos_int, if_true, int_pred]
    have hI : I64 (j : Int) := I64_nat (by omega)
    simp only [if_pos hI, idx_nat hj, Option.bind_some]
    by_cases h1 : sEq (l)[j + 1].1 (l)[j].1 = true
    ·
     rw [if_pos h1, if_pos h1]
    ·
     rw [if_neg h1, if_neg h1]
     by_cases h2 : sLt (l)[j + 1].1 (l)[j].1 = true
     ·
      rw [if_pos h2, if_pos h2]
     ·
      rw [if_neg h2, if_neg h2, if_pos (I64_succ (by omega))]
      exact ih
   ·
    rw [if_neg hb, Bool.eq_false_iff.2 hb]; rfl
theorem vr9_l11 (n : Nat) (v : Vl) (hl : (v.fields).length ≤ 1000000000) (hz : ∀ p ∈ v.fields, p.1.size ≤ maxLen) : ∀ (k m i : Nat), i + k = (v.fields).length → k < m → v_rules_9_l11 n v m i = some (fErr (prvN (v.fields) i) (((v.fields).map Prod.fst).drop i))
 | k, 0, i, _, h => absurd h (Nat.not_lt_zero _)
 | 0, m + 1, i, hi, _ => by
  rw [v_rules_9_l11, lt_int, decide_eq_false (by omega)]
  simp only [Bool.false_eq_true, if_false, v_rules_9_k8]
  rw [List.drop_eq_nil_of_le (by rw [List.length_map]; omega)]
  cases prvN (v.fields) i <;> rfl
 | k + 1, m + 1, i, hi, hm => by
  have hlt : i < (v.fields).length := by omega
  have ih := vr9_l11 n v hl hz k m (i + 1) (by omega) (by omega)
  rw [v_rules_9_l11, lt_int, decide_eq_true hlt]
  simp only [if_true, idx_nat hlt, Option.bind_some]
  rw [if_pos (hz _ (List.getElem_mem hlt)), List.drop_eq_getElem_cons (by rw [List.length_map]; omega), List.getElem_map]
  have hp : prvN (v.fields) (i + 1) = some (v.fields)[i].1 := by simp only [prvN, List.getElem?_eq_getElem hlt]; rfl
  rw [hp] at ih
  cases i with
  | zero =>
   simp only [prvN, fErr]
   by_cases hb : nameB (v.fields)[0].1 = true
   ·
    rw [if_pos hb, hb]
    simp only [Bool.not_true, Bool.false_eq_true, if_false]
    rw [if_neg (by decide), if_pos (I64_succ (by omega))]
    exact ih
   ·
    rw [if_neg hb, Bool.eq_false_iff.2 hb]; rfl
  | succ j =>
   have hj : j < (v.fields).length := by omega
   have hq : prvN (v.fields) (j + 1) = some (v.fields)[j].1 := by simp only [prvN, List.getElem?_eq_getElem hj]; rfl
   rw [hq]
   simp only [fErr]
   by_cases hb : nameB (v.fields)[j + 1].1 = true
   ·
    rw [if_pos hb, hb]
    simp only [Bool.not_true, Bool.false_eq_true, if_false, pos_int, if_true, int_pred]
    have hI : I64 (j : Int) := I64_nat (by omega)
    simp only [if_pos hI, idx_nat hj, Option.bind_some]
    by_cases h1 : sEq (v.fields)[j + 1].1 (v.fields)[j].1 = true
    ·
     rw [if_pos h1, if_pos h1]
    ·
     rw [if_neg h1, if_neg h1]
     by_cases h2 : sLt (v.fields)[j + 1].1 (v.fields)[j].1 = true
     ·
      rw [if_pos h2, if_pos h2]
     ·
      rw [if_neg h2, if_neg h2, if_pos (I64_succ (by omega))]
      exact ih
   ·
    rw [if_neg hb, Bool.eq_false_iff.2 hb]; rfl
def vOwn (v : Vl) : Int :=
 if v_IsNull_F v = true then 19
 else if v.kind < 1 ∨ 10 < v.kind then 11
 else if r4_unused_F v = true then 3
 else if v.kind = 1 then (if r4_outside_F v.int 0 1 = true then 2 else 0)
 else if v.kind = 2 then (if r4_outside_F v.int (-999999999999999) 999999999999999 = true ∨ r4_outside_F v.scale 0 12 = true then 2 else 0)
 else if v.kind = 3 then (if r4_outside_F v.int (-999999999999999) 999999999999999 = true ∨ r4_outside_F v.scale 0 12 = true then 2 else 0)
 else if v.kind = 4 then (if 1024 < v.text.size then 5 else if Lib.validD v.text.data.toList = true then 0 else 16)
 else if v.kind = 5 then (if 1024 < v.text.size then 5 else 0)
 else if v.kind = 6 then (if r4_outside_F v.int (-719162) 2932896 = true then 2 else 0)
 else if v.kind = 7 then (if r4_outside_F v.int (-62135596800000) 253402300799999 = true then 2 else 0)
 else if v.kind = 8 then (if 256 < v.list.length then 9 else 0)
 else if v.kind = 9 then (if 64 < v.fields.length then 9 else fErr none (v.fields.map Prod.fst))
 else if nameB v.text = true then (if v.list.length = 0 then 4 else if 1 < v.list.length then 3 else 0) else 12
theorem kind_cases {k : Int} (h : ¬ (k < 1 ∨ 10 < k)) : k = 1 ∨ k = 2 ∨ k = 3 ∨ k = 4 ∨ k = 5 ∨ k = 6 ∨ k = 7 ∨ k = 8 ∨ k = 9 ∨ k = 10 := by omega
theorem r4Own_eq (n : Nat) (v : Vl) (hn : v.fields.length < n) (hs : v.fields.length ≤ 1000000000) (hv : v.ok) : r4_Own_F n v = some (vOwn v) := by
 obtain ⟨o1, _, o3⟩ := v.ok_eq.1 hv
 have hz : ∀ p ∈ v.fields, p.1.size ≤ maxLen := fun p hp => sz_max (by have := (o3 p hp).1; omega)
 have hf : r4_fields_F n v.fields = some (if 64 < v.fields.length then 9 else fErr none (v.fields.map Prod.fst)) := by
  rw [r4_fields_F]
  by_cases h : 64 < v.fields.length
  ·
   rw [if_pos h, if_pos (decide_eq_true (by omega))]
  ·
   rw [if_neg h, if_neg (by rw [decide_eq_true_eq]; omega)]
   exact r4f_l10 n v.fields hs hz v.fields.length n 0 (by omega) hn
 have ht : v.text.size ≤ maxLen := sz_max o1
 rw [r4_Own_F, vOwn, show r4_Null_F v = v_IsNull_F v from rfl]
 by_cases h1 : v_IsNull_F v = true
 ·
  rw [if_pos h1, if_pos h1]
 rw [if_neg h1, if_neg h1]
 by_cases h2 : v.kind < 1 ∨ 10 < v.kind
 ·
  rw [if_pos h2, if_pos (by simpa using h2)]
 rw [if_neg h2, if_neg (by simpa using h2)]
 by_cases h3 : r4_unused_F v = true
 ·
  rw [if_pos h3, if_pos h3]
 rw [if_neg h3, if_neg h3]
 rcases kind_cases h2 with hk | hk | hk | hk | hk | hk | hk | hk | hk | hk <;>
  simp only [hk, r4_Own_k22, r4_Own_k31, r4_Own_k13, hf, ht, if_true, Option.bind_some] <;> simp
 all_goals (repeat' split) <;> first | rfl | (exfalso; omega) | simp_all
theorem uses_eq (v : Vl) (h : ¬ (v.kind < 1 ∨ 10 < v.kind)) : v_uses_F v = !r4_unused_F v := by
 have hp : ∀ x : Nat, decide (0 < (x : Int)) = !decide ((x : Int) = 0) := fun x => by
  by_cases h : x = 0
  ·
   subst h; rfl
  ·
   rw [decide_eq_true (show 0 < (x : Int) by omega), decide_eq_false (show ¬ (x : Int) = 0 by omega)]; rfl
 rw [v_uses_F, r4_unused_F]
 simp only [hp]
 rcases kind_cases h with hk | hk | hk | hk | hk | hk | hk | hk | hk | hk <;> simp only [hk] <;> simp [Bool.and_assoc]
theorem first2 (n : Nat) (hn : 3 ≤ n) (a b : Int) : v_first_F n [a, b] = some (if a = 0 then b else a) := by
 obtain ⟨m, rfl⟩ : ∃ m, n = m + 3 := ⟨n - 3, by omega⟩
 rw [v_first_F, v_first_l6]
 simp only [List.length_cons, List.length_nil]
 rw [if_pos (by simp), show idx [a, b] 0 = some a from rfl]
 simp only [Option.bind_some]
 by_cases h : a = 0
 ·
  rw [decide_eq_true h, if_neg (by decide), if_pos (by decide), if_pos h, v_first_l6]
  simp only [List.length_cons, List.length_nil]
  rw [if_pos (by simp), show idx [a, b] (0 + 1) = some b from rfl]
  simp only [Option.bind_some]
  by_cases h2 : b = 0
  ·
   rw [decide_eq_true h2, if_neg (by decide), if_pos (by decide), v_first_l6]
   simp only [List.length_cons, List.length_nil]
   rw [if_neg (by simp), v_first_k3, h2]
  ·
   rw [decide_eq_false h2, if_pos (by decide)]
 ·
  rw [decide_eq_false h, if_pos (by decide), if_neg h]
theorem rules_eq (n : Nat) (hn : 3 ≤ n) (v : Vl) (hfl : v.fields.length < n) (hs : v.fields.length ≤ 1000000000) (hv : v.ok) (h1 : ¬ v_IsNull_F v = true) (h2 : ¬ (v.kind < 1 ∨ 10 < v.kind)) (h3 : ¬ r4_unused_F v = true) :
  (v.kind = 1 → v_rules_1_F v = vOwn v) ∧ (v.kind = 2 → v_rules_2_F v = vOwn v) ∧ (v.kind = 3 → v_rules_3_F n v = some (vOwn v)) ∧ (v.kind = 4 → v_rules_4_F v = some (vOwn v)) ∧ (v.kind = 5 → v_rules_5_F v = vOwn v) ∧
  (v.kind = 6 → v_rules_6_F v = vOwn v) ∧ (v.kind = 7 → v_rules_7_F v = vOwn v) ∧ (v.kind = 8 → v_rules_8_F v = vOwn v) ∧ (v.kind = 9 → v_rules_9_F n v = some (vOwn v)) ∧ (v.kind = 10 → v_rules_10_F v = some (vOwn v)) := by
 obtain ⟨o1, _, o3⟩ := v.ok_eq.1 hv
 have hz : ∀ p ∈ v.fields, p.1.size ≤ maxLen := fun p hp => sz_max (by have := (o3 p hp).1; omega)
 have ht : v.text.size ≤ maxLen := sz_max o1
 rw [vOwn, if_neg h1, if_neg h2, if_neg h3]
 refine ⟨fun hk => ?_, fun hk => ?_, fun hk => ?_, fun hk => ?_, fun hk => ?_, fun hk => ?_, fun hk => ?_, fun hk => ?_, fun hk => ?_, fun hk => ?_⟩
 ·
  simp [hk, v_rules_1_F, v_between_F, r4_outside_F]
 ·
  have hsc : v.scale = 0 := by
   rw [r4_unused_F] at h3
   simp [hk] at h3
   exact h3.1.1.1
  simp [hk, hsc, v_rules_2_F, v_between_F, r4_outside_F]
 ·
  rw [v_rules_3_F, first2 n hn]
  simp [hk, v_between_F, r4_outside_F]
  by_cases q : v.int < -999999999999999 ∨ 999999999999999 < v.int
  ·
   simp [q]; omega
  ·
   simp [q]; omega
 ·
  rw [v_rules_4_F]
  simp only [hk, v_size_F, v_rules_4_k4, if_pos ht]
  simp
  (repeat' split) <;> first | rfl | (exfalso; omega) | simp_all
 ·
  simp [hk, v_rules_5_F, v_size_F]
  (repeat' split) <;> first | rfl | (exfalso; omega) | simp_all
 ·
  simp [hk, v_rules_6_F, v_between_F, r4_outside_F]
 ·
  simp [hk, v_rules_7_F, v_between_F, r4_outside_F]
 ·
  simp [hk, v_rules_8_F, v_size_F]
  (repeat' split) <;> first | rfl | (exfalso; omega) | simp_all
 ·
  rw [v_rules_9_F]
  by_cases h : 64 < v.fields.length
  ·
   simp [hk, v_size_F, h, show (64 : Int) < (v.fields.length : Int) by omega]
  ·
   have e := vr9_l11 n v hs hz v.fields.length n 0 (by omega) hfl
   simp only [List.drop_zero] at e
   simp only [hk, v_size_F, decide_eq_false (show ¬ (64 : Int) < (v.fields.length : Int) by omega), Bool.false_eq_true, if_false, decide_true, Bool.not_true, if_neg h]
   exact e
 ·
  rw [v_rules_10_F, if_pos ht]
  simp only [hk, v_size_F]
  simp
  (repeat' split) <;> first | rfl | (exfalso; omega) | simp_all
theorem r7_step (n : Nat) (hn : 3 ≤ n) (lv : Nat) (v : Vl) (rest : List (Nat × Vl)) (c : Int) (hfl : v.fields.length < n) (hs : v.fields.length ≤ 1000000000) (hv : v.ok) :
  v_Check_r7 n ((lv, v) :: rest) c = if I64 (c + 1) then (if 4096 < c + 1 then some 9 else if 8 < (lv : Int) then some 23 else if vOwn v = 0 then v_Check_r7 n rest (c + 1) else some (vOwn v)) else none := by
 rw [v_Check_r7]
 by_cases hI : I64 (c + 1)
 rotate_left
 ·
  rw [if_neg hI, if_neg hI]
 rw [if_pos hI, if_pos hI]
 by_cases q1 : 4096 < c + 1
 ·
  rw [if_pos q1, if_pos (decide_eq_true q1)]
 rw [if_neg q1, if_neg (by simpa using q1)]
 by_cases q2 : 8 < (lv : Int)
 ·
  rw [if_pos q2, if_pos (decide_eq_true q2)]
 rw [if_neg q2, if_neg (by simpa using q2)]
 simp only
 by_cases h1 : v_IsNull_F v = true
 ·
  have : vOwn v = 19 := by rw [vOwn, if_pos h1]
  rw [if_pos h1, this]; rfl
 rw [if_neg h1]
 by_cases h2 : v.kind < 1 ∨ 10 < v.kind
 ·
  have : vOwn v = 11 := by rw [vOwn, if_neg h1, if_pos h2]
  rw [if_pos (by simpa using h2), this]; rfl
 rw [if_neg (by simpa using h2), uses_eq v h2]
 by_cases h3 : r4_unused_F v = true
 ·
  have : vOwn v = 3 := by rw [vOwn, if_neg h1, if_neg h2, if_pos h3]
  rw [h3, this]; rfl
 rw [Bool.eq_false_iff.2 h3]
 obtain ⟨r1, r2, r3, r4, r5, r6, r7, r8, r9, r10⟩ := rules_eq n hn v hfl hs hv h1 h2 h3
 rcases kind_cases h2 with hk | hk | hk | hk | hk | hk | hk | hk | hk | hk
 ·
  have e := r1 hk; by_cases z : vOwn v = 0 <;> simp [hk, e, z]
 ·
  have e := r2 hk; by_cases z : vOwn v = 0 <;> simp [hk, e, z]
 ·
  have e := r3 hk; by_cases z : vOwn v = 0 <;> simp [hk, e, z]
 ·
  have e := r4 hk; by_cases z : vOwn v = 0 <;> simp [hk, e, z]
 ·
  have e := r5 hk; by_cases z : vOwn v = 0 <;> simp [hk, e, z]
 ·
  have e := r6 hk; by_cases z : vOwn v = 0 <;> simp [hk, e, z]
 ·
  have e := r7 hk; by_cases z : vOwn v = 0 <;> simp [hk, e, z]
 ·
  have e := r8 hk; by_cases z : vOwn v = 0 <;> simp [hk, e, z]
 ·
  have e := r9 hk; by_cases z : vOwn v = 0 <;> simp [hk, e, z]
 ·
  have e := r10 hk; by_cases z : vOwn v = 0 <;> simp [hk, e, z]
def vWalk : List (Nat × Vl) → Int → Int
 | [], _ => 0
 | p :: r, c => if 4096 < c + 1 then 9 else if 8 < (p.1 : Int) then 23 else if vOwn p.2 = 0 then vWalk r (c + 1) else vOwn p.2
def vChk (v : Vl) : Int := vWalk (preV 1 v) 0
theorem parts_mem {v x : Vl} (h : x ∈ partsV v) : x ∈ v.list ∨ ∃ p ∈ v.fields, p.2 = x := by
 unfold partsV at h
 split at h
 ·
  exact .inl h
 ·
  split at h
  ·
   obtain ⟨p, hp, rfl⟩ := List.mem_map.1 h; exact .inr ⟨p, hp, rfl⟩
  ·
   simp at h
theorem parts_size {v x : Vl} (h : x ∈ partsV v) : x.size < v.size := by
 rcases parts_mem h with h | ⟨p, hp, rfl⟩
 ·
  exact v.list_size x h
 ·
  exact v.field_size p hp
theorem parts_ok {v x : Vl} (hv : v.ok) (h : x ∈ partsV v) : x.ok := by
 obtain ⟨_, o2, o3⟩ := v.ok_eq.1 hv
 rcases parts_mem h with h | ⟨p, hp, rfl⟩
 ·
  exact o2 x h
 ·
  exact (o3 p hp).2
theorem pre_ok : ∀ (k : Nat) (v : Vl) (lv : Nat), v.size ≤ k → v.ok → ∀ p ∈ preV lv v, p.2.ok ∧ p.2.size ≤ v.size
 | 0, v, lv, h, hv, p, hp => absurd h (by have := v.size_eq; omega)
 | k + 1, v, lv, h, hv, p, hp => by
  rw [preV_eq] at hp
  rcases List.mem_cons.1 hp with rfl | hp
  ·
   exact ⟨hv, Nat.le_refl _⟩
  ·
   obtain ⟨x, hx, hp⟩ := List.mem_flatMap.1 hp
   have := parts_size hx
   obtain ⟨h1, h2⟩ := pre_ok k x (lv + 1) (by omega) (parts_ok hv hx) p hp
   exact ⟨h1, by omega⟩
theorem fields_lt (v : Vl) : v.fields.length < v.size := by have := sizeFs_len v.fields; have := v.size_eq; omega
theorem vcheck_r7 (n : Nat) (hn : 3 ≤ n) : ∀ (l : List (Nat × Vl)) (c : Int), (∀ p ∈ l, p.2.ok ∧ p.2.size ≤ 1000000000 ∧ p.2.size < n) → 0 ≤ c → c ≤ 4096 → v_Check_r7 n l c = some (vWalk l c)
 | [], c, _, _, _ => rfl
 | p :: r, c, hl, h1, h2 => by
  obtain ⟨o1, o2, o3⟩ := hl p (List.mem_cons_self ..)
  have := fields_lt p.2
  rw [show p = (p.1, p.2) from rfl, r7_step n hn p.1 p.2 r c (by omega) (by omega) o1, if_pos (by unfold I64; omega), vWalk]
  simp only
  split
  ·
   rfl
  ·
   split
   ·
    rfl
   ·
    split
    ·
     exact vcheck_r7 n hn r (c + 1) (fun q hq => hl q (List.mem_cons_of_mem _ hq)) (by omega) (by omega)
    ·
     rfl
theorem vCheck_eq (n : Nat) (v : Vl) (hn : v.size + 3 ≤ n) (hs : v.size < 1048576) (hv : v.ok) : v_Check_F n v = some (vChk v) := by
 rw [v_Check_F, if_pos hs]
 exact vcheck_r7 n (by omega) _ 0 (fun p hp => by obtain ⟨h1, h2⟩ := pre_ok v.size v 1 (Nat.le_refl _) hv p hp; exact ⟨h1, by omega, by omega⟩) (by omega) (by omega)
theorem r4p_l21 (n : Nat) (v : Vl) (hs : v.fields.length ≤ 1000000000) : ∀ (k m i : Nat) (x : List Vl), i + k = v.fields.length → k < m → x.length = i → r4_Parts_l21 n v m x i = some (x ++ (v.fields.drop i).map (·.2))
 | k, 0, i, _, _, h, _ => absurd h (Nat.not_lt_zero _)
 | 0, m + 1, i, x, hi, _, _ => by
  rw [r4_Parts_l21, lt_int, decide_eq_false (by omega)]
  simp only [Bool.false_eq_true, if_false, r4_Parts_k4]
  rw [List.drop_eq_nil_of_le (by omega), List.map_nil, List.append_nil]
 | k + 1, m + 1, i, x, hi, hm, hx => by
  have hlt : i < v.fields.length := by omega
  rw [r4_Parts_l21, lt_int, decide_eq_true hlt]
  simp only [if_true, idx_nat hlt, Option.bind_some]
  rw [if_pos (by omega), if_pos (I64_succ (by omega))]
  have ih := r4p_l21 n v hs k m (i + 1) (x ++ [v.fields[i].2]) (by omega) (by omega) (by simp [hx])
  rw [List.drop_eq_getElem_cons hlt, List.map_cons]
  rw [List.append_assoc] at ih
  exact ih
theorem r4Parts_eq (n : Nat) (v : Vl) (hn : v.size ≤ n) (hs : v.size ≤ 1000000000) : r4_Parts_F n v = some (partsV v) := by
 have a := sizeVs_len v.list
 have b := sizeFs_len v.fields
 have c := v.size_eq
 have h8 : ∀ b : Bool, b = true → r4_Parts_k8 n v b = some v.list := fun b hb => by
  rw [r4_Parts_k8, if_pos hb, if_pos (by omega)]; rfl
 rw [r4_Parts_F, partsV]
 by_cases h1 : v.kind = 8
 ·
  rw [if_pos (decide_eq_true h1), h8 true rfl, if_pos (.inl h1)]
 ·
  rw [if_neg (by rw [decide_eq_true_eq]; exact h1)]
  by_cases h2 : v.kind = 10
  ·
   rw [h8 _ (decide_eq_true h2), if_pos (.inr h2)]
  ·
   rw [if_neg (by omega), r4_Parts_k8, if_neg (by rw [decide_eq_true_eq]; exact h2)]
   by_cases h3 : v.kind = 9
   ·
    rw [if_pos (decide_eq_true h3), if_pos h3]
    have := r4p_l21 n v (by omega) v.fields.length n 0 [] (by omega) (by omega) rfl
    rw [List.drop_zero, List.nil_append] at this
    exact this
   ·
    rw [if_neg (by rw [decide_eq_true_eq]; exact h3), if_neg h3]; rfl
theorem r4c_l38 (n : Nat) (ag : List Itm → Int → Option Int) (c : Int) (it : Itm) (ys : List Vl) (h1 : I64 (it.level + 1)) (h2 : I64 (c + 1)) : ∀ (k m : Nat) (s : List Itm), k ≤ ys.length → k < m → s.length + k ≤ 1000000000 →
  r4_Check_l38 n ag c it ys m s ((k : Int) - 1) = ag (s ++ ((ys.take k).map fun y => Itm.mk y (it.level + 1)).reverse) (c + 1)
 | k, 0, s, _, h, _ => absurd h (Nat.not_lt_zero _)
 | 0, m + 1, s, _, _, _ => by
  rw [r4_Check_l38, if_neg (by simp), r4_Check_k13, if_pos h2]
  simp
 | k + 1, m + 1, s, hk, hm, hs2 => by
  have hlt : k < ys.length := by omega
  rw [r4_Check_l38, if_pos (by simp), int_pred, idx_nat hlt]
  simp only [Option.bind_some]
  rw [if_pos h1, if_pos (by omega), if_pos (by unfold I64; omega), r4c_l38 n ag c it ys h1 h2 k m _ (by omega) (by omega) (by simp; omega)]
  rw [List.take_succ_eq_append_getElem hlt, List.map_append, List.reverse_append, List.append_assoc]
  rfl
def flatS (s : List Itm) : List (Nat × Vl) := s.reverse.flatMap fun it => preV it.level.toNat it.v
def szS (s : List Itm) : Nat := (s.map fun it => it.v.size).sum
theorem szS_app (s t : List Itm) : szS (s ++ t) = szS s + szS t := by simp [szS]
theorem szS_rev (s : List Itm) : szS s.reverse = szS s := by unfold szS; rw [List.map_reverse, List.sum_reverse]
theorem szVs_sum : ∀ l : List Vl, sizeVs l = (l.map Vl.size).sum
 | [] => rfl
 | v :: r => by simp [sizeVs, szVs_sum r]
theorem szFs_sum : ∀ l : List (ByteArray × Vl), sizeFs l = (l.map fun p => p.2.size).sum
 | [] => rfl
 | (_, v) :: r => by simp [sizeFs, szFs_sum r]
theorem parts_sum (v : Vl) : ((partsV v).map Vl.size).sum < v.size := by
 have c := v.size_eq
 unfold partsV
 split
 ·
  rw [← szVs_sum]; omega
 ·
  split
  ·
   rw [List.map_map]
   have := szFs_sum v.fields
   have e : (v.fields.map (Vl.size ∘ fun x => x.2)).sum = sizeFs v.fields := this.symm
   omega
  ·
   simp; omega
theorem szS_parts (l : List Vl) (z : Int) : szS (l.map fun y => Itm.mk y z) = (l.map Vl.size).sum := by
 unfold szS; rw [List.map_map]; rfl
theorem szS_len : ∀ s : List Itm, s.length ≤ szS s
 | [] => Nat.le_refl _
 | it :: r => by have := szS_len r; have := it.v.size_eq; simp [szS] at *; omega
theorem r4c_l8 (n : Nat) : ∀ (m : Nat) (s : List Itm) (c : Int), szS s < m → szS s ≤ 1000000000 → (∀ it ∈ s, 0 ≤ it.level ∧ it.level ≤ 9 ∧ it.v.ok ∧ it.v.size < n) → 0 ≤ c → c ≤ 4096 → r4_Check_l8 n m s c = some (vWalk (flatS s) c)
 | 0, s, c, h, _, _, _, _ => absurd h (Nat.not_lt_zero _)
 | m + 1, s, c, h, hz, hs, h1, h2 => by
  have hlen := szS_len s
  rw [r4_Check_l8]
  rcases List.eq_nil_or_concat s with rfl | ⟨t, it, rfl⟩
  ·
   rfl
  ·
   rw [List.concat_eq_append] at *
   obtain ⟨q1, q2, q3, q4⟩ := hs it (by simp)
   have e1 : (((t ++ [it]).length : Int)) - 1 = (t.length : Int) := by rw [List.length_append]; simp
   have e2 : idx (t ++ [it]) (t.length : Int) = some it := by
    rw [idx_nat (by simp)]; simp
   have hsz : szS (t ++ [it]) = szS t + it.v.size := by rw [szS_app]; simp [szS]
   have hl2 : (t ++ [it]).length = t.length + 1 := by simp
   rw [e1, e2, if_pos (by rw [decide_eq_true_eq]; omega), if_pos (I64_nat (by omega))]
   simp only [Option.bind_some]
   rw [if_pos (I64_nat (by omega)), if_pos ⟨by omega, by omega⟩]
   have hfl : flatS (t ++ [it]) = (it.level.toNat, it.v) :: ((partsV it.v).flatMap (preV (it.level.toNat + 1)) ++ flatS t) := by
    unfold flatS
    rw [List.reverse_append, List.flatMap_append]
    simp only [List.reverse_cons, List.reverse_nil, List.nil_append, List.flatMap_cons, List.flatMap_nil, List.append_nil]
    rw [preV_eq]; rfl
   rw [hfl, vWalk]
   by_cases c1 : 4096 < c + 1
   ·
    rw [if_pos (decide_eq_true (by omega)), if_pos c1]
   rw [if_neg (by rw [decide_eq_true_eq]; omega), if_neg c1]
   have hlv : ((it.level.toNat : Nat) : Int) = it.level := by omega
   simp only [hlv]
   by_cases c2 : 8 < it.level
   ·
    rw [if_pos (decide_eq_true c2), if_pos c2]
   have hfn := fields_lt it.v
   rw [if_neg (by rw [decide_eq_true_eq]; exact c2), if_neg c2, r4Own_eq n it.v (by omega) (by omega) q3]
   simp only [Option.bind_some]
   by_cases c3 : vOwn it.v = 0
   rotate_left
   ·
    rw [decide_eq_false c3, if_neg c3]; rfl
   rw [decide_eq_true c3, if_pos c3, r4Parts_eq n it.v (by omega) (by omega)]
   simp only [Bool.not_true, Bool.false_eq_true, if_false, Option.bind_some, Int.toNat_natCast]
   have hpl := (parts_len it.v).2.2
   have hlt := szS_len t
   have hps := parts_sum it.v
   rw [if_pos (by unfold I64; omega), List.take_left, r4c_l38 n (r4_Check_l8 n m) c it (partsV it.v) (by unfold I64; omega) (by unfold I64; omega) (partsV it.v).length n t (Nat.le_refl _) (by omega) (by omega), List.take_length]
   have hz2 : szS (t ++ ((partsV it.v).map fun y => Itm.mk y (it.level + 1)).reverse) = szS t + ((partsV it.v).map Vl.size).sum := by
    rw [szS_app, szS_rev, szS_parts]
   rw [r4c_l8 n m _ (c + 1) (by omega) (by omega) (fun x hx => ?_) (by omega) (by omega)]
   ·
    congr 2
    unfold flatS
    rw [List.reverse_append, List.reverse_reverse, List.flatMap_append, List.flatMap_map]
    congr 1
    dsimp only
    rw [show (it.level + 1).toNat = it.level.toNat + 1 by omega]
   ·
    rcases List.mem_append.1 hx with hx | hx
    ·
     exact hs x (by simp [hx])
    ·
     obtain ⟨y, hy, rfl⟩ := List.mem_map.1 (List.mem_reverse.1 hx)
     have := parts_size hy
     exact ⟨by simp only; omega, by simp only; omega, parts_ok q3 hy, by simp only; omega⟩
theorem r4Check_eq (n : Nat) (v : Vl) (hn : v.size < n) (hs : v.size ≤ 1000000000) (hv : v.ok) : r4_Check_F n v = some (vChk v) := by
 have e : szS [Itm.mk v 1] = v.size := by simp [szS]
 rw [r4_Check_F, r4c_l8 n n [Itm.mk v 1] 0 (by omega) (by omega) (fun it hit => by rw [List.mem_singleton.1 hit]; exact ⟨by simp, by simp, hv, hn⟩) (by omega) (by omega)]
 simp [flatS, vChk]
def l6_example_F  : Ty :=
 Ty.mk 9 0 0 0 ([]) ([]) ([(1, (⟨#[110]⟩ : ByteArray), 1, Ty.mk 2 1 9 0 ([]) ([]) ([]), []), (2, (⟨#[108]⟩ : ByteArray), 2, Ty.mk 8 0 3 0 ([]) ([Ty.mk 4 1 5 0 ([]) ([]) ([])]) ([]), [])])
theorem l6_example_at (w0 : World) (B : List (List AV)) (Rw : List RowA) (L : List LoopA)  (r : Ty) (h : l6_example_F  = r) :
  ACalls Tryz.prog w0 51 [] ⟨B, Rw, L⟩ fun x st => x = .agg (r.cs) ∧ st = ⟨B, Rw, L⟩ := by
 rw [l6_example_F] at h
 refine hd [.cell 0 26] Tryz.func51 Tryz.ntmps51 fun M0 W0 hN hNR hNL hcalm hu hO hs => ?_
 simp only [argsE]
 refine rg [0] hs ?_
 apply awp_seq; intro K2 hK2
 apply awp_region 1 [0, 1]
 rw [evK_succ]; simp +decide only [go_sem, Nat.reduceAdd, fillA, fillOk, placeT]
 (repeat' apply And.intro) <;> first | refine hK2 _ _ ?_ | exact cl
 clear hK2
 apply awp_seq; intro K3 hK3
 apply awp_region 1 [0]
 rw [evK_succ]; simp +decide only [go_sem, Nat.reduceAdd, fillA, fillOk, placeT]
 (repeat' apply And.intro) <;> first | refine hK3 _ _ ?_ | exact cl
 clear hK3
 apply awp_ret; simp +decide only [go_sem, Nat.reduceAdd]
 subst h
 first | refine fin_q0 hcalm rfl hO.pre ev ⟨?_, rfl⟩ | refine fin_q hcalm rfl hO.pre ev ⟨?_, rfl⟩
 first | rfl | (simp +decide only [go_sem, Nat.reduceAdd]; done) | (simp +decide only [go_sem, Nat.reduceAdd, Vl.cs, Ty.cs]; done)
theorem l6_example_at' (w0 : World) (B : List (List AV)) (Rw : List RowA) (L : List LoopA)  :
  ACalls Tryz.prog w0 51 [] ⟨B, Rw, L⟩ fun x st => x = .agg ((l6_example_F ).cs) ∧ st = ⟨B, Rw, L⟩ := l6_example_at w0 B Rw L  _ rfl
def s_has_1_F (rec : Ty → Vl → Option Bool) (a0 : Vl) (a1 : Ty) : Option Bool :=
 (idx a1.elem 0).bind fun x3 =>
 (rec x3 a0).bind fun y4 =>
 some (!y4)
theorem s_has_1_at (w0 : World) (rec : Ty → Vl → Option Bool) (ih : ∀ (B : List (List AV)) (Rw : List RowA) (L : List LoopA) (a0 : Ty) (a1 : Vl) (r : Bool) (h : rec a0 a1 = some r), ACalls Tryz.prog w0 101 [.agg (a0.cs), .agg (a1.cs)] ⟨B, Rw, L⟩ fun x st => x = .val (.bool r) ∧ st = ⟨B, Rw, L⟩) (B : List (List AV)) (Rw : List RowA) (L : List LoopA) (a0 : Vl) (la1 : Nat) (a1 : Ty) (hla1 : B[la1]? = some (a1.cs)) (r : Bool) (h : s_has_1_F rec a0 a1 = some r) :
  ACalls Tryz.prog w0 153 [.agg (a0.cs), .box la1 0] ⟨B, Rw, L⟩ fun x st => x = .val (.bool r) ∧ st = ⟨B, Rw, L⟩ := by
 rw [s_has_1_F] at h
 refine hd [.tmp 3] Tryz.func153 Tryz.ntmps153 fun M0 W0 hN hNR hNL hcalm hu hO hs => ?_
 simp only [argsE]
 have hltla1 := (List.getElem?_eq_some_iff.1 hla1).1
 have hs := And.intro (ptr_of hla1) hs
 refine rg [1, 2] hs ?_
 apply awp_seq; intro K2 hK2
 obtain ⟨x3, hx3a, hx3b, hx3d, h⟩ := ix avT h
 have hx3e : (a1.elem.map avT).getD 0 .junk = _ := hx3d
 obtain ⟨y4, hy4, h⟩ := bind_some h
 apply awp_draw mix 8 2 1 [3] (by kernel_rfl)
 rw [evK_succ]; simp +decide only [go_sem, Nat.reduceAdd, ptr_of hla1, hx3d, hx3e]
 have hs := And.intro hx3d hs
 have hs := And.intro hx3e hs
 (repeat' apply And.intro) <;> first | refine callK_p _ (ih _ _ _ x3 a0 _ hy4) (hv hs) ?_ | exact cl
 rw [evK_succ]; simp +decide only [go_sem, Nat.reduceAdd, ptr_of hla1, hx3d, hx3e]
 (repeat' with_reducible apply And.intro) <;> first | (rw [evK_succ]; simp +decide only [go_sem, Nat.reduceAdd, ptr_of hla1, hx3d, hx3e]) | exact cl
 (repeat' apply And.intro) <;> first | refine hK2 _ _ ?_ | exact cl
 clear hK2
 exact rt h hs hcalm hO
def sl_IndexFunc_Field_k3 (n : Nat)  : Option Int :=
 some ((-1))
def sl_IndexFunc_Field_l6 (n : Nat) (a0 : List (ByteArray × Vl)) (a1 : (ByteArray × Vl) → Option Bool) : Nat → Int → Option Int
 | 0, _ => none
 | m + 1, x8_l6 =>
  if decide (x8_l6 < ((a0.length : Int))) then
   (idx a0 x8_l6).bind fun x13 =>
   (a1 x13).bind fun y14 =>
   if y14 then
    some (x8_l6)
   else
    if I64 (x8_l6 + 1) then
     (sl_IndexFunc_Field_l6 n a0 a1 m) (x8_l6 + 1)
    else none
  else
   sl_IndexFunc_Field_k3 n 
def sl_IndexFunc_Field_F (n : Nat) (a0 : List (ByteArray × Vl)) (a1 : (ByteArray × Vl) → Option Bool) : Option Int :=
 sl_IndexFunc_Field_l6 n a0 a1 n 0
theorem sl_IndexFunc_Field_at (w0 : World) (n : Nat) (B : List (List AV)) (Rw : List RowA) (L : List LoopA) (a0 : List (ByteArray × Vl)) (fa1 : FuncId) (ca1 : List AV) (a1 : (ByteArray × Vl) → Option Bool) (ha1 : ∀ (x0 : ByteArray × Vl) r, a1 x0 = some r → ∀ B' rows, B <+: B' → Rw <+: rows → ACalls Tryz.prog w0 fa1 ([.agg (.val (.string x0.1) :: (x0.2.cs))] ++ ca1) ⟨B', rows, L⟩ fun v s => v = .val (.bool r) ∧ s = ⟨B', rows, L⟩) (r : Int) (h : sl_IndexFunc_Field_F n a0 a1 = some r) :
  ACalls Tryz.prog w0 94 [.list (a0.map avF) .none, .clo fa1 ca1] ⟨B, Rw, L⟩ fun x st => x = .val (.int .i64 r) ∧ st = ⟨B, Rw, L⟩ := by
 rw [sl_IndexFunc_Field_F] at h
 refine hd [.tmp 4] Tryz.func94 Tryz.ntmps94 fun M0 W0 hN hNR hNL hcalm hu hO hs => ?_
 simp only [argsE]
 have hU_a1 := under_caps (hu (.clo fa1 ca1) (by simp))
 refine rg [0, 1] hs ?_
 refine awp_mid (fun e st => Ck e st B Rw L [] [] [] (sl_IndexFunc_Field_k3 n  = some r)) ?_ ?_
 ·
  intro K4 hK4
  refine rg [0, 1, 7, 8] hs ?_
  apply awp_block
  refine awp_loop (fun m e st => ∃ (x8_l6 : Int), Ck e st B Rw L [(0, true, .list (a0.map avF) .none), (1, true, .clo fa1 ca1), (7, true, .val (.int .i64 ((a0.length : Int)))), (8, true, .val (.int .i64 x8_l6))] [] [] (sl_IndexFunc_Field_l6 n a0 a1 m x8_l6 = some r)) n ⟨0, ([]), Rw, ef hs, ef hs, hO, h⟩ ?_
  rintro ml6 e st ⟨x8_l6, Xl6, Rl6, rfl, rfl, hO, h⟩ Ul6 Vl6
  cases ml6 with
  | zero => cases h
  | succ ml6 =>
  rw [sl_IndexFunc_Field_l6] at h
  refine awp_tidy hN hNR hNL rfl hcalm hO (by (simp +decide only [go_sem, Nat.reduceAdd]) <;> (try (repeat' apply And.intro)) <;> first | omega | assumption | exact hU_a1 _ _ _ (by omega) (by have := hO.len; omega) (by omega)) (by (simp +decide only [go_sem, Nat.reduceAdd, calmE]) <;> (try (repeat' apply And.intro)) <;> first | omega | assumption | exact hU_a1 _ _ _ (by omega) (by have := hO.len; omega) (by omega)) ?_
  refine rg [0, 1, 7, 8, 9] hs ?_
  apply awp_seq; intro K8 hK8
  refine cnd h hs (fun hs h => ?_) (fun hs h => ?_)
  rotate_left
  ·
   refine sx [] hs hK4 ?_
   exact ⟨([]), Rl6, ef hs, ef hs, hO, h⟩
  refine sk [0, 1, 7, 8] hs hK8 ?_
  clear hK8
  apply awp_seq; intro K10 hK10
  apply awp_block
  refine rg [0, 1, 5, 7, 8] hs ?_
  obtain ⟨x13, hx13, h⟩ := bind_some h
  obtain ⟨hx13a, hx13b, hx13c⟩ := idx_some hx13
  have hx13d := getD_map (f := avF) hx13c
  obtain ⟨y14, hy14, h⟩ := bind_some h
  have hs := And.intro hx13d hs
  refine rc 2 [0, 1, 5, 7, 8, 16] hs ?_; intro K12 hK12
  refine callK_q _ (ha1 x13 _ hy14 _ _ (by first | exact List.prefix_append _ _ | exact List.prefix_refl _) hO.pre) (hv hs) ?_
  refine ne hs hK12 ?_
  clear hK12
  refine cnd h hs (fun hs h => ?_) (fun hs h => ?_)
  ·
   refine rg [4] hs ?_
   exact rt h hs hcalm hO
  refine sk [0, 1, 7, 8] hs hK10 ?_
  clear hK10
  obtain ⟨hg17, h⟩ := guard_some h
  refine rl [0, 1, 7, 8] hs (fun e s => Vl6 ml6 e s (Nat.lt_succ_self _)) ?_
  exact ⟨(x8_l6 + 1), ([]), Rl6, ef hs, ef hs, hO, h⟩
 ·
  clear h; rintro e st ⟨Xk3, Rk3, rfl, rfl, hO, h⟩
  rw [sl_IndexFunc_Field_k3] at h
  refine awp_tidy hN hNR hNL rfl hcalm hO (by (simp +decide only [go_sem, Nat.reduceAdd]) <;> (try (repeat' apply And.intro)) <;> first | omega | assumption | exact hU_a1 _ _ _ (by omega) (by have := hO.len; omega) (by omega)) (by (simp +decide only [go_sem, Nat.reduceAdd, calmE]) <;> (try (repeat' apply And.intro)) <;> first | omega | assumption | exact hU_a1 _ _ _ (by omega) (by have := hO.len; omega) (by omega)) ?_
  refine rg [4] hs ?_
  exact rt h hs hcalm hO
def v_index_1_F (a0 : ByteArray × Vl) (a1 : ByteArray) : Bool :=
 sEq a0.1 a1
theorem v_index_1_at (w0 : World) (B : List (List AV)) (Rw : List RowA) (L : List LoopA) (a0 : ByteArray × Vl) (la1 : Nat) (a1 : ByteArray) (hla1 : B[la1]? = some ([.val (.string a1)])) (r : Bool) (h : v_index_1_F a0 a1 = r) :
  ACalls Tryz.prog w0 138 [.agg (.val (.string a0.1) :: (a0.2.cs)), .box la1 0] ⟨B, Rw, L⟩ fun x st => x = .val (.bool r) ∧ st = ⟨B, Rw, L⟩ := by
 rw [v_index_1_F] at h
 refine hd [.tmp 3] Tryz.func138 Tryz.ntmps138 fun M0 W0 hN hNR hNL hcalm hu hO hs => ?_
 simp only [argsE]
 have hltla1 := (List.getElem?_eq_some_iff.1 hla1).1
 have hs := And.intro (ptr_of hla1) hs
 refine rg [1, 2] hs ?_
 refine rg [3] hs ?_
 apply awp_ret; simp +decide only [go_sem, Nat.reduceAdd, ptr_of hla1]
 subst h
 first | refine fin_q0 hcalm rfl hO.pre ev ⟨?_, rfl⟩ | refine fin_q hcalm rfl hO.pre ev ⟨?_, rfl⟩
 first | rfl | (simp +decide only [go_sem, Nat.reduceAdd, ptr_of hla1]; done) | (simp +decide only [go_sem, Nat.reduceAdd, Vl.cs, Ty.cs, ptr_of hla1]; done)
theorem v_index_1_at' (w0 : World) (B : List (List AV)) (Rw : List RowA) (L : List LoopA) (a0 : ByteArray × Vl) (la1 : Nat) (a1 : ByteArray) (hla1 : B[la1]? = some ([.val (.string a1)])) :
  ACalls Tryz.prog w0 138 [.agg (.val (.string a0.1) :: (a0.2.cs)), .box la1 0] ⟨B, Rw, L⟩ fun x st => x = .val (.bool (v_index_1_F a0 a1)) ∧ st = ⟨B, Rw, L⟩ := v_index_1_at w0 B Rw L a0 la1 a1 hla1 _ rfl
def v_index_F (n : Nat) (a0 : Vl) (a1 : ByteArray) : Option Int :=
 (sl_IndexFunc_Field_F n a0.fields (fun (x0 : ByteArray × Vl) => some (v_index_1_F x0 a1))).bind fun y3 =>
 some (y3)
theorem v_index_at (w0 : World) (n : Nat) (B : List (List AV)) (Rw : List RowA) (L : List LoopA) (a0 : Vl) (a1 : ByteArray) (r : Int) (h : v_index_F n a0 a1 = some r) :
  ACalls Tryz.prog w0 92 [.agg (a0.cs), .val (.string a1)] ⟨B, Rw, L⟩ fun x st => x = .val (.int .i64 r) ∧ st = ⟨B, Rw, L⟩ := by
 rw [v_index_F] at h
 refine hd [.tmp 4] Tryz.func92 Tryz.ntmps92 fun M0 W0 hN hNR hNL hcalm hu hO hs => ?_
 simp only [argsE]
 refine rg [2, 3] hs ?_
 obtain ⟨y3, hy3, h⟩ := bind_some h
 refine rc 2 [4] hs ?_; intro K2 hK2
 refine callK_p _ (sl_IndexFunc_Field_at w0 n _ _ _ a0.fields 138 [.box (B.length + 1) 0] (fun (x0 : ByteArray × Vl) => some (v_index_1_F x0 a1)) (fun x0 r hx B' rows' hB' hR' => by cases hx; exact v_index_1_at' w0 _ _ _ x0 _ a1 (prefix_get hB' ev)) _ hy3) (hv hs) ?_
 refine ne hs hK2 ?_
 clear hK2
 exact rt h hs hcalm hO
def v_Field_F (n : Nat) (a0 : Vl) (a1 : ByteArray) : Option (Vl × Bool) :=
 (v_index_F n a0 a1).bind fun y3 =>
 if (!(decide (a0.kind = 9))) || (decide (y3 < 0)) then
  some ((Vl.mk 0 0 0 ((⟨#[]⟩ : ByteArray)) ([]) ([]), false))
 else
  (idx a0.fields y3).bind fun x9 =>
  (v_Clone_F n x9.2).bind fun y10 =>
  some ((y10, true))
theorem v_Field_at (w0 : World) (n : Nat) (B : List (List AV)) (Rw : List RowA) (L : List LoopA) (a0 : Vl) (a1 : ByteArray) (r : Vl × Bool) (h : v_Field_F n a0 a1 = some r) :
  ACalls Tryz.prog w0 156 [.agg (a0.cs), .val (.string a1)] ⟨B, Rw, L⟩ fun x st => x = .tup [.agg (r.1.cs), .val (.bool r.2)] ∧ st = ⟨B, Rw, L⟩ := by
 rw [v_Field_F] at h
 refine hd [.cell 4 34, .tmp 5] Tryz.func156 Tryz.ntmps156 fun M0 W0 hN hNR hNL hcalm hu hO hs => ?_
 simp only [argsE]
 refine rg [1, 2, 4] hs ?_
 obtain ⟨y3, hy3, h⟩ := bind_some h
 refine rc 2 [2, 4, 6] hs ?_; intro K2 hK2
 refine callK_p _ (v_index_at w0 n _ _ _ a0 a1 _ hy3) (hv hs) ?_
 refine ne hs hK2 ?_
 clear hK2
 apply awp_seq; intro K4 hK4
 refine rg [2, 4, 6, 16] hs ?_
 refine cnd h hs (fun hs h => ?_) (fun hs h => ?_)
 ·
  have hb6 := hs.1
  apply awp_seq; intro K7 hK7
  apply awp_region 1 [4, 5]
  rw [evK_succ]; simp +decide only [go_sem, Nat.reduceAdd, hb6, fillA, fillOk, placeT]
  (repeat' apply And.intro) <;> first | refine hK7 _ _ ?_ | exact cl
  clear hK7
  exact rt h hs hcalm hO
 have hb6 := hs.1
 refine sk [2, 4, 6] hs hK4 ?_
 clear hK4
 obtain ⟨x9, hx9, h⟩ := bind_some h
 obtain ⟨hx9a, hx9b, hx9c⟩ := idx_some hx9
 have hx9d := getD_map (f := avF) hx9c
 obtain ⟨y10, hy10, h⟩ := bind_some h
 have hs := And.intro hx9d hs
 refine rc 2 [4, 5] hs ?_; intro K8 hK8
 refine callK_p _ (v_Clone_at w0 n _ _ _ x9.2 _ hy10) (hv hs) ?_
 refine ne hs hK8 ?_
 clear hK8
 exact rt h hs hcalm hO
def s_has_2_F (n : Nat) (a0 : Int × ByteArray × Int × Ty × List Vl) (a1 : Vl) : Option Bool :=
 (v_Field_F n a1 a0.2.1).bind fun y3 =>
 some ((!y3.2) && (!(decide (a0.2.2.1 = 2))))
theorem s_has_2_at (w0 : World) (n : Nat) (B : List (List AV)) (Rw : List RowA) (L : List LoopA) (a0 : Int × ByteArray × Int × Ty × List Vl) (la1 : Nat) (a1 : Vl) (hla1 : B[la1]? = some (a1.cs)) (r : Bool) (h : s_has_2_F n a0 a1 = some r) :
  ACalls Tryz.prog w0 155 [.agg (.val (.int .i64 a0.1) :: (.val (.string a0.2.1) :: (.val (.int .i64 a0.2.2.1) :: ((a0.2.2.2.1.cs) ++ ([.list (a0.2.2.2.2.map avV) .none]))))), .box la1 0] ⟨B, Rw, L⟩ fun x st => x = .val (.bool r) ∧ st = ⟨B, Rw, L⟩ := by
 rw [s_has_2_F] at h
 refine hd [.tmp 3] Tryz.func155 Tryz.ntmps155 fun M0 W0 hN hNR hNL hcalm hu hO hs => ?_
 simp only [argsE]
 have hltla1 := (List.getElem?_eq_some_iff.1 hla1).1
 have hs := And.intro (ptr_of hla1) hs
 refine rg [1, 2] hs ?_
 obtain ⟨y3, hy3, h⟩ := bind_some h
 refine rc 2 [2, 5] hs ?_; intro K2 hK2
 refine callK_p _ (v_Field_at w0 n _ _ _ a1 a0.2.1 _ hy3) (hv hs) ?_
 refine ne hs hK2 ?_
 clear hK2
 refine rg [3] hs ?_
 exact rt h hs hcalm hO
def sl_ContainsFunc_TypeField_F (n : Nat) (a0 : List (Int × ByteArray × Int × Ty × List Vl)) (a1 : (Int × ByteArray × Int × Ty × List Vl) → Option Bool) : Option Bool :=
 (sl_IndexFunc_TypeField_F n a0 a1).bind fun y3 =>
 some (decide (0 ≤ y3))
theorem sl_ContainsFunc_TypeField_at (w0 : World) (n : Nat) (B : List (List AV)) (Rw : List RowA) (L : List LoopA) (a0 : List (Int × ByteArray × Int × Ty × List Vl)) (fa1 : FuncId) (ca1 : List AV) (a1 : (Int × ByteArray × Int × Ty × List Vl) → Option Bool) (ha1 : ∀ (x0 : Int × ByteArray × Int × Ty × List Vl) r, a1 x0 = some r → ∀ B' rows, B <+: B' → Rw <+: rows → ACalls Tryz.prog w0 fa1 ([.agg (.val (.int .i64 x0.1) :: (.val (.string x0.2.1) :: (.val (.int .i64 x0.2.2.1) :: ((x0.2.2.2.1.cs) ++ ([.list (x0.2.2.2.2.map avV) .none])))))] ++ ca1) ⟨B', rows, L⟩ fun v s => v = .val (.bool r) ∧ s = ⟨B', rows, L⟩) (r : Bool) (h : sl_ContainsFunc_TypeField_F n a0 a1 = some r) :
  ACalls Tryz.prog w0 154 [.list (a0.map avTF) .none, .clo fa1 ca1] ⟨B, Rw, L⟩ fun x st => x = .val (.bool r) ∧ st = ⟨B, Rw, L⟩ := by
 rw [sl_ContainsFunc_TypeField_F] at h
 refine hd [.tmp 4] Tryz.func154 Tryz.ntmps154 fun M0 W0 hN hNR hNL hcalm hu hO hs => ?_
 simp only [argsE]
 have hU_a1 := under_caps (hu (.clo fa1 ca1) (by simp))
 refine rg [0, 1] hs ?_
 obtain ⟨y3, hy3, h⟩ := bind_some h
 refine rc 2 [4] hs ?_; intro K2 hK2
 refine callK_p _ (sl_IndexFunc_TypeField_at w0 n _ _ _ a0 fa1 ca1 a1 (fun x0 r hx B'' rows'' q1 q2 => ha1 x0 r hx B'' rows'' (List.IsPrefix.trans (by first | exact List.prefix_append _ _ | exact List.prefix_refl _) q1) (hO.pre.trans q2)) _ hy3) (hv hs) ?_
 refine ne hs hK2 ?_
 clear hK2
 exact rt h hs hcalm hO
def sl_IndexFunc_Value_k3 (n : Nat)  : Option Int :=
 some ((-1))
def sl_IndexFunc_Value_l6 (n : Nat) (a0 : List Vl) (a1 : Vl → Option Bool) : Nat → Int → Option Int
 | 0, _ => none
 | m + 1, x8_l6 =>
  if decide (x8_l6 < ((a0.length : Int))) then
   (idx a0 x8_l6).bind fun x13 =>
   (a1 x13).bind fun y14 =>
   if y14 then
    some (x8_l6)
   else
    if I64 (x8_l6 + 1) then
     (sl_IndexFunc_Value_l6 n a0 a1 m) (x8_l6 + 1)
    else none
  else
   sl_IndexFunc_Value_k3 n 
def sl_IndexFunc_Value_F (n : Nat) (a0 : List Vl) (a1 : Vl → Option Bool) : Option Int :=
 sl_IndexFunc_Value_l6 n a0 a1 n 0
theorem sl_IndexFunc_Value_at (w0 : World) (n : Nat) (B : List (List AV)) (Rw : List RowA) (L : List LoopA) (a0 : List Vl) (fa1 : FuncId) (ca1 : List AV) (a1 : Vl → Option Bool) (ha1 : ∀ (x0 : Vl) r, a1 x0 = some r → ∀ B' rows, B <+: B' → Rw <+: rows → ACalls Tryz.prog w0 fa1 ([.agg (x0.cs)] ++ ca1) ⟨B', rows, L⟩ fun v s => v = .val (.bool r) ∧ s = ⟨B', rows, L⟩) (r : Int) (h : sl_IndexFunc_Value_F n a0 a1 = some r) :
  ACalls Tryz.prog w0 182 [.list (a0.map avV) .none, .clo fa1 ca1] ⟨B, Rw, L⟩ fun x st => x = .val (.int .i64 r) ∧ st = ⟨B, Rw, L⟩ := by
 rw [sl_IndexFunc_Value_F] at h
 refine hd [.tmp 4] Tryz.func182 Tryz.ntmps182 fun M0 W0 hN hNR hNL hcalm hu hO hs => ?_
 simp only [argsE]
 have hU_a1 := under_caps (hu (.clo fa1 ca1) (by simp))
 refine rg [0, 1] hs ?_
 refine awp_mid (fun e st => Ck e st B Rw L [] [] [] (sl_IndexFunc_Value_k3 n  = some r)) ?_ ?_
 ·
  intro K4 hK4
  refine rg [0, 1, 7, 8] hs ?_
  apply awp_block
  refine awp_loop (fun m e st => ∃ (x8_l6 : Int), Ck e st B Rw L [(0, true, .list (a0.map avV) .none), (1, true, .clo fa1 ca1), (7, true, .val (.int .i64 ((a0.length : Int)))), (8, true, .val (.int .i64 x8_l6))] [] [] (sl_IndexFunc_Value_l6 n a0 a1 m x8_l6 = some r)) n ⟨0, ([]), Rw, ef hs, ef hs, hO, h⟩ ?_
  rintro ml6 e st ⟨x8_l6, Xl6, Rl6, rfl, rfl, hO, h⟩ Ul6 Vl6
  cases ml6 with
  | zero => cases h
  | succ ml6 =>
  rw [sl_IndexFunc_Value_l6] at h
  refine awp_tidy hN hNR hNL rfl hcalm hO (by (simp +decide only [go_sem, Nat.reduceAdd]) <;> (try (repeat' apply And.intro)) <;> first | omega | assumption | exact hU_a1 _ _ _ (by omega) (by have := hO.len; omega) (by omega)) (by (simp +decide only [go_sem, Nat.reduceAdd, calmE]) <;> (try (repeat' apply And.intro)) <;> first | omega | assumption | exact hU_a1 _ _ _ (by omega) (by have := hO.len; omega) (by omega)) ?_
  refine rg [0, 1, 7, 8, 9] hs ?_
  apply awp_seq; intro K8 hK8
  refine cnd h hs (fun hs h => ?_) (fun hs h => ?_)
  rotate_left
  ·
   refine sx [] hs hK4 ?_
   exact ⟨([]), Rl6, ef hs, ef hs, hO, h⟩
  refine sk [0, 1, 7, 8] hs hK8 ?_
  clear hK8
  apply awp_seq; intro K10 hK10
  apply awp_block
  refine rg [0, 1, 5, 7, 8] hs ?_
  obtain ⟨x13, hx13, h⟩ := bind_some h
  obtain ⟨hx13a, hx13b, hx13c⟩ := idx_some hx13
  have hx13d := getD_map (f := avV) hx13c
  obtain ⟨y14, hy14, h⟩ := bind_some h
  have hs := And.intro hx13d hs
  refine rc 2 [0, 1, 5, 7, 8, 16] hs ?_; intro K12 hK12
  refine callK_q _ (ha1 x13 _ hy14 _ _ (by first | exact List.prefix_append _ _ | exact List.prefix_refl _) hO.pre) (hv hs) ?_
  refine ne hs hK12 ?_
  clear hK12
  refine cnd h hs (fun hs h => ?_) (fun hs h => ?_)
  ·
   refine rg [4] hs ?_
   exact rt h hs hcalm hO
  refine sk [0, 1, 7, 8] hs hK10 ?_
  clear hK10
  obtain ⟨hg17, h⟩ := guard_some h
  refine rl [0, 1, 7, 8] hs (fun e s => Vl6 ml6 e s (Nat.lt_succ_self _)) ?_
  exact ⟨(x8_l6 + 1), ([]), Rl6, ef hs, ef hs, hO, h⟩
 ·
  clear h; rintro e st ⟨Xk3, Rk3, rfl, rfl, hO, h⟩
  rw [sl_IndexFunc_Value_k3] at h
  refine awp_tidy hN hNR hNL rfl hcalm hO (by (simp +decide only [go_sem, Nat.reduceAdd]) <;> (try (repeat' apply And.intro)) <;> first | omega | assumption | exact hU_a1 _ _ _ (by omega) (by have := hO.len; omega) (by omega)) (by (simp +decide only [go_sem, Nat.reduceAdd, calmE]) <;> (try (repeat' apply And.intro)) <;> first | omega | assumption | exact hU_a1 _ _ _ (by omega) (by have := hO.len; omega) (by omega)) ?_
  refine rg [4] hs ?_
  exact rt h hs hcalm hO
def sl_ContainsFunc_Value_F (n : Nat) (a0 : List Vl) (a1 : Vl → Option Bool) : Option Bool :=
 (sl_IndexFunc_Value_F n a0 a1).bind fun y3 =>
 some (decide (0 ≤ y3))
theorem sl_ContainsFunc_Value_at (w0 : World) (n : Nat) (B : List (List AV)) (Rw : List RowA) (L : List LoopA) (a0 : List Vl) (fa1 : FuncId) (ca1 : List AV) (a1 : Vl → Option Bool) (ha1 : ∀ (x0 : Vl) r, a1 x0 = some r → ∀ B' rows, B <+: B' → Rw <+: rows → ACalls Tryz.prog w0 fa1 ([.agg (x0.cs)] ++ ca1) ⟨B', rows, L⟩ fun v s => v = .val (.bool r) ∧ s = ⟨B', rows, L⟩) (r : Bool) (h : sl_ContainsFunc_Value_F n a0 a1 = some r) :
  ACalls Tryz.prog w0 152 [.list (a0.map avV) .none, .clo fa1 ca1] ⟨B, Rw, L⟩ fun x st => x = .val (.bool r) ∧ st = ⟨B, Rw, L⟩ := by
 rw [sl_ContainsFunc_Value_F] at h
 refine hd [.tmp 4] Tryz.func152 Tryz.ntmps152 fun M0 W0 hN hNR hNL hcalm hu hO hs => ?_
 simp only [argsE]
 have hU_a1 := under_caps (hu (.clo fa1 ca1) (by simp))
 refine rg [0, 1] hs ?_
 obtain ⟨y3, hy3, h⟩ := bind_some h
 refine rc 2 [4] hs ?_; intro K2 hK2
 refine callK_p _ (sl_IndexFunc_Value_at w0 n _ _ _ a0 fa1 ca1 a1 (fun x0 r hx B'' rows'' q1 q2 => ha1 x0 r hx B'' rows'' (List.IsPrefix.trans (by first | exact List.prefix_append _ _ | exact List.prefix_refl _) q1) (hO.pre.trans q2)) _ hy3) (hv hs) ?_
 refine ne hs hK2 ?_
 clear hK2
 exact rt h hs hcalm hO
def sl_Index_string_k3 (n : Nat)  : Option Int :=
 some ((-1))
def sl_Index_string_l6 (n : Nat) (a0 : List ByteArray) (a1 : ByteArray) : Nat → Int → Option Int
 | 0, _ => none
 | m + 1, x8_l6 =>
  if decide (x8_l6 < ((a0.length : Int))) then
   (idx a0 x8_l6).bind fun x13 =>
   if sEq a1 x13 then
    some (x8_l6)
   else
    if I64 (x8_l6 + 1) then
     (sl_Index_string_l6 n a0 a1 m) (x8_l6 + 1)
    else none
  else
   sl_Index_string_k3 n 
def sl_Index_string_F (n : Nat) (a0 : List ByteArray) (a1 : ByteArray) : Option Int :=
 sl_Index_string_l6 n a0 a1 n 0
theorem sl_Index_string_at (w0 : World) (n : Nat) (B : List (List AV)) (Rw : List RowA) (L : List LoopA) (a0 : List ByteArray) (a1 : ByteArray) (r : Int) (h : sl_Index_string_F n a0 a1 = some r) :
  ACalls Tryz.prog w0 181 [.list (a0.map avS) .none, .val (.string a1)] ⟨B, Rw, L⟩ fun x st => x = .val (.int .i64 r) ∧ st = ⟨B, Rw, L⟩ := by
 rw [sl_Index_string_F] at h
 refine hd [.tmp 4] Tryz.func181 Tryz.ntmps181 fun M0 W0 hN hNR hNL hcalm hu hO hs => ?_
 simp only [argsE]
 refine rg [0, 1] hs ?_
 refine awp_mid (fun e st => Ck e st B Rw L [] [] [] (sl_Index_string_k3 n  = some r)) ?_ ?_
 ·
  intro K4 hK4
  refine rg [0, 1, 7, 8] hs ?_
  apply awp_block
  refine awp_loop (fun m e st => ∃ (x8_l6 : Int), Ck e st B Rw L [(0, true, .list (a0.map avS) .none), (1, true, .val (.string a1)), (7, true, .val (.int .i64 ((a0.length : Int)))), (8, true, .val (.int .i64 x8_l6))] [] [] (sl_Index_string_l6 n a0 a1 m x8_l6 = some r)) n ⟨0, ([]), Rw, ef hs, ef hs, hO, h⟩ ?_
  rintro ml6 e st ⟨x8_l6, Xl6, Rl6, rfl, rfl, hO, h⟩ Ul6 Vl6
  cases ml6 with
  | zero => cases h
  | succ ml6 =>
  rw [sl_Index_string_l6] at h
  refine td hN hNR hNL hcalm hO ?_
  refine rg [0, 1, 7, 8, 9] hs ?_
  apply awp_seq; intro K8 hK8
  refine cnd h hs (fun hs h => ?_) (fun hs h => ?_)
  rotate_left
  ·
   refine sx [] hs hK4 ?_
   exact ⟨([]), Rl6, ef hs, ef hs, hO, h⟩
  refine sk [0, 1, 7, 8] hs hK8 ?_
  clear hK8
  apply awp_seq; intro K10 hK10
  apply awp_block
  refine rg [0, 1, 5, 7, 8] hs ?_
  obtain ⟨x13, hx13, h⟩ := bind_some h
  obtain ⟨hx13a, hx13b, hx13c⟩ := idx_some hx13
  have hx13d := getD_map (f := avS) hx13c
  have hs := And.intro hx13d hs
  refine rg [0, 1, 5, 7, 8, 16] hs ?_
  refine cnd h hs (fun hs h => ?_) (fun hs h => ?_)
  ·
   refine rg [4] hs ?_
   exact rt h hs hcalm hO
  refine sk [0, 1, 7, 8] hs hK10 ?_
  clear hK10
  obtain ⟨hg16, h⟩ := guard_some h
  refine rl [0, 1, 7, 8] hs (fun e s => Vl6 ml6 e s (Nat.lt_succ_self _)) ?_
  exact ⟨(x8_l6 + 1), ([]), Rl6, ef hs, ef hs, hO, h⟩
 ·
  clear h; rintro e st ⟨Xk3, Rk3, rfl, rfl, hO, h⟩
  rw [sl_Index_string_k3] at h
  refine td hN hNR hNL hcalm hO ?_
  refine rg [4] hs ?_
  exact rt h hs hcalm hO
def sl_Contains_string_F (n : Nat) (a0 : List ByteArray) (a1 : ByteArray) : Option Bool :=
 (sl_Index_string_F n a0 a1).bind fun y3 =>
 some (decide (0 ≤ y3))
theorem sl_Contains_string_at (w0 : World) (n : Nat) (B : List (List AV)) (Rw : List RowA) (L : List LoopA) (a0 : List ByteArray) (a1 : ByteArray) (r : Bool) (h : sl_Contains_string_F n a0 a1 = some r) :
  ACalls Tryz.prog w0 151 [.list (a0.map avS) .none, .val (.string a1)] ⟨B, Rw, L⟩ fun x st => x = .val (.bool r) ∧ st = ⟨B, Rw, L⟩ := by
 rw [sl_Contains_string_F] at h
 refine hd [.tmp 4] Tryz.func151 Tryz.ntmps151 fun M0 W0 hN hNR hNL hcalm hu hO hs => ?_
 simp only [argsE]
 refine rg [0, 1] hs ?_
 obtain ⟨y3, hy3, h⟩ := bind_some h
 refine rc 2 [4] hs ?_; intro K2 hK2
 refine callK_p _ (sl_Index_string_at w0 n _ _ _ a0 a1 _ hy3) (hv hs) ?_
 refine ne hs hK2 ?_
 clear hK2
 exact rt h hs hcalm hO
def s_has_k48 (rec : Ty → Vl → Option Bool) (n : Nat) (a0 : Ty) (a1 : Vl) : Option Bool :=
 (sl_ContainsFunc_TypeField_F n a0.fields (fun (x0 : Int × ByteArray × Int × Ty × List Vl) => s_has_2_F n x0 a1)).bind fun y69 =>
 some (!y69)
def s_has_k7 (rec : Ty → Vl → Option Bool) (n : Nat)  : Option Bool :=
 some (true)
def s_has_l51 (rec : Ty → Vl → Option Bool) (n : Nat) (a0 : Ty) (a1 : Vl) : Nat → Int → Option Bool
 | 0, _ => none
 | m + 1, x107_l51 =>
  if decide (x107_l51 < ((a1.fields.length : Int))) then
   (idx a1.fields x107_l51).bind fun x57 =>
   (s_Field_F n a0 x57.1).bind fun y59 =>
   if !y59.2 then
    some (false)
   else
    (rec y59.1.2.2.2.1 x57.2).bind fun y64 =>
    if !y64 then
     some (false)
    else
     if I64 (x107_l51 + 1) then
      (s_has_l51 rec n a0 a1 m) (x107_l51 + 1)
     else none
  else
   s_has_k48 rec n a0 a1 
def s_has_k11 (rec : Ty → Vl → Option Bool) (n : Nat) (a0 : Ty) (a1 : Vl) (x18_k11 : Bool) : Option Bool :=
 if x18_k11 then
  some ((decide (a0.min ≤ a1.int) && decide (a1.int ≤ a0.max)) && (decide (a1.scale = a0.scale)))
 else
  if decide (a0.kind = 4) then
   if decide (0 < ((a0.words.length : Int))) then
    (sl_Contains_string_F n a0.words a1.text).bind fun y27 =>
    some (y27)
   else
    some (decide (a0.min ≤ ((a1.text.size : Int))) && decide (((a1.text.size : Int)) ≤ a0.max))
  else
   if decide (a0.kind = 5) then
    some (decide (a0.min ≤ ((a1.text.size : Int))) && decide (((a1.text.size : Int)) ≤ a0.max))
   else
    if decide (a0.kind = 8) then
     if decide (a0.min ≤ ((a1.list.length : Int))) && decide (((a1.list.length : Int)) ≤ a0.max) then
      (sl_ContainsFunc_Value_F n a1.list (fun (x0 : Vl) => s_has_1_F rec x0 a0)).bind fun y36 =>
      some (!y36)
     else
      some (false)
    else
     if decide (a0.kind = 10) then
      (s_Field_F n a0 a1.text).bind fun y40 =>
      if y40.2 then
       (idx a1.list 0).bind fun x43 =>
       (rec y40.1.2.2.2.1 x43).bind fun y44 =>
       some (y44)
      else
       some (false)
     else
      if decide (a0.kind = 9) then
       s_has_l51 rec n a0 a1 n 0
      else
       s_has_k7 rec n 
def s_has_B (rec : Ty → Vl → Option Bool) (n : Nat) (a0 : Ty) (a1 : Vl) : Option Bool :=
 if !(decide (a1.kind = a0.kind)) then
  some (false)
 else
  if decide (a0.kind = 2) then
   s_has_k11 rec n a0 a1 true
  else
   if decide (a0.kind = 6) then
    s_has_k11 rec n a0 a1 true
   else
    if decide (a0.kind = 7) then
     s_has_k11 rec n a0 a1 true
    else
     s_has_k11 rec n a0 a1 (decide (a0.kind = 3))
def s_has_F : Nat → Ty → Vl → Option Bool
 | 0, _, _ => none
 | n + 1, a0, a1 => s_has_B (s_has_F n) n a0 a1
def s_has_C (w0 : World) (F : Ty → Vl → Option Bool) : Prop := ∀ (B : List (List AV)) (Rw : List RowA) (L : List LoopA) (a0 : Ty) (a1 : Vl) (r : Bool), F a0 a1 = some r → ACalls Tryz.prog w0 101 [.agg (a0.cs), .agg (a1.cs)] ⟨B, Rw, L⟩ fun x st => x = .val (.bool r) ∧ st = ⟨B, Rw, L⟩
theorem s_has_step (w0 : World) (rec : Ty → Vl → Option Bool) (ih : s_has_C w0 rec) (n : Nat) : s_has_C w0 (s_has_B rec n) := by
 intro B Rw L a0 a1 r h
 rw [s_has_B] at h
 refine hd [.tmp 4] Tryz.func101 Tryz.ntmps101 fun M0 W0 hN hNR hNL hcalm hu hO hs => ?_
 simp only [argsE]
 refine rg [2, 3] hs ?_
 apply awp_seq; intro K2 hK2
 refine rg [2, 3, 15] hs ?_
 refine cnd h hs (fun hs h => ?_) (fun hs h => ?_)
 ·
  have hb4 := hs.1
  refine rg [4] hs ?_
  exact rt h hs hcalm hO
 have hb4 := hs.1
 refine sk [2, 3] hs hK2 ?_
 clear hK2
 refine awp_mid (fun e st => Ck e st B Rw L [] [a0.cs, a1.cs] [] (s_has_k7 rec n  = some r)) ?_ ?_
 ·
  intro K8 hK8
  refine rg [2, 3, 17] hs ?_
  apply awp_block
  refine awp_mid (fun e st => ∃ (x18_k11 : Bool), Ck e st B Rw L [(2, true, .box B.length 0), (3, true, .box (B.length + 1) 0), (17, true, .val (.int .i64 a0.kind)), (18, true, .val (.bool x18_k11))] [a0.cs, a1.cs] [] (s_has_k11 rec n a0 a1 x18_k11 = some r)) ?_ ?_
  ·
   intro K12 hK12
   refine rg [2, 3, 17, 18] hs ?_
   refine cnd h hs (fun hs h => ?_) (fun hs h => ?_)
   ·
    refine sk [2, 3, 17, 18] hs hK12 ?_
    exact ⟨true, ([]), Rw, ef hs, ef hs, hO, h⟩
   refine rg [2, 3, 17, 18] hs ?_
   refine cnd h hs (fun hs h => ?_) (fun hs h => ?_)
   ·
    refine sk [2, 3, 17, 18] hs hK12 ?_
    exact ⟨true, ([]), Rw, ef hs, ef hs, hO, h⟩
   refine rg [2, 3, 17, 18] hs ?_
   refine cnd h hs (fun hs h => ?_) (fun hs h => ?_)
   ·
    refine sk [2, 3, 17, 18] hs hK12 ?_
    exact ⟨true, ([]), Rw, ef hs, ef hs, hO, h⟩
   refine rl [2, 3, 17, 18] hs hK12 ?_
   exact ⟨(decide (a0.kind = 3)), ([]), Rw, ef hs, ef hs, hO, h⟩
  ·
   clear h; rintro e st ⟨x18_k11, Xk11, Rk11, rfl, rfl, hO, h⟩
   rw [s_has_k11] at h
   refine td hN hNR hNL hcalm hO ?_
   refine cnd h hs (fun hs h => ?_) (fun hs h => ?_)
   ·
    have hb19 := hs.1
    refine rc 2 [4] hs ?_; intro K20 hK20
    refine callK_p _ (in_at w0 _ _ _ a1.int a0.min a0.max) (hv hs) ?_
    refine ne hs hK20 ?_
    clear hK20
    exact rt h hs hcalm hO
   have hb19 := hs.1
   refine rg [2, 3, 17, 37] hs ?_
   refine cnd h hs (fun hs h => ?_) (fun hs h => ?_)
   ·
    have hb22 := hs.1
    apply awp_seq; intro K23 hK23
    refine rg [2, 3, 42] hs ?_
    refine cnd h hs (fun hs h => ?_) (fun hs h => ?_)
    ·
     obtain ⟨y27, hy27, h⟩ := bind_some h
     refine rc 2 [4] hs ?_; intro K26 hK26
     refine callK_p _ (sl_Contains_string_at w0 n _ _ _ a0.words a1.text _ hy27) (hv hs) ?_
     refine ne hs hK26 ?_
     clear hK26
     exact rt h hs hcalm hO
    refine sk [2, 3] hs hK23 ?_
    clear hK23
    refine rc 2 [4] hs ?_; intro K28 hK28
    refine callK_p _ (in_at w0 _ _ _ ((a1.text.size : Int)) a0.min a0.max) (hv hs) ?_
    refine ne hs hK28 ?_
    clear hK28
    exact rt h hs hcalm hO
   have hb22 := hs.1
   refine rg [2, 3, 17, 56] hs ?_
   refine cnd h hs (fun hs h => ?_) (fun hs h => ?_)
   ·
    have hb30 := hs.1
    refine rc 2 [4] hs ?_; intro K31 hK31
    refine callK_p _ (in_at w0 _ _ _ ((a1.text.size : Int)) a0.min a0.max) (hv hs) ?_
    refine ne hs hK31 ?_
    clear hK31
    exact rt h hs hcalm hO
   have hb30 := hs.1
   refine rg [2, 3, 17, 66] hs ?_
   refine cnd h hs (fun hs h => ?_) (fun hs h => ?_)
   ·
    have hb33 := hs.1
    apply awp_seq; intro K34 hK34
    rcases Bool.eq_false_or_eq_true (decide (a0.min ≤ ((a1.list.length : Int))) && decide (((a1.list.length : Int)) ≤ a0.max)) with hf35 | hf35
    ·
     replace h := ite_tt h hf35
     obtain ⟨y36, hy36, h⟩ := bind_some h
     have hs := And.intro hf35 hs
     refine rk 3 [4] hs ?_
     refine callK_p _ (in_at w0 _ _ _ ((a1.list.length : Int)) a0.min a0.max) (hv hs) ?_
     refine nc hs ?_
     refine callK_p _ (sl_ContainsFunc_Value_at w0 n _ _ _ a1.list 153 [.box B.length 0] (fun (x0 : Vl) => s_has_1_F rec x0 a0) (fun x0 r hx B' rows' hB' hR' => by exact s_has_1_at w0 rec ih _ _ _ x0 _ a0 (prefix_get hB' (ef hs)) _ hx) _ hy36) (hv hs) ?_
     refine ne hs hK34 ?_
     clear hK34
     exact rt h hs hcalm hO
    ·
     replace h := ite_ff h hf35
     apply awp_region 3 [4]
     rw [evK_succ]; simp +decide only [go_sem, Nat.reduceAdd, hb4, hb19, hb22, hb30, hb33, hf35]
     have hs := And.intro hf35 hs
     (repeat' apply And.intro) <;> first | refine callK_p _ (in_at w0 _ _ _ ((a1.list.length : Int)) a0.min a0.max) (hv hs) ?_ | exact cl
     rw [evK_succ]; simp +decide only [go_sem, Nat.reduceAdd, hb4, hb19, hb22, hb30, hb33, hf35]
     (repeat' apply And.intro) <;> first | refine callK_skip ?_ | exact cl
     rw [evK_succ]; simp +decide only [go_sem, Nat.reduceAdd, hb4, hb19, hb22, hb30, hb33, hf35]
     (repeat' apply And.intro) <;> first | refine hK34 _ _ ?_ | exact cl
     clear hK34
     exact rt h hs hcalm hO
   have hb33 := hs.1
   refine rg [2, 3, 17, 83] hs ?_
   refine cnd h hs (fun hs h => ?_) (fun hs h => ?_)
   ·
    have hb38 := hs.1
    obtain ⟨y40, hy40, h⟩ := bind_some h
    refine rc 2 [3, 5, 6] hs ?_; intro K39 hK39
    refine callK_p _ (s_Field_at w0 n _ _ _ a0 a1.text _ hy40) (hv hs) ?_
    refine ne hs hK39 ?_
    clear hK39
    apply awp_seq; intro K41 hK41
    rcases Bool.eq_false_or_eq_true (y40.2) with hf42 | hf42
    ·
     replace h := ite_tt h hf42
     obtain ⟨x43, hx43a, hx43b, hx43d, h⟩ := ix avV h
     have hx43e : (a1.list.map avV).getD 0 .junk = _ := hx43d
     obtain ⟨y44, hy44, h⟩ := bind_some h
     apply awp_draw mix 11 2 1 [4] (by kernel_rfl)
     rw [evK_succ]; simp +decide only [go_sem, Nat.reduceAdd, hb4, hb19, hb22, hb30, hb33, hb38, hf42, hx43d, hx43e]
     have hs := And.intro hf42 hs
     have hs := And.intro hx43d hs
     have hs := And.intro hx43e hs
     (repeat' apply And.intro) <;> first | refine callK_p _ (ih _ _ _ y40.1.2.2.2.1 x43 _ hy44) (hv hs) ?_ | exact cl
     rw [evK_succ]; simp +decide only [go_sem, Nat.reduceAdd, hb4, hb19, hb22, hb30, hb33, hb38, hf42, hx43d, hx43e]
     (repeat' with_reducible apply And.intro) <;> first | (rw [evK_succ]; simp +decide only [go_sem, Nat.reduceAdd, hb4, hb19, hb22, hb30, hb33, hb38, hf42, hx43d, hx43e]) | exact cl
     (repeat' apply And.intro) <;> first | refine hK41 _ _ ?_ | exact cl
     clear hK41
     exact rt h hs hcalm hO
    ·
     replace h := ite_ff h hf42
     apply awp_draw mix 11 2 1 [4] (by kernel_rfl)
     rw [evK_succ]; simp +decide only [go_sem, Nat.reduceAdd, hb4, hb19, hb22, hb30, hb33, hb38, hf42]
     (repeat' apply And.intro) <;> first | refine callK_skip ?_ | exact cl
     rw [evK_succ]; simp +decide only [go_sem, Nat.reduceAdd, hb4, hb19, hb22, hb30, hb33, hb38, hf42]
     (repeat' with_reducible apply And.intro) <;> first | (rw [evK_succ]; simp +decide only [go_sem, Nat.reduceAdd, hb4, hb19, hb22, hb30, hb33, hb38, hf42]) | exact cl
     (repeat' apply And.intro) <;> first | refine hK41 _ _ ?_ | exact cl
     clear hK41
     have hs := And.intro hf42 hs
     exact rt h hs hcalm hO
   have hb38 := hs.1
   refine rg [2, 3, 102] hs ?_
   refine cnd h hs (fun hs h => ?_) (fun hs h => ?_)
   ·
    have hb46 := hs.1
    refine awp_mid (fun e st => Ck e st B Rw L [(2, true, .box B.length 0), (3, true, .box (B.length + 1) 0)] [a0.cs, a1.cs] [] (s_has_k48 rec n a0 a1  = some r)) ?_ ?_
    ·
     intro K49 hK49
     refine rg [2, 3, 105, 106, 107] hs ?_
     apply awp_block
     refine awp_loop (fun m e st => ∃ (x107_l51 : Int), Ck e st B Rw L [(2, true, .box B.length 0), (3, true, .box (B.length + 1) 0), (105, true, .list (a1.fields.map avF) .none), (106, true, .val (.int .i64 ((a1.fields.length : Int)))), (107, true, .val (.int .i64 x107_l51))] [a0.cs, a1.cs] [] (s_has_l51 rec n a0 a1 m x107_l51 = some r)) n ⟨0, ([]), Rk11, ef hs, ef hs, hO, h⟩ ?_
     rintro ml51 e st ⟨x107_l51, Xl51, Rl51, rfl, rfl, hO, h⟩ Ul51 Vl51
     cases ml51 with
     | zero => cases h
     | succ ml51 =>
     rw [s_has_l51] at h
     refine td hN hNR hNL hcalm hO ?_
     refine rg [2, 3, 105, 106, 107, 108] hs ?_
     apply awp_seq; intro K53 hK53
     refine cnd h hs (fun hs h => ?_) (fun hs h => ?_)
     rotate_left
     ·
      have hb54 := hs.1
      refine sx [2, 3] hs hK49 ?_
      exact ⟨([]), Rl51, ef hs, ef hs, hO, h⟩
     have hb54 := hs.1
     refine sk [2, 3, 105, 106, 107] hs hK53 ?_
     clear hK53
     apply awp_seq; intro K55 hK55
     apply awp_block
     obtain ⟨x57, hx57, h⟩ := bind_some h
     obtain ⟨hx57a, hx57b, hx57c⟩ := idx_some hx57
     have hx57d := getD_map (f := avF) hx57c
     have hs := And.intro hx57d hs
     refine rg [2, 3, 8, 105, 106, 107] hs ?_
     obtain ⟨y59, hy59, h⟩ := bind_some h
     refine rc 2 [2, 3, 8, 9, 10, 105, 106, 107] hs ?_; intro K58 hK58
     refine callK_p _ (s_Field_at w0 n _ _ _ a0 x57.1 _ hy59) (hv hs) ?_
     refine ne hs hK58 ?_
     clear hK58
     apply awp_seq; intro K60 hK60
     rcases Bool.eq_false_or_eq_true (!y59.2) with hf61 | hf61
     ·
      replace h := ite_tt h hf61
      apply awp_region 2 [2, 3, 105, 106, 107, 127]
      rw [evK_succ]; simp +decide only [go_sem, Nat.reduceAdd, hb4, hb19, hb22, hb30, hb33, hb38, hb46, hb54, hx57d, hf61]
      (repeat' apply And.intro) <;> first | refine callK_skip ?_ | exact cl
      rw [evK_succ]; simp +decide only [go_sem, Nat.reduceAdd, hb4, hb19, hb22, hb30, hb33, hb38, hb46, hb54, hx57d, hf61]
      (repeat' apply And.intro) <;> first | refine hK60 _ _ ?_ | exact cl
      clear hK60
      have hs := And.intro hf61 hs
      refine awp_cond true ev (ef hs) (fun hb62 => ?_) (fun hb62 => by cases hb62)
      refine rg [4] hs ?_
      exact rt h hs hcalm hO
     ·
      replace h := ite_ff h hf61
      obtain ⟨y64, hy64, h⟩ := bind_some h
      have hs := And.intro hf61 hs
      refine rk 2 [2, 3, 105, 106, 107, 127] hs ?_
      refine callK_p _ (ih _ _ _ y59.1.2.2.2.1 x57.2 _ hy64) (hv hs) ?_
      refine ne hs hK60 ?_
      clear hK60
      refine cnd h hs (fun hs h => ?_) (fun hs h => ?_)
      ·
       refine rg [4] hs ?_
       exact rt h hs hcalm hO
      refine sk [2, 3, 105, 106, 107] hs hK55 ?_
      clear hK55
      obtain ⟨hg67, h⟩ := guard_some h
      refine rl [2, 3, 105, 106, 107] hs (fun e s => Vl51 ml51 e s (Nat.lt_succ_self _)) ?_
      exact ⟨(x107_l51 + 1), ([.val (.string x57.1) :: (x57.2.cs), .val (.int .i64 y59.1.1) :: (.val (.string y59.1.2.1) :: (.val (.int .i64 y59.1.2.2.1) :: ((y59.1.2.2.2.1.cs) ++ ([.list (y59.1.2.2.2.2.map avV) .none]))))]), Rl51, ef hs, ef hs, hO, h⟩
    ·
     clear h; rintro e st ⟨Xk48, Rk48, rfl, rfl, hO, h⟩
     rw [s_has_k48] at h
     refine td hN hNR hNL hcalm hO ?_
     obtain ⟨y69, hy69, h⟩ := bind_some h
     refine rc 2 [4] hs ?_; intro K68 hK68
     refine callK_p _ (sl_ContainsFunc_TypeField_at w0 n _ _ _ a0.fields 155 [.box (B.length + 1) 0] (fun (x0 : Int × ByteArray × Int × Ty × List Vl) => s_has_2_F n x0 a1) (fun x0 r hx B' rows' hB' hR' => by exact s_has_2_at w0 n _ _ _ x0 _ a1 (prefix_get hB' (ef hs)) _ hx) _ hy69) (hv hs) ?_
     refine ne hs hK68 ?_
     clear hK68
     exact rt h hs hcalm hO
   have hb46 := hs.1
   refine sk [] hs hK8 ?_
   exact ⟨([]), Rk11, ef hs, ef hs, hO, h⟩
 ·
  clear h; rintro e st ⟨Xk7, Rk7, rfl, rfl, hO, h⟩
  rw [s_has_k7] at h
  refine td hN hNR hNL hcalm hO ?_
  refine rg [4] hs ?_
  exact rt h hs hcalm hO
theorem s_has_at (w0 : World) : ∀ n : Nat, s_has_C w0 (s_has_F n)
 | 0 => fun _ _ _ _ _ _ h => (nomatch h)
 | n + 1 => s_has_step w0 (s_has_F n) (s_has_at w0 n) n
def s_accepts_F (n : Nat) (a0 : Ty) (a1 : Vl) : Option Bool :=
 (v_Check_F n a1).bind fun y3 =>
 if decide (y3 = 0) then
  (s_has_F n a0 a1).bind fun y5 =>
  some (y5)
 else
  some (false)
theorem s_accepts_at (w0 : World) (hT : Lib.Utf8Tabs 0 1 w0) (n : Nat) (B : List (List AV)) (Rw : List RowA) (L : List LoopA) (a0 : Ty) (a1 : Vl) (r : Bool) (h : s_accepts_F n a0 a1 = some r) :
  ACalls Tryz.prog w0 58 [.agg (a0.cs), .agg (a1.cs)] ⟨B, Rw, L⟩ fun x st => x = .val (.bool r) ∧ st = ⟨B, Rw, L⟩ := by
 rw [s_accepts_F] at h
 refine hd [.tmp 4] Tryz.func58 Tryz.ntmps58 fun M0 W0 hN hNR hNL hcalm hu hO hs => ?_
 simp only [argsE]
 refine rg [2, 3] hs ?_
 apply awp_seq; intro K2 hK2
 obtain ⟨y3, hy3, h⟩ := bind_some h
 rcases Bool.eq_false_or_eq_true (decide (y3 = 0)) with hf4 | hf4
 ·
  replace h := ite_tt h hf4
  obtain ⟨y5, hy5, h⟩ := bind_some h
  have hs := And.intro hf4 hs
  refine rk 3 [4] hs ?_
  refine callK_p _ (v_Check_at w0 hT n _ _ _ a1 _ hy3) (hv hs) ?_
  refine nc hs ?_
  refine callK_p _ (s_has_at w0 n _ _ _ a0 a1 _ hy5) (hv hs) ?_
  refine ne hs hK2 ?_
  clear hK2
  exact rt h hs hcalm hO
 ·
  replace h := ite_ff h hf4
  apply awp_region 3 [4]
  rw [evK_succ]; simp +decide only [go_sem, Nat.reduceAdd, hf4]
  have hs := And.intro hf4 hs
  (repeat' apply And.intro) <;> first | refine callK_p _ (v_Check_at w0 hT n _ _ _ a1 _ hy3) (hv hs) ?_ | exact cl
  rw [evK_succ]; simp +decide only [go_sem, Nat.reduceAdd, hf4]
  (repeat' apply And.intro) <;> first | refine callK_skip ?_ | exact cl
  rw [evK_succ]; simp +decide only [go_sem, Nat.reduceAdd, hf4]
  (repeat' apply And.intro) <;> first | refine hK2 _ _ ?_ | exact cl
  clear hK2
  exact rt h hs hcalm hO
def s_field_1_F (a0 : Int × ByteArray × Int × Ty × List Vl) (a1 : Int × ByteArray × Int × Ty × List Vl) : Bool :=
 (sEq a0.2.1 a1.2.1) || (decide (a0.1 = a1.1))
theorem s_field_1_at (w0 : World) (B : List (List AV)) (Rw : List RowA) (L : List LoopA) (a0 : Int × ByteArray × Int × Ty × List Vl) (la1 : Nat) (a1 : Int × ByteArray × Int × Ty × List Vl) (hla1 : B[la1]? = some (.val (.int .i64 a1.1) :: (.val (.string a1.2.1) :: (.val (.int .i64 a1.2.2.1) :: ((a1.2.2.2.1.cs) ++ ([.list (a1.2.2.2.2.map avV) .none])))))) (r : Bool) (h : s_field_1_F a0 a1 = r) :
  ACalls Tryz.prog w0 180 [.agg (.val (.int .i64 a0.1) :: (.val (.string a0.2.1) :: (.val (.int .i64 a0.2.2.1) :: ((a0.2.2.2.1.cs) ++ ([.list (a0.2.2.2.2.map avV) .none]))))), .box la1 0] ⟨B, Rw, L⟩ fun x st => x = .val (.bool r) ∧ st = ⟨B, Rw, L⟩ := by
 rw [s_field_1_F] at h
 refine hd [.tmp 3] Tryz.func180 Tryz.ntmps180 fun M0 W0 hN hNR hNL hcalm hu hO hs => ?_
 simp only [argsE]
 have hltla1 := (List.getElem?_eq_some_iff.1 hla1).1
 have hs := And.intro (ptr_of hla1) hs
 refine rg [1, 2] hs ?_
 refine rg [3] hs ?_
 apply awp_ret; simp +decide only [go_sem, Nat.reduceAdd, ptr_of hla1]
 subst h
 first | refine fin_q0 hcalm rfl hO.pre ev ⟨?_, rfl⟩ | refine fin_q hcalm rfl hO.pre ev ⟨?_, rfl⟩
 first | rfl | (simp +decide only [go_sem, Nat.reduceAdd, ptr_of hla1]; done) | (simp +decide only [go_sem, Nat.reduceAdd, Vl.cs, Ty.cs, ptr_of hla1]; done)
theorem s_field_1_at' (w0 : World) (B : List (List AV)) (Rw : List RowA) (L : List LoopA) (a0 : Int × ByteArray × Int × Ty × List Vl) (la1 : Nat) (a1 : Int × ByteArray × Int × Ty × List Vl) (hla1 : B[la1]? = some (.val (.int .i64 a1.1) :: (.val (.string a1.2.1) :: (.val (.int .i64 a1.2.2.1) :: ((a1.2.2.2.1.cs) ++ ([.list (a1.2.2.2.2.map avV) .none])))))) :
  ACalls Tryz.prog w0 180 [.agg (.val (.int .i64 a0.1) :: (.val (.string a0.2.1) :: (.val (.int .i64 a0.2.2.1) :: ((a0.2.2.2.1.cs) ++ ([.list (a0.2.2.2.2.map avV) .none]))))), .box la1 0] ⟨B, Rw, L⟩ fun x st => x = .val (.bool (s_field_1_F a0 a1)) ∧ st = ⟨B, Rw, L⟩ := s_field_1_at w0 B Rw L a0 la1 a1 hla1 _ rfl
def s_field_F (n : Nat) (a0 : Ty) (a1 : Int) : Option Int :=
 (idx a0.fields a1).bind fun x3 =>
 if x3.2.1.size ≤ maxLen then
  if !(nameB x3.2.1) then
   some (12)
  else
   if !(decide (1 ≤ x3.1) && decide (x3.1 ≤ 9999)) then
    some (2)
   else
    if 0 ≤ 0 ∧ 0 ≤ a1 ∧ a1 ≤ (a0.fields.length : Int) then
     (sl_ContainsFunc_TypeField_F n (a0.fields.take a1.toNat) (fun (x0 : Int × ByteArray × Int × Ty × List Vl) => some (s_field_1_F x0 x3))).bind fun y14 =>
     if y14 then
      some (7)
     else
      if (!(decide (1 ≤ x3.2.2.1) && decide (x3.2.2.1 ≤ 3))) || ((decide (a0.kind = 10)) && (!(decide (x3.2.2.1 = 1)))) then
       some (11)
      else
       if (decide (x3.2.2.1 = 3)) && (decide (((x3.2.2.2.2.length : Int)) = 0)) then
        some (4)
       else
        if (decide (1 < ((x3.2.2.2.2.length : Int)))) || ((!(decide (x3.2.2.1 = 3))) && (decide (0 < ((x3.2.2.2.2.length : Int))))) then
         some (3)
        else
         some (0)
    else none
 else none
theorem s_field_at (w0 : World) (n : Nat) (B : List (List AV)) (Rw : List RowA) (L : List LoopA) (a0 : Ty) (a1 : Int) (r : Int) (h : s_field_F n a0 a1 = some r) :
  ACalls Tryz.prog w0 143 [.agg (a0.cs), .val (.int .i64 a1)] ⟨B, Rw, L⟩ fun x st => x = .val (.int .i64 r) ∧ st = ⟨B, Rw, L⟩ := by
 rw [s_field_F] at h
 refine hd [.tmp 4] Tryz.func143 Tryz.ntmps143 fun M0 W0 hN hNR hNL hcalm hu hO hs => ?_
 simp only [argsE]
 refine rg [1, 2] hs ?_
 obtain ⟨x3, hx3, h⟩ := bind_some h
 obtain ⟨hx3a, hx3b, hx3c⟩ := idx_some hx3
 have hx3d := getD_map (f := avTF) hx3c
 have hs := And.intro hx3d hs
 refine rg [1, 2, 5] hs ?_
 apply awp_seq; intro K4 hK4
 apply awp_block
 obtain ⟨hg6, h⟩ := guard_some h
 refine rc 2 [1, 2, 5, 11] hs ?_; intro K5 hK5
 refine callK_p _ (IsName_at w0 _ _ _ x3.2.1 hg6) (hv hs) ?_
 refine ne hs hK5 ?_
 clear hK5
 refine cnd h hs (fun hs h => ?_) (fun hs h => ?_)
 ·
  refine rg [4] hs ?_
  exact rt h hs hcalm hO
 refine rc 2 [1, 2, 5, 16] hs ?_; intro K9 hK9
 refine callK_p _ (in_at w0 _ _ _ x3.1 1 9999) (hv hs) ?_
 refine ne hs hK9 ?_
 clear hK9
 refine cnd h hs (fun hs h => ?_) (fun hs h => ?_)
 ·
  refine rg [4] hs ?_
  exact rt h hs hcalm hO
 obtain ⟨hg13, h⟩ := guard_some h
 obtain ⟨y14, hy14, h⟩ := bind_some h
 refine rc 2 [2, 5, 21] hs ?_; intro K12 hK12
 refine callK_p _ (sl_ContainsFunc_TypeField_at w0 n _ _ _ (a0.fields.take a1.toNat) 180 [.box (B.length + 1) 0] (fun (x0 : Int × ByteArray × Int × Ty × List Vl) => some (s_field_1_F x0 x3)) (fun x0 r hx B' rows' hB' hR' => by cases hx; exact s_field_1_at' w0 _ _ _ x0 _ x3 (prefix_get hB' (ef hs))) _ hy14) (hv hs) ?_
 refine ne hs hK12 ?_
 clear hK12
 refine cnd h hs (fun hs h => ?_) (fun hs h => ?_)
 ·
  refine rg [4] hs ?_
  exact rt h hs hcalm hO
 refine rc 2 [5, 28] hs ?_; intro K17 hK17
 refine callK_p _ (in_at w0 _ _ _ x3.2.2.1 1 3) (hv hs) ?_
 refine ne hs hK17 ?_
 clear hK17
 refine cnd h hs (fun hs h => ?_) (fun hs h => ?_)
 ·
  refine rg [4] hs ?_
  exact rt h hs hcalm hO
 refine rg [5, 43] hs ?_
 refine cnd h hs (fun hs h => ?_) (fun hs h => ?_)
 ·
  refine rg [4] hs ?_
  exact rt h hs hcalm hO
 refine rg [53] hs ?_
 refine cnd h hs (fun hs h => ?_) (fun hs h => ?_)
 ·
  refine rg [4] hs ?_
  exact rt h hs hcalm hO
 refine sk [] hs hK4 ?_
 clear hK4
 refine rg [4] hs ?_
 exact rt h hs hcalm hO
def s_form_k4  (x5_k4 : Bool) : Int :=
 if x5_k4 then
  3
 else
  0
def s_form_F (a0 : Ty) (a1 : Lim) : Int :=
 if (!a1.bounds) && ((!(decide (a0.min = 0))) || (!(decide (a0.max = 0)))) then
  s_form_k4  true
 else
  if (!a1.scale) && (!(decide (a0.scale = 0))) then
   s_form_k4  true
  else
   if (!a1.text) && (decide (0 < ((a0.words.length : Int)))) then
    s_form_k4  true
   else
    if (!a1.list) && (decide (0 < ((a0.elem.length : Int)))) then
     s_form_k4  true
    else
     s_form_k4  ((!a1.fields) && (decide (0 < ((a0.fields.length : Int)))))
theorem s_form_at (w0 : World) (B : List (List AV)) (Rw : List RowA) (L : List LoopA) (a0 : Ty) (a1 : Lim) (r : Int) (h : s_form_F a0 a1 = r) :
  ACalls Tryz.prog w0 141 [.agg (a0.cs), .agg (.val (.string a1.name) :: (.val (.int .i64 a1.low) :: (.val (.int .i64 a1.high) :: (.val (.bool a1.bounds) :: (.val (.bool a1.scale) :: (.val (.bool a1.text) :: (.val (.bool a1.list) :: ([.val (.bool a1.fields)]))))))))] ⟨B, Rw, L⟩ fun x st => x = .val (.int .i64 r) ∧ st = ⟨B, Rw, L⟩ := by
 rw [s_form_F] at h
 refine hd [.tmp 4] Tryz.func141 Tryz.ntmps141 fun M0 W0 hN hNR hNL hcalm hu hO hs => ?_
 simp only [argsE]
 refine rg [2, 3] hs ?_
 apply awp_seq; intro K2 hK2
 apply awp_block
 refine awp_mid (fun e st => ∃ (x5_k4 : Bool), Ck e st B Rw L [(5, true, .val (.bool x5_k4))] [a0.cs, .val (.string a1.name) :: (.val (.int .i64 a1.low) :: (.val (.int .i64 a1.high) :: (.val (.bool a1.bounds) :: (.val (.bool a1.scale) :: (.val (.bool a1.text) :: (.val (.bool a1.list) :: ([.val (.bool a1.fields)])))))))] [] (s_form_k4  x5_k4 = r)) ?_ ?_
 ·
  intro K5 hK5
  refine rg [2, 3, 5] hs ?_
  refine cnd h hs (fun hs h => ?_) (fun hs h => ?_)
  ·
   refine sk [5] hs hK5 ?_
   exact ⟨true, ([]), Rw, ef hs, ef hs, hO, h⟩
  refine rg [2, 3, 5] hs ?_
  refine cnd h hs (fun hs h => ?_) (fun hs h => ?_)
  ·
   refine sk [5] hs hK5 ?_
   exact ⟨true, ([]), Rw, ef hs, ef hs, hO, h⟩
  refine rg [2, 3, 5] hs ?_
  refine cnd h hs (fun hs h => ?_) (fun hs h => ?_)
  ·
   refine sk [5] hs hK5 ?_
   exact ⟨true, ([]), Rw, ef hs, ef hs, hO, h⟩
  refine rg [2, 3, 5] hs ?_
  refine cnd h hs (fun hs h => ?_) (fun hs h => ?_)
  ·
   refine sk [5] hs hK5 ?_
   exact ⟨true, ([]), Rw, ef hs, ef hs, hO, h⟩
  refine rl [5] hs hK5 ?_
  exact ⟨((!a1.fields) && (decide (0 < ((a0.fields.length : Int))))), ([]), Rw, ef hs, ef hs, hO, h⟩
 ·
  clear h; rintro e st ⟨x5_k4, Xk4, Rk4, rfl, rfl, hO, h⟩
  rw [s_form_k4] at h
  refine td hN hNR hNL hcalm hO ?_
  refine cnd h hs (fun hs h => ?_) (fun hs h => ?_)
  ·
   have hb14 := hs.1
   refine rg [4] hs ?_
   apply awp_ret; simp +decide only [go_sem, Nat.reduceAdd, hb14]
   subst h
   first | refine fin_q0 hcalm rfl hO.pre ev ⟨?_, rfl⟩ | refine fin_q hcalm rfl hO.pre ev ⟨?_, rfl⟩
   first | rfl | (simp +decide only [go_sem, Nat.reduceAdd, hb14]; done) | (simp +decide only [go_sem, Nat.reduceAdd, Vl.cs, Ty.cs, hb14]; done)
  have hb14 := hs.1
  refine sk [] hs hK2 ?_
  clear hK2
  refine rg [4] hs ?_
  apply awp_ret; simp +decide only [go_sem, Nat.reduceAdd, hb14]
  subst h
  first | refine fin_q0 hcalm rfl hO.pre ev ⟨?_, rfl⟩ | refine fin_q hcalm rfl hO.pre ev ⟨?_, rfl⟩
  first | rfl | (simp +decide only [go_sem, Nat.reduceAdd, hb14]; done) | (simp +decide only [go_sem, Nat.reduceAdd, Vl.cs, Ty.cs, hb14]; done)
theorem s_form_at' (w0 : World) (B : List (List AV)) (Rw : List RowA) (L : List LoopA) (a0 : Ty) (a1 : Lim) :
  ACalls Tryz.prog w0 141 [.agg (a0.cs), .agg (.val (.string a1.name) :: (.val (.int .i64 a1.low) :: (.val (.int .i64 a1.high) :: (.val (.bool a1.bounds) :: (.val (.bool a1.scale) :: (.val (.bool a1.text) :: (.val (.bool a1.list) :: ([.val (.bool a1.fields)]))))))))] ⟨B, Rw, L⟩ fun x st => x = .val (.int .i64 (s_form_F a0 a1)) ∧ st = ⟨B, Rw, L⟩ := s_form_at w0 B Rw L a0 a1 _ rfl
def s_kinds_F  : ((List Lim)) :=
 [Lim.mk ((⟨#[]⟩ : ByteArray)) 0 0 false false false false false, Lim.mk ((⟨#[98, 111, 111, 108]⟩ : ByteArray)) 0 0 false false false false false, Lim.mk ((⟨#[105, 110, 116]⟩ : ByteArray)) ((-999999999999999)) 999999999999999 true false false false false, Lim.mk ((⟨#[100, 101, 99, 105, 109, 97, 108]⟩ : ByteArray)) ((-999999999999999)) 999999999999999 true true false false false, Lim.mk ((⟨#[116, 101, 120, 116]⟩ : ByteArray)) 0 1024 true false true false false, Lim.mk ((⟨#[98, 121, 116, 101, 115]⟩ : ByteArray)) 0 1024 true false false false false, Lim.mk ((⟨#[100, 97, 116, 101]⟩ : ByteArray)) ((-719162)) 2932896 true false false false false, Lim.mk ((⟨#[116, 105, 109, 101]⟩ : ByteArray)) ((-62135596800000)) 253402300799999 true false false false false, Lim.mk ((⟨#[108, 105, 115, 116]⟩ : ByteArray)) 0 256 true false false true false, Lim.mk ((⟨#[114, 101, 99, 111, 114, 100]⟩ : ByteArray)) 0 0 false false false false true, Lim.mk ((⟨#[118, 97, 114, 105, 97, 110, 116]⟩ : ByteArray)) 0 0 false false false false true]
theorem s_kinds_at (w0 : World) (B : List (List AV)) (Rw : List RowA) (L : List LoopA)  (r : (List Lim)) (h : s_kinds_F  = r) :
  ACalls Tryz.prog w0 75 [] ⟨B, Rw, L⟩ fun x st => x = .agg (r.flatMap fun x => (avLm x).cells) ∧ st = ⟨B, Rw, L⟩ := by
 rw [s_kinds_F] at h
 refine hd [.cell 0 102] Tryz.func75 Tryz.ntmps75 fun M0 W0 hN hNR hNL hcalm hu hO hs => ?_
 simp only [argsE]
 refine rg [0] hs ?_
 apply awp_seq; intro K2 hK2
 apply awp_region 1 [0]
 rw [evK_succ]; simp +decide only [go_sem, Nat.reduceAdd, fillA, fillOk, placeT, List.getElem?_cons_zero, List.getElem?_cons_succ, List.nil_append, List.cons_append]
 (repeat' apply And.intro) <;> first | refine hK2 _ _ ?_ | exact cl
 clear hK2
 apply awp_ret; simp +decide only [go_sem, Nat.reduceAdd]
 subst h
 first | refine fin_q0 hcalm rfl hO.pre ev ⟨?_, rfl⟩ | refine fin_q hcalm rfl hO.pre ev ⟨?_, rfl⟩
 first | rfl | (simp +decide only [go_sem, Nat.reduceAdd]; done) | (simp +decide only [go_sem, Nat.reduceAdd, Vl.cs, Ty.cs]; done)
theorem s_kinds_at' (w0 : World) (B : List (List AV)) (Rw : List RowA) (L : List LoopA)  :
  ACalls Tryz.prog w0 75 [] ⟨B, Rw, L⟩ fun x st => x = .agg ((s_kinds_F ).flatMap fun x => (avLm x).cells) ∧ st = ⟨B, Rw, L⟩ := s_kinds_at w0 B Rw L  _ rfl
def v_Text_F (a0 : ByteArray) : Vl :=
 Vl.mk 4 0 0 a0 ([]) ([])
theorem v_Text_at (w0 : World) (B : List (List AV)) (Rw : List RowA) (L : List LoopA) (a0 : ByteArray) (r : Vl) (h : v_Text_F a0 = r) :
  ACalls Tryz.prog w0 105 [.val (.string a0)] ⟨B, Rw, L⟩ fun x st => x = .agg (r.cs) ∧ st = ⟨B, Rw, L⟩ := by
 rw [v_Text_F] at h
 refine hd [.cell 2 34] Tryz.func105 Tryz.ntmps105 fun M0 W0 hN hNR hNL hcalm hu hO hs => ?_
 simp only [argsE]
 refine rg [0, 2] hs ?_
 apply awp_seq; intro K2 hK2
 apply awp_region 1 [2]
 rw [evK_succ]; simp +decide only [go_sem, Nat.reduceAdd, fillA, fillOk, placeT]
 (repeat' apply And.intro) <;> first | refine hK2 _ _ ?_ | exact cl
 clear hK2
 apply awp_ret; simp +decide only [go_sem, Nat.reduceAdd]
 subst h
 first | refine fin_q0 hcalm rfl hO.pre ev ⟨?_, rfl⟩ | refine fin_q hcalm rfl hO.pre ev ⟨?_, rfl⟩
 first | rfl | (simp +decide only [go_sem, Nat.reduceAdd]; done) | (simp +decide only [go_sem, Nat.reduceAdd, Vl.cs, Ty.cs]; done)
theorem v_Text_at' (w0 : World) (B : List (List AV)) (Rw : List RowA) (L : List LoopA) (a0 : ByteArray) :
  ACalls Tryz.prog w0 105 [.val (.string a0)] ⟨B, Rw, L⟩ fun x st => x = .agg ((v_Text_F a0).cs) ∧ st = ⟨B, Rw, L⟩ := v_Text_at w0 B Rw L a0 _ rfl
def s_words_k10 (n : Nat)  : Option Int :=
 some (0)
def s_words_l13 (n : Nat) (a0 : Ty) : Nat → Int → Option Int
 | 0, _ => none
 | m + 1, x23_l13 =>
  if decide (x23_l13 < ((a0.words.length : Int))) then
   (idx a0.words x23_l13).bind fun x19 =>
   (v_Check_F n (v_Text_F x19)).bind fun y22 =>
   if !(decide (y22 = 0)) then
    some (y22)
   else
    if decide (0 < x23_l13) then
     if I64 (x23_l13 - 1) then
      (idx a0.words (x23_l13 - 1)).bind fun x30 =>
      if sEq x19 x30 then
       some (7)
      else
       if I64 (x23_l13 - 1) then
        if sLt x19 x30 then
         some (24)
        else
         if I64 (x23_l13 + 1) then
          (s_words_l13 n a0 m) (x23_l13 + 1)
         else none
       else none
     else none
    else
     if I64 (x23_l13 + 1) then
      (s_words_l13 n a0 m) (x23_l13 + 1)
     else none
  else
   s_words_k10 n 
def s_words_F (n : Nat) (a0 : Ty) : Option Int :=
 if (!(decide (a0.min = 0))) || (!(decide (a0.max = 0))) then
  some (3)
 else
  if decide (64 < ((a0.words.length : Int))) then
   some (9)
  else
   s_words_l13 n a0 n 0
theorem s_words_at (w0 : World) (hT : Lib.Utf8Tabs 0 1 w0) (n : Nat) (B : List (List AV)) (Rw : List RowA) (L : List LoopA) (a0 : Ty) (r : Int) (h : s_words_F n a0 = some r) :
  ACalls Tryz.prog w0 142 [.agg (a0.cs)] ⟨B, Rw, L⟩ fun x st => x = .val (.int .i64 r) ∧ st = ⟨B, Rw, L⟩ := by
 rw [s_words_F] at h
 refine hd [.tmp 2] Tryz.func142 Tryz.ntmps142 fun M0 W0 hN hNR hNL hcalm hu hO hs => ?_
 simp only [argsE]
 refine rg [1] hs ?_
 apply awp_seq; intro K2 hK2
 apply awp_block
 refine rg [1, 6] hs ?_
 refine cnd h hs (fun hs h => ?_) (fun hs h => ?_)
 ·
  refine rg [2] hs ?_
  exact rt h hs hcalm hO
 refine rg [1, 15] hs ?_
 refine cnd h hs (fun hs h => ?_) (fun hs h => ?_)
 ·
  refine rg [2] hs ?_
  exact rt h hs hcalm hO
 refine sk [1] hs hK2 ?_
 clear hK2
 refine awp_mid (fun e st => Ck e st B Rw L [] [a0.cs] [] (s_words_k10 n  = some r)) ?_ ?_
 ·
  intro K11 hK11
  refine rg [1, 21, 22, 23] hs ?_
  apply awp_block
  refine awp_loop (fun m e st => ∃ (x23_l13 : Int), Ck e st B Rw L [(1, true, .box B.length 0), (21, true, .list (a0.words.map avS) .none), (22, true, .val (.int .i64 ((a0.words.length : Int)))), (23, true, .val (.int .i64 x23_l13))] [a0.cs] [] (s_words_l13 n a0 m x23_l13 = some r)) n ⟨0, ([]), Rw, ef hs, ef hs, hO, h⟩ ?_
  rintro ml13 e st ⟨x23_l13, Xl13, Rl13, rfl, rfl, hO, h⟩ Ul13 Vl13
  cases ml13 with
  | zero => cases h
  | succ ml13 =>
  rw [s_words_l13] at h
  refine td hN hNR hNL hcalm hO ?_
  refine rg [1, 21, 22, 23, 24] hs ?_
  apply awp_seq; intro K15 hK15
  refine cnd h hs (fun hs h => ?_) (fun hs h => ?_)
  rotate_left
  ·
   refine sx [] hs hK11 ?_
   exact ⟨([]), Rl13, ef hs, ef hs, hO, h⟩
  refine sk [1, 21, 22, 23] hs hK15 ?_
  clear hK15
  apply awp_seq; intro K17 hK17
  apply awp_block
  obtain ⟨x19, hx19, h⟩ := bind_some h
  obtain ⟨hx19a, hx19b, hx19c⟩ := idx_some hx19
  have hx19d := getD_map (f := avS) hx19c
  have hs := And.intro hx19d hs
  refine rg [1, 3, 4, 21, 22, 23] hs ?_
  apply awp_seq; intro K20 hK20
  obtain ⟨y22, hy22, h⟩ := bind_some h
  refine rc 3 [1, 3, 4, 5, 21, 22, 23] hs ?_; intro K21 hK21
  refine callK_p _ (v_Text_at' w0 _ _ _ x19) (hv hs) ?_
  refine nc hs ?_
  refine callK_p _ (v_Check_at w0 hT n _ _ _ (v_Text_F x19) _ hy22) (hv hs) ?_
  refine ne hs hK21 ?_
  clear hK21
  refine rg [1, 3, 4, 5, 21, 22, 23, 32] hs ?_
  refine cnd h hs (fun hs h => ?_) (fun hs h => ?_)
  ·
   refine rg [2] hs ?_
   exact rt h hs hcalm hO
  refine sk [1, 3, 4, 21, 22, 23] hs hK20 ?_
  clear hK20
  apply awp_seq; intro K26 hK26
  apply awp_seq; intro K27 hK27
  rcases Bool.eq_false_or_eq_true (decide (0 < x23_l13)) with hf28 | hf28
  ·
   replace h := ite_tt h hf28
   obtain ⟨hg29, h⟩ := guard_some h
   obtain ⟨x30, hx30a, hx30b, hx30d, h⟩ := ix avS h
   have hs := And.intro hf28 hs
   have hs := And.intro hx30d hs
   refine rl [1, 3, 4, 21, 22, 23, 45] hs hK27 ?_
   clear hK27
   refine cnd h hs (fun hs h => ?_) (fun hs h => ?_)
   ·
    refine rg [2] hs ?_
    exact rt h hs hcalm hO
   refine sk [1, 3, 4, 21, 22, 23] hs hK26 ?_
   clear hK26
   obtain ⟨hg34, h⟩ := guard_some h
   refine rg [1, 21, 22, 23, 57] hs ?_
   refine cnd h hs (fun hs h => ?_) (fun hs h => ?_)
   ·
    refine rg [2] hs ?_
    exact rt h hs hcalm hO
   refine sk [1, 21, 22, 23] hs hK17 ?_
   clear hK17
   obtain ⟨hg37, h⟩ := guard_some h
   refine rl [1, 21, 22, 23] hs (fun e s => Vl13 ml13 e s (Nat.lt_succ_self _)) ?_
   exact ⟨(x23_l13 + 1), ([]), Rl13, ef hs, ef hs, hO, h⟩
  ·
   replace h := ite_ff h hf28
   have hs := And.intro hf28 hs
   refine rl [1, 3, 4, 21, 22, 23, 45] hs hK27 ?_
   clear hK27
   refine awp_cond false ev (ef hs) (fun hb38 => by cases hb38) (fun hb38 => ?_)
   refine sk [1, 3, 4, 21, 22, 23] hs hK26 ?_
   clear hK26
   refine rg [1, 21, 22, 23, 57] hs ?_
   refine awp_cond false ev (ef hs) (fun hb40 => by cases hb40) (fun hb40 => ?_)
   refine sk [1, 21, 22, 23] hs hK17 ?_
   clear hK17
   obtain ⟨hg41, h⟩ := guard_some h
   refine rl [1, 21, 22, 23] hs (fun e s => Vl13 ml13 e s (Nat.lt_succ_self _)) ?_
   exact ⟨(x23_l13 + 1), ([]), Rl13, ef hs, ef hs, hO, h⟩
 ·
  clear h; rintro e st ⟨Xk10, Rk10, rfl, rfl, hO, h⟩
  rw [s_words_k10] at h
  refine td hN hNR hNL hcalm hO ?_
  refine rg [2] hs ?_
  exact rt h hs hcalm hO
def s_own_k45 (n : Nat)  : Option Int :=
 some (0)
def s_own_l48 (n : Nat) (a0 : Ty) : Nat → Int → Option Int
 | 0, _ => none
 | m + 1, x106_l48 =>
  if decide (x106_l48 < ((a0.fields.length : Int))) then
   (s_field_F n a0 x106_l48).bind fun y55 =>
   if !(decide (y55 = 0)) then
    some (y55)
   else
    if I64 (x106_l48 + 1) then
     (s_own_l48 n a0 m) (x106_l48 + 1)
    else none
  else
   s_own_k45 n 
def s_own_k32 (n : Nat) (a0 : Ty) (x69_k32 : Bool) : Option Int :=
 if x69_k32 then
  some (4)
 else
  if (decide (a0.kind = 8)) && (decide (1 < ((a0.elem.length : Int)))) then
   some (3)
  else
   if decide (64 < ((a0.fields.length : Int))) then
    some (9)
   else
    s_own_l48 n a0 n 0
def s_own_k14 (n : Nat) (a0 : Ty) : Option Int :=
 if (decide (a0.kind = 8)) && (decide (((a0.elem.length : Int)) = 0)) then
  s_own_k32 n a0 true
 else
  s_own_k32 n a0 ((decide (a0.kind = 10)) && (decide (((a0.fields.length : Int)) = 0)))
def s_own_k24 (n : Nat) (a0 : Ty) (x37_k24 : Bool) : Option Int :=
 if x37_k24 then
  some (2)
 else
  s_own_k14 n a0 
def s_own_F (n : Nat) (a0 : Ty) : Option Int :=
 if !(decide (1 ≤ a0.kind) && decide (a0.kind ≤ 10)) then
  some (11)
 else
  (idx (s_kinds_F ) a0.kind).bind fun x7 =>
  if !(decide ((s_form_F a0 x7) = 0)) then
   some (s_form_F a0 x7)
  else
   if (decide (a0.kind = 4)) && (decide (0 < ((a0.words.length : Int)))) then
    (s_words_F n a0).bind fun y19 =>
    if !(decide (y19 = 0)) then
     some (y19)
    else
     s_own_k14 n a0 
   else
    if x7.bounds && (((decide (a0.max < a0.min)) || (decide (a0.min < x7.low))) || (decide (x7.high < a0.max))) then
     s_own_k24 n a0 true
    else
     s_own_k24 n a0 (x7.scale && (!(decide (0 ≤ a0.scale) && decide (a0.scale ≤ 12))))
theorem s_own_at (w0 : World) (hT : Lib.Utf8Tabs 0 1 w0) (n : Nat) (B : List (List AV)) (Rw : List RowA) (L : List LoopA) (a0 : Ty) (r : Int) (h : s_own_F n a0 = some r) :
  ACalls Tryz.prog w0 97 [.agg (a0.cs)] ⟨B, Rw, L⟩ fun x st => x = .val (.int .i64 r) ∧ st = ⟨B, Rw, L⟩ := by
 rw [s_own_F] at h
 refine hd [.tmp 2] Tryz.func97 Tryz.ntmps97 fun M0 W0 hN hNR hNL hcalm hu hO hs => ?_
 simp only [argsE]
 refine rg [1] hs ?_
 apply awp_seq; intro K2 hK2
 refine rc 2 [1, 11] hs ?_; intro K3 hK3
 refine callK_p _ (in_at w0 _ _ _ a0.kind 1 10) (hv hs) ?_
 refine ne hs hK3 ?_
 clear hK3
 refine cnd h hs (fun hs h => ?_) (fun hs h => ?_)
 ·
  have hb4 := hs.1
  refine rg [2] hs ?_
  exact rt h hs hcalm hO
 have hb4 := hs.1
 refine sk [1] hs hK2 ?_
 clear hK2
 apply awp_seq; intro K6 hK6
 obtain ⟨x7, hx7, h⟩ := bind_some h
 obtain ⟨hx7a, hx7b, hx7c⟩ := idx_some hx7
 have hx7d := flatMap_idx8 (f := fun x => (avLm x).cells) 8 (fun _ => rfl) hx7c
 have hx7n : (s_kinds_F ).length = 11 := rfl
 first | rw [hx7n] at hx7b | simp only [List.length_cons, List.length_nil, Nat.reduceAdd, Nat.zero_add] at hx7b
 simp only [avI_eq, avB_eq, avS_eq, avV_eq, avT_eq, avF_eq, avTF_eq, avPt_eq, avL_eq, avSch_eq, avItm_eq, avLm_eq, ev_AV_cells_agg] at hx7d
 apply awp_any mix [4, 5] [1, 3] (by kernel_rfl) (fun s => ∃ (X : List (List AV)) (rows : List RowA), s = ⟨B ++ ([a0.cs] ++ X), rows, L⟩) 3 (B.length + 1)
 ·
  simp +decide only [go_sem, Nat.reduceAdd]
 ·
  rintro s ⟨X, rows, rfl⟩
  refine ⟨2, ?_⟩
  rw [evK_succ]; simp +decide only [go_sem, Nat.reduceAdd, skipE, hb4, hx7d, Nat.mul_one]
  (repeat' apply And.intro) <;> first | refine callK_p _ (s_kinds_at' w0 _ _ _ ) (by first | rfl | (simp +decide only [go_sem, Nat.reduceAdd, hb4, hx7d, Nat.mul_one]; done) | (simp +decide only [go_sem, Nat.reduceAdd, Vl.cs, Ty.cs, hb4, hx7d, Nat.mul_one]; done)) ?_ | exact cl
  rw [evK_succ]; simp +decide only [go_sem, Nat.reduceAdd, hb4, hx7d, Nat.mul_one]
  (repeat' apply And.intro) <;> first | rfl | exact cl
 ·
  refine Good.mk [4] (by kernel_rfl) ⟨[], _, by first | rfl | simp only [List.append_nil, List.nil_append]⟩ ?_ ?_
  ·
   intro h; exact absurd h (by decide)
  ·
   intro i hi; simp only [List.mem_cons, List.not_mem_nil, or_false] at hi
   subst hi
   ·
    apply good_step rfl rfl ev
    ·
     simp +decide only [go_sem, Nat.reduceAdd, StepOk, hb4, hx7d, Nat.mul_one]
     (repeat' apply And.intro) <;> first | rfl | exact cl
    ·
     simp +decide only [go_sem, Nat.reduceAdd, hb4, hx7d, Nat.mul_one]
     refine Good.mk [5] (by kernel_rfl) ⟨_, _, by first | rfl | simp only [List.append_nil, List.nil_append]⟩ ?_ ?_
     ·
      intro h; exact absurd h (by decide)
     ·
      intro i hi; simp only [List.mem_cons, List.not_mem_nil, or_false] at hi
      subst hi
      ·
       apply good_step rfl rfl ev
       ·
        simp +decide only [go_sem, Nat.reduceAdd, StepOk, hb4, hx7d, Nat.mul_one]
        (repeat' apply And.intro) <;> first | rfl | exact cl
       ·
        simp +decide only [go_sem, Nat.reduceAdd, hb4, hx7d, Nat.mul_one]
        refine Good.mk [] (by kernel_rfl) ⟨_, _, by first | rfl | simp only [List.append_nil, List.nil_append]⟩ ?_ ?_
        ·
         intro _; apply conv_keep [1, 3]; first | (simp +decide only [go_sem, Nat.reduceAdd, hb4, hx7d, Nat.mul_one]; done) | (simp +decide only [go_sem, Nat.reduceAdd, hb4, hx7d, Nat.mul_one]; rfl)
        ·
         intro i hi; cases hi
 simp +decide only [go_sem, Nat.reduceAdd, hb4, hx7d, Nat.mul_one]
 (repeat' apply And.intro) <;> first | refine hK6 _ _ ?_ | exact cl
 clear hK6
 apply awp_seq; intro K8 hK8
 have hs := And.intro hx7d hs
 refine rc 2 [1, 3, 4] hs ?_; intro K9 hK9
 refine callK_p _ (s_form_at' w0 _ _ _ a0 x7) (hv hs) ?_
 refine ne hs hK9 ?_
 clear hK9
 refine rg [1, 3, 4, 20] hs ?_
 refine cnd h hs (fun hs h => ?_) (fun hs h => ?_)
 ·
  refine rg [2] hs ?_
  exact rt h hs hcalm hO
 refine sk [1, 3] hs hK8 ?_
 clear hK8
 refine awp_mid (fun e st => Ck e st B Rw L [(1, true, .box B.length 0)] [a0.cs, .val (.string x7.name) :: (.val (.int .i64 x7.low) :: (.val (.int .i64 x7.high) :: (.val (.bool x7.bounds) :: (.val (.bool x7.scale) :: (.val (.bool x7.text) :: (.val (.bool x7.list) :: ([.val (.bool x7.fields)])))))))] [] (s_own_k14 n a0  = some r)) ?_ ?_
 ·
  intro K15 hK15
  apply awp_block
  refine rg [1, 3, 22] hs ?_
  refine cnd h hs (fun hs h => ?_) (fun hs h => ?_)
  ·
   obtain ⟨y19, hy19, h⟩ := bind_some h
   refine rc 2 [1, 5] hs ?_; intro K18 hK18
   refine callK_p _ (s_words_at w0 hT n _ _ _ a0 _ hy19) (hv hs) ?_
   refine ne hs hK18 ?_
   clear hK18
   refine rg [1, 5, 35] hs ?_
   refine cnd h hs (fun hs h => ?_) (fun hs h => ?_)
   ·
    refine rg [2] hs ?_
    exact rt h hs hcalm hO
   refine sk [1] hs hK15 ?_
   exact ⟨([]), Rw, ef hs, ef hs, hO, h⟩
  refine awp_mid (fun e st => ∃ (x37_k24 : Bool), Ck e st B Rw L [(1, true, .box B.length 0), (37, true, .val (.bool x37_k24))] [a0.cs, .val (.string x7.name) :: (.val (.int .i64 x7.low) :: (.val (.int .i64 x7.high) :: (.val (.bool x7.bounds) :: (.val (.bool x7.scale) :: (.val (.bool x7.text) :: (.val (.bool x7.list) :: ([.val (.bool x7.fields)])))))))] [] (s_own_k24 n a0 x37_k24 = some r)) ?_ ?_
  ·
   intro K25 hK25
   refine rg [1, 3, 37] hs ?_
   refine cnd h hs (fun hs h => ?_) (fun hs h => ?_)
   ·
    refine sk [1, 37] hs hK25 ?_
    exact ⟨true, ([]), Rw, ef hs, ef hs, hO, h⟩
   refine rk 2 [1, 37] hs ?_
   refine callK_p_if _ (fun _ => in_at w0 _ _ _ a0.scale 0 12) (hv hs) ?_
   refine ne hs hK25 ?_
   exact ⟨(x7.scale && (!(decide (0 ≤ a0.scale) && decide (a0.scale ≤ 12)))), ([]), Rw, ef hs, ef hs, hO, h⟩
  ·
   clear h; rintro e st ⟨x37_k24, Xk24, Rk24, rfl, rfl, hO, h⟩
   rw [s_own_k24] at h
   refine td hN hNR hNL hcalm hO ?_
   refine cnd h hs (fun hs h => ?_) (fun hs h => ?_)
   ·
    refine rg [2] hs ?_
    exact rt h hs hcalm hO
   refine sk [1] hs hK15 ?_
   exact ⟨([]), Rk24, ef hs, ef hs, hO, h⟩
 ·
  clear h; rintro e st ⟨Xk14, Rk14, rfl, rfl, hO, h⟩
  rw [s_own_k14] at h
  refine td hN hNR hNL hcalm hO ?_
  apply awp_seq; intro K30 hK30
  apply awp_block
  refine awp_mid (fun e st => ∃ (x69_k32 : Bool), Ck e st B Rw L [(1, true, .box B.length 0), (69, true, .val (.bool x69_k32))] [a0.cs, .val (.string x7.name) :: (.val (.int .i64 x7.low) :: (.val (.int .i64 x7.high) :: (.val (.bool x7.bounds) :: (.val (.bool x7.scale) :: (.val (.bool x7.text) :: (.val (.bool x7.list) :: ([.val (.bool x7.fields)])))))))] [] (s_own_k32 n a0 x69_k32 = some r)) ?_ ?_
  ·
   intro K33 hK33
   refine rg [1, 69] hs ?_
   refine cnd h hs (fun hs h => ?_) (fun hs h => ?_)
   ·
    refine sk [1, 69] hs hK33 ?_
    exact ⟨true, ([]), Rk14, ef hs, ef hs, hO, h⟩
   refine rl [1, 69] hs hK33 ?_
   exact ⟨((decide (a0.kind = 10)) && (decide (((a0.fields.length : Int)) = 0))), ([]), Rk14, ef hs, ef hs, hO, h⟩
  ·
   clear h; rintro e st ⟨x69_k32, Xk32, Rk32, rfl, rfl, hO, h⟩
   rw [s_own_k32] at h
   refine td hN hNR hNL hcalm hO ?_
   refine cnd h hs (fun hs h => ?_) (fun hs h => ?_)
   ·
    refine rg [2] hs ?_
    exact rt h hs hcalm hO
   refine rg [1, 88] hs ?_
   refine cnd h hs (fun hs h => ?_) (fun hs h => ?_)
   ·
    refine rg [2] hs ?_
    exact rt h hs hcalm hO
   refine rg [1, 98] hs ?_
   refine cnd h hs (fun hs h => ?_) (fun hs h => ?_)
   ·
    refine rg [2] hs ?_
    exact rt h hs hcalm hO
   refine sk [1] hs hK30 ?_
   clear hK30
   refine awp_mid (fun e st => Ck e st B Rw L [] [a0.cs, .val (.string x7.name) :: (.val (.int .i64 x7.low) :: (.val (.int .i64 x7.high) :: (.val (.bool x7.bounds) :: (.val (.bool x7.scale) :: (.val (.bool x7.text) :: (.val (.bool x7.list) :: ([.val (.bool x7.fields)])))))))] [] (s_own_k45 n  = some r)) ?_ ?_
   ·
    intro K46 hK46
    refine rg [1, 105, 106] hs ?_
    apply awp_block
    refine awp_loop (fun m e st => ∃ (x106_l48 : Int), Ck e st B Rw L [(1, true, .box B.length 0), (105, true, .val (.int .i64 ((a0.fields.length : Int)))), (106, true, .val (.int .i64 x106_l48))] [a0.cs, .val (.string x7.name) :: (.val (.int .i64 x7.low) :: (.val (.int .i64 x7.high) :: (.val (.bool x7.bounds) :: (.val (.bool x7.scale) :: (.val (.bool x7.text) :: (.val (.bool x7.list) :: ([.val (.bool x7.fields)])))))))] [] (s_own_l48 n a0 m x106_l48 = some r)) n ⟨0, ([]), Rk32, ef hs, ef hs, hO, h⟩ ?_
    rintro ml48 e st ⟨x106_l48, Xl48, Rl48, rfl, rfl, hO, h⟩ Ul48 Vl48
    cases ml48 with
    | zero => cases h
    | succ ml48 =>
    rw [s_own_l48] at h
    refine td hN hNR hNL hcalm hO ?_
    refine rg [1, 105, 106, 107] hs ?_
    apply awp_seq; intro K50 hK50
    refine cnd h hs (fun hs h => ?_) (fun hs h => ?_)
    rotate_left
    ·
     refine sx [] hs hK46 ?_
     exact ⟨([]), Rl48, ef hs, ef hs, hO, h⟩
    refine sk [1, 105, 106] hs hK50 ?_
    clear hK50
    apply awp_seq; intro K52 hK52
    apply awp_block
    refine rg [1, 6, 105, 106] hs ?_
    obtain ⟨y55, hy55, h⟩ := bind_some h
    refine rc 2 [1, 7, 105, 106] hs ?_; intro K54 hK54
    refine callK_p _ (s_field_at w0 n _ _ _ a0 x106_l48 _ hy55) (hv hs) ?_
    refine ne hs hK54 ?_
    clear hK54
    refine rg [1, 7, 105, 106, 113] hs ?_
    refine cnd h hs (fun hs h => ?_) (fun hs h => ?_)
    ·
     refine rg [2] hs ?_
     exact rt h hs hcalm hO
    refine sk [1, 105, 106] hs hK52 ?_
    clear hK52
    obtain ⟨hg59, h⟩ := guard_some h
    refine rl [1, 105, 106] hs (fun e s => Vl48 ml48 e s (Nat.lt_succ_self _)) ?_
    exact ⟨(x106_l48 + 1), ([]), Rl48, ef hs, ef hs, hO, h⟩
   ·
    clear h; rintro e st ⟨Xk45, Rk45, rfl, rfl, hO, h⟩
    rw [s_own_k45] at h
    refine td hN hNR hNL hcalm hO ?_
    refine rg [2] hs ?_
    exact rt h hs hcalm hO
def s_parts_k19 (n : Nat)  (x3_k19 : List Ty) : Option ((List Ty)) :=
 some (x3_k19)
def s_parts_k3 (n : Nat)  : Option ((List Ty)) :=
 some ([])
def s_parts_l22 (n : Nat) (a0 : Ty) : Nat → (List Ty) → Int → Option ((List Ty))
 | 0, _, _ => none
 | m + 1, x3_l22, x22_l22 =>
  if decide (x22_l22 < ((a0.fields.length : Int))) then
   (idx a0.fields x22_l22).bind fun x28 =>
   if (x3_l22.length + 1) * 104 ≤ 140737488355328 ∧ x3_l22.length + 1 ≤ 4611686018427387904 then
    if I64 (x22_l22 + 1) then
     (s_parts_l22 n a0 m) (x3_l22 ++ ([x28.2.2.2.1])) (x22_l22 + 1)
    else none
   else none
  else
   s_parts_k19 n x3_l22
def s_parts_k10 (n : Nat) (a0 : Ty) (x12_k10 : Bool) : Option ((List Ty)) :=
 if x12_k10 then
  if 0 ≤ (a0.fields.length : Int) ∧ ((a0.fields.length : Int)) * 104 ≤ 140737488355328 ∧ (a0.fields.length : Int) ≤ 4611686018427387904 then
   s_parts_l22 n a0 n ([]) 0
  else none
 else
  s_parts_k3 n 
def s_parts_F (n : Nat) (a0 : Ty) : Option ((List Ty)) :=
 if decide (a0.kind = 8) then
  some (a0.elem)
 else
  if decide (a0.kind = 9) then
   s_parts_k10 n a0 true
  else
   s_parts_k10 n a0 (decide (a0.kind = 10))
theorem s_parts_at (w0 : World) (n : Nat) (B : List (List AV)) (Rw : List RowA) (L : List LoopA) (a0 : Ty) (r : (List Ty)) (h : s_parts_F n a0 = some r) :
  ACalls Tryz.prog w0 77 [.agg (a0.cs)] ⟨B, Rw, L⟩ fun x st => x = .list (r.map avT) .none ∧ st = ⟨B, Rw, L⟩ := by
 rw [s_parts_F] at h
 refine hd [.tmp 2] Tryz.func77 Tryz.ntmps77 fun M0 W0 hN hNR hNL hcalm hu hO hs => ?_
 simp only [argsE]
 refine rg [1] hs ?_
 refine awp_mid (fun e st => Ck e st B Rw L [] [a0.cs] [] (s_parts_k3 n  = some r)) ?_ ?_
 ·
  intro K4 hK4
  refine rg [1, 7] hs ?_
  apply awp_block
  refine rg [1, 7, 8] hs ?_
  refine cnd h hs (fun hs h => ?_) (fun hs h => ?_)
  ·
   refine rg [2] hs ?_
   exact rt h hs hcalm hO
  refine awp_mid (fun e st => ∃ (x12_k10 : Bool), Ck e st B Rw L [(1, true, .box B.length 0), (12, true, .val (.bool x12_k10))] [a0.cs] [] (s_parts_k10 n a0 x12_k10 = some r)) ?_ ?_
  ·
   intro K11 hK11
   refine rg [1, 7, 12] hs ?_
   refine cnd h hs (fun hs h => ?_) (fun hs h => ?_)
   ·
    refine sk [1, 12] hs hK11 ?_
    exact ⟨true, ([]), Rw, ef hs, ef hs, hO, h⟩
   refine rl [1, 12] hs hK11 ?_
   exact ⟨(decide (a0.kind = 10)), ([]), Rw, ef hs, ef hs, hO, h⟩
  ·
   clear h; rintro e st ⟨x12_k10, Xk10, Rk10, rfl, rfl, hO, h⟩
   rw [s_parts_k10] at h
   refine td hN hNR hNL hcalm hO ?_
   refine cnd h hs (fun hs h => ?_) (fun hs h => ?_)
   ·
    obtain ⟨hg16, h⟩ := guard_some h
    have hO := hO.make 7 0
    refine rg [1, 3] hs ?_
    refine awp_mid (fun e st => ∃ (x3_k19 : List Ty) (ox3_k19 : Ev.Own), Ck e st B Rw L [(3, true, .list (x3_k19.map avT) ox3_k19)] [a0.cs] [(7, x3_k19.length, ox3_k19)] (s_parts_k19 n x3_k19 = some r)) ?_ ?_
    ·
     intro K20 hK20
     refine rg [3, 20, 21, 22] hs ?_
     apply awp_block
     refine awp_loop (fun m e st => ∃ (x3_l22 : List Ty) (x22_l22 : Int) (ox3_l22 : Ev.Own), Ck e st B Rw L [(3, true, .list (x3_l22.map avT) ox3_l22), (20, true, .list (a0.fields.map avTF) .none), (21, true, .val (.int .i64 ((a0.fields.length : Int)))), (22, true, .val (.int .i64 x22_l22))] [a0.cs] [(7, x3_l22.length, ox3_l22)] (s_parts_l22 n a0 m x3_l22 x22_l22 = some r)) n ⟨([]), 0, ((.row Rk10.length)), ([]), ((Rk10 ++ [.grow 0 7])), ef hs, ef hs, Owns.of_eq (hO) (by first | rfl | simp only [List.length_append, List.length_cons, List.length_nil, List.length_map, Nat.zero_add, Nat.add_zero]), h⟩ ?_
     rintro ml22 e st ⟨x3_l22, x22_l22, ox3_l22, Xl22, Rl22, rfl, rfl, hO, h⟩ Ul22 Vl22
     cases ml22 with
     | zero => cases h
     | succ ml22 =>
     rw [s_parts_l22] at h
     have hU := hO.unders
     simp only [List.mem_cons, List.not_mem_nil, or_false, forall_eq_or_imp, forall_eq] at hU
     refine td hN hNR hNL hcalm hO ?_
     refine rg [3, 20, 21, 22, 23] hs ?_
     apply awp_seq; intro K24 hK24
     refine cnd h hs (fun hs h => ?_) (fun hs h => ?_)
     rotate_left
     ·
      refine sx [3] hs hK20 ?_
      exact ⟨x3_l22, ox3_l22, ([]), Rl22, ef hs, ef hs, Owns.of_eq (hO) (by first | rfl | simp only [List.length_append, List.length_cons, List.length_nil, List.length_map, Nat.zero_add, Nat.add_zero]), h⟩
     refine sk [3, 20, 21, 22] hs hK24 ?_
     clear hK24
     apply awp_seq; intro K26 hK26
     apply awp_block
     obtain ⟨x28, hx28, h⟩ := bind_some h
     obtain ⟨hx28a, hx28b, hx28c⟩ := idx_some hx28
     have hx28d := getD_map (f := avTF) hx28c
     have hs := And.intro hx28d hs
     refine rg [3, 5, 20, 21, 22] hs ?_
     obtain ⟨hg29, h⟩ := guard_some h
     obtain ⟨o30, rows31, hO, hap32⟩ := hO.append (P := Tryz.prog) elT_23 (by rw [zeroT_26]; rfl) (by decide) 1 hg29.1 hg29.2
     replace hap32 := fun (ys : List AV) B L o2 => hap32 (x3_l22.map avT) ys B L o2 (by first | rfl | simp only [List.length_map, List.length_nil, List.length_append, List.length_cons, Nat.zero_add])
     replace hap32 := fun (y : AV) B L o2 => hap32 [y] B L o2 (by first | rfl | simp only [List.length_map, List.length_nil, List.length_cons]) ev
     try simp only [List.mem_singleton, List.mem_cons, List.not_mem_nil, or_false, forall_eq_or_imp, forall_eq, List.map_append, List.map_cons, List.map_nil, avI_eq, avB_eq, avS_eq, avV_eq, avT_eq, avF_eq, avTF_eq, avPt_eq, avL_eq, avSch_eq, avItm_eq, avLm_eq] at hap32
     have hs := And.intro hap32 hs
     refine rl [3, 20, 21, 22] hs hK26 ?_
     clear hK26
     obtain ⟨hg33, h⟩ := guard_some h
     refine rl [3, 20, 21, 22] hs (fun e s => Vl22 ml22 e s (Nat.lt_succ_self _)) ?_
     exact ⟨(x3_l22 ++ ([x28.2.2.2.1])), (x22_l22 + 1), o30, ([.val (.int .i64 x28.1) :: (.val (.string x28.2.1) :: (.val (.int .i64 x28.2.2.1) :: ((x28.2.2.2.1.cs) ++ ([.list (x28.2.2.2.2.map avV) .none]))))]), rows31, ef hs, ef hs, Owns.of_eq (hO) (by first | rfl | simp only [List.length_append, List.length_cons, List.length_nil, List.length_map, Nat.zero_add, Nat.add_zero]), h⟩
    ·
     clear h; rintro e st ⟨x3_k19, ox3_k19, Xk19, Rk19, rfl, rfl, hO, h⟩
     rw [s_parts_k19] at h
     have hU := hO.unders
     simp only [List.mem_cons, List.not_mem_nil, or_false, forall_eq_or_imp, forall_eq] at hU
     refine td hN hNR hNL hcalm hO ?_
     refine rg [2] hs ?_
     exact rt h hs hcalm hO
   refine sk [] hs hK4 ?_
   exact ⟨([]), Rk10, ef hs, ef hs, hO, h⟩
 ·
  clear h; rintro e st ⟨Xk3, Rk3, rfl, rfl, hO, h⟩
  rw [s_parts_k3] at h
  refine td hN hNR hNL hcalm hO ?_
  refine rg [2] hs ?_
  exact rt h hs hcalm hO
def s_check_k18 (rec : Ty → Int → Int → Option (Int × Int)) (n : Nat)  (pla2_k18 : Int) : Option (Int × Int) :=
 some ((0, pla2_k18))
def s_check_l22 (rec : Ty → Int → Int → Option (Int × Int)) (n : Nat) (a0 : Ty) (a1 : Int) (y21 : (List Ty)) : Nat → Int → Int → Option (Int × Int)
 | 0, _, _ => none
 | m + 1, x32_l22, pla2_l22 =>
  if decide (x32_l22 < ((y21.length : Int))) then
   (idx y21 x32_l22).bind fun x28 =>
   if I64 (a1 + 1) then
    (rec x28 (a1 + 1) pla2_l22).bind fun y32 =>
    if !(decide (y32.1 = 0)) then
     some ((y32.1, y32.2))
    else
     if decide (a0.kind = 9) then
      (idx a0.fields x32_l22).bind fun x38 =>
      if decide (x38.2.2.1 = 3) then
       (idx x38.2.2.2.2 0).bind fun x40 =>
       (s_accepts_F n x28 x40).bind fun y41 =>
       if !y41 then
        some ((18, y32.2))
       else
        if I64 (x32_l22 + 1) then
         (s_check_l22 rec n a0 a1 y21 m) (x32_l22 + 1) y32.2
        else none
      else
       if I64 (x32_l22 + 1) then
        (s_check_l22 rec n a0 a1 y21 m) (x32_l22 + 1) y32.2
       else none
     else
      if I64 (x32_l22 + 1) then
       (s_check_l22 rec n a0 a1 y21 m) (x32_l22 + 1) y32.2
      else none
   else none
  else
   s_check_k18 rec n pla2_l22
def s_check_B (rec : Ty → Int → Int → Option (Int × Int)) (n : Nat) (a0 : Ty) (a1 : Int) (a2 : Int) : Option (Int × Int) :=
 if decide (a2 = 0) then
  some ((9, a2))
 else
  if decide (8 < a1) then
   some ((23, a2))
  else
   if I64 (a2 - 1) then
    (s_own_F n a0).bind fun y13 =>
    if !(decide (y13 = 0)) then
     some ((y13, a2 - 1))
    else
     (s_parts_F n a0).bind fun y21 =>
     s_check_l22 rec n a0 a1 y21 n 0 (a2 - 1)
   else none
def s_check_F : Nat → Ty → Int → Int → Option (Int × Int)
 | 0, _, _, _ => none
 | n + 1, a0, a1, a2 => s_check_B (s_check_F n) n a0 a1 a2
def s_check_C (w0 : World) (F : Ty → Int → Int → Option (Int × Int)) : Prop := ∀ (B : List (List AV)) (Rw : List RowA) (L : List LoopA) (a0 : Ty) (a1 : Int) (la2 : Nat) (a2 : Int) (hla2 : B[la2]? = some ([.val (.int .i64 a2)])) (r : Int × Int), F a0 a1 a2 = some r → ACalls Tryz.prog w0 53 [.agg (a0.cs), .val (.int .i64 a1), .box la2 0] ⟨B, Rw, L⟩ fun x st => x = .val (.int .i64 r.1) ∧ st = ⟨(B.set la2 [.val (.int .i64 r.2)]), Rw, L⟩
theorem s_check_step (w0 : World) (hT : Lib.Utf8Tabs 0 1 w0) (rec : Ty → Int → Int → Option (Int × Int)) (ih : s_check_C w0 rec) (n : Nat) : s_check_C w0 (s_check_B rec n) := by
 intro B Rw L a0 a1 la2 a2 hla2 r h
 rw [s_check_B] at h
 refine hd [.tmp 6] Tryz.func53 Tryz.ntmps53 fun M0 W0 hN hNR hNL hcalm hu hO hs => ?_
 simp only [argsE]
 have hltla2 := (List.getElem?_eq_some_iff.1 hla2).1
 have hs := And.intro (ptr_of hla2) hs
 refine rg [1, 2, 3] hs ?_
 apply awp_seq; intro K2 hK2
 apply awp_block
 refine rg [1, 2, 3, 11] hs ?_
 refine cnd h hs (fun hs h => ?_) (fun hs h => ?_)
 ·
  have hb4 := hs.1
  refine rg [6] hs ?_
  exact rt h hs hcalm hO
 have hb4 := hs.1
 refine rg [1, 2, 3, 16] hs ?_
 refine cnd h hs (fun hs h => ?_) (fun hs h => ?_)
 ·
  have hb7 := hs.1
  refine rg [6] hs ?_
  exact rt h hs hcalm hO
 have hb7 := hs.1
 refine sk [1, 2, 3] hs hK2 ?_
 clear hK2
 obtain ⟨hg10, h⟩ := guard_some h
 refine rg [1, 2, 3] hs ?_
 apply awp_seq; intro K11 hK11
 obtain ⟨y13, hy13, h⟩ := bind_some h
 refine rc 2 [1, 2, 3, 7] hs ?_; intro K12 hK12
 refine callK_p _ (s_own_at w0 hT n _ _ _ a0 _ hy13) (hv hs) ?_
 refine ne hs hK12 ?_
 clear hK12
 refine rg [1, 2, 3, 7, 27] hs ?_
 refine cnd h hs (fun hs h => ?_) (fun hs h => ?_)
 ·
  have hb15 := hs.1
  refine rg [6] hs ?_
  apply awp_ret; simp +decide only [go_sem, Nat.reduceAdd, ptr_of hla2, hb4, hb7, hb15]
  have hgt := Option.some.inj h; subst hgt
  first | refine fin_q0 (calm_set hcalm ev) (by simp only [List.length_set]) hO.pre ev ⟨?_, rfl⟩ | refine fin_q (calm_set hcalm ev) (by simp only [List.length_set]) hO.pre ev ⟨?_, rfl⟩
  first | rfl | (simp +decide only [go_sem, Nat.reduceAdd, ptr_of hla2, hb4, hb7, hb15]; done) | (simp +decide only [go_sem, Nat.reduceAdd, Vl.cs, Ty.cs, ptr_of hla2, hb4, hb7, hb15]; done)
 have hb15 := hs.1
 refine sk [1, 2, 3] hs hK11 ?_
 clear hK11
 refine awp_mid (fun e st => ∃ (pla2_k18 : Int) (Xk18 : List (List AV)) (Rk18 : List RowA), e = [] ∧ st = ⟨(B.set la2 ([.val (.int .i64 pla2_k18)])) ++ ([a0.cs] ++ Xk18), Rk18, L⟩ ∧ Owns Rw Rk18 [] ∧ s_check_k18 rec n pla2_k18 = some r) ?_ ?_
 ·
  intro K19 hK19
  obtain ⟨y21, hy21, h⟩ := bind_some h
  refine rc 2 [1, 2, 3, 30, 31, 32] hs ?_; intro K20 hK20
  refine callK_p _ (s_parts_at w0 n _ _ _ a0 _ hy21) (hv hs) ?_
  refine ne hs hK20 ?_
  clear hK20
  apply awp_block
  refine awp_loop (fun m e st => ∃ (x32_l22 : Int) (pla2_l22 : Int) (Xl22 : List (List AV)) (Rl22 : List RowA), e = [(1, true, .val (.int .i64 a1)), (2, true, .box la2 0), (3, true, .box B.length 0), (30, true, .list (y21.map avT) .none), (31, true, .val (.int .i64 ((y21.length : Int)))), (32, true, .val (.int .i64 x32_l22))] ∧ st = ⟨(B.set la2 ([.val (.int .i64 pla2_l22)])) ++ ([a0.cs] ++ Xl22), Rl22, L⟩ ∧ Owns Rw Rl22 [] ∧ s_check_l22 rec n a0 a1 y21 m x32_l22 pla2_l22 = some r) n ⟨0, (a2 - 1), ([]), Rw, ef hs, ef hs, hO, h⟩ ?_
  rintro ml22 e st ⟨x32_l22, pla2_l22, Xl22, Rl22, rfl, rfl, hO, h⟩ Ul22 Vl22
  cases ml22 with
  | zero => cases h
  | succ ml22 =>
  rw [s_check_l22] at h
  refine awp_tidy hN hNR hNL (by simp only [List.length_set]) (calm_set hcalm ev) hO (by (simp +decide only [go_sem, Nat.reduceAdd]) <;> (try (repeat' apply And.intro)) <;> first | omega | assumption) (by (simp +decide only [go_sem, Nat.reduceAdd, calmE]) <;> (try (repeat' apply And.intro)) <;> first | omega | assumption) ?_
  refine rg [1, 2, 3, 30, 31, 32, 33] hs ?_
  apply awp_seq; intro K24 hK24
  refine cnd h hs (fun hs h => ?_) (fun hs h => ?_)
  rotate_left
  ·
   have hb25 := hs.1
   refine sx [] hs hK19 ?_
   exact ⟨pla2_l22, ([]), Rl22, ef hs, ef hs, hO, h⟩
  have hb25 := hs.1
  refine sk [1, 2, 3, 30, 31, 32] hs hK24 ?_
  clear hK24
  apply awp_seq; intro K26 hK26
  apply awp_block
  obtain ⟨x28, hx28, h⟩ := bind_some h
  obtain ⟨hx28a, hx28b, hx28c⟩ := idx_some hx28
  have hx28d := getD_map (f := avT) hx28c
  have hs := And.intro hx28d hs
  refine rg [1, 2, 3, 8, 9, 30, 31, 32] hs ?_
  apply awp_seq; intro K29 hK29
  obtain ⟨hg31, h⟩ := guard_some h
  obtain ⟨y32, hy32, h⟩ := bind_some h
  refine rc 2 [1, 2, 3, 8, 9, 10, 30, 31, 32] hs ?_; intro K30 hK30
  refine callK_pp _ (ih _ _ _ x28 (a1 + 1) la2 pla2_l22 (ef hs) _ hy32) (hv hs) ?_; rintro _ _ ⟨rfl, rfl⟩
  refine ne hs hK30 ?_
  clear hK30
  refine rg [1, 2, 3, 8, 9, 10, 30, 31, 32, 43] hs ?_
  refine cnd h hs (fun hs h => ?_) (fun hs h => ?_)
  ·
   have hb34 := hs.1
   refine rg [6] hs ?_
   apply awp_ret; simp +decide only [go_sem, Nat.reduceAdd, ptr_of hla2, hb4, hb7, hb15, hb25, hx28d, hb34]
   have hgt := Option.some.inj h; subst hgt
   first | refine fin_q0 (calm_set hcalm ev) (by simp only [List.length_set]) hO.pre ev ⟨?_, rfl⟩ | refine fin_q (calm_set hcalm ev) (by simp only [List.length_set]) hO.pre ev ⟨?_, rfl⟩
   first | rfl | (simp +decide only [go_sem, Nat.reduceAdd, ptr_of hla2, hb4, hb7, hb15, hb25, hx28d, hb34]; done) | (simp +decide only [go_sem, Nat.reduceAdd, Vl.cs, Ty.cs, ptr_of hla2, hb4, hb7, hb15, hb25, hx28d, hb34]; done)
  have hb34 := hs.1
  refine sk [1, 2, 3, 8, 9, 30, 31, 32] hs hK29 ?_
  clear hK29
  apply awp_seq; intro K36 hK36
  rcases Bool.eq_false_or_eq_true (decide (a0.kind = 9)) with hf37 | hf37
  ·
   replace h := ite_tt h hf37
   obtain ⟨x38, hx38a, hx38b, hx38d, h⟩ := ix avTF h
   rcases Bool.eq_false_or_eq_true (decide (x38.2.2.1 = 3)) with hf39 | hf39
   ·
    replace h := ite_tt h hf39
    obtain ⟨x40, hx40a, hx40b, hx40d, h⟩ := ix avV h
    have hx40e : (x38.2.2.2.2.map avV).getD 0 .junk = _ := hx40d
    obtain ⟨y41, hy41, h⟩ := bind_some h
    apply awp_draw mix 25 2 1 [1, 2, 3, 30, 31, 32, 69] (by kernel_rfl)
    rw [evK_succ]; simp +decide only [go_sem, Nat.reduceAdd, ptr_of hla2, hb4, hb7, hb15, hb25, hx28d, hb34, hf37, hx38d, hf39, hx40d, hx40e]
    have hs := And.intro hf37 hs
    have hs := And.intro hx38d hs
    have hs := And.intro hf39 hs
    have hs := And.intro hx40d hs
    have hs := And.intro hx40e hs
    (repeat' apply And.intro) <;> first | refine callK_p _ (s_accepts_at w0 hT n _ _ _ x28 x40 _ hy41) (hv hs) ?_ | exact cl
    rw [evK_succ]; simp +decide only [go_sem, Nat.reduceAdd, ptr_of hla2, hb4, hb7, hb15, hb25, hx28d, hb34, hf37, hx38d, hf39, hx40d, hx40e]
    (repeat' with_reducible apply And.intro) <;> first | (rw [evK_succ]; simp +decide only [go_sem, Nat.reduceAdd, ptr_of hla2, hb4, hb7, hb15, hb25, hx28d, hb34, hf37, hx38d, hf39, hx40d, hx40e]) | exact cl
    (repeat' apply And.intro) <;> first | refine hK36 _ _ ?_ | exact cl
    clear hK36
    refine cnd h hs (fun hs h => ?_) (fun hs h => ?_)
    ·
     have hb42 := hs.1
     refine rg [6] hs ?_
     apply awp_ret; simp +decide only [go_sem, Nat.reduceAdd, ptr_of hla2, hb4, hb7, hb15, hb25, hx28d, hb34, hf37, hx38d, hf39, hx40d, hx40e, hb42]
     have hgt := Option.some.inj h; subst hgt
     first | refine fin_q0 (calm_set hcalm ev) (by simp only [List.length_set]) hO.pre ev ⟨?_, rfl⟩ | refine fin_q (calm_set hcalm ev) (by simp only [List.length_set]) hO.pre ev ⟨?_, rfl⟩
     first | rfl | (simp +decide only [go_sem, Nat.reduceAdd, ptr_of hla2, hb4, hb7, hb15, hb25, hx28d, hb34, hf37, hx38d, hf39, hx40d, hx40e, hb42]; done) | (simp +decide only [go_sem, Nat.reduceAdd, Vl.cs, Ty.cs, ptr_of hla2, hb4, hb7, hb15, hb25, hx28d, hb34, hf37, hx38d, hf39, hx40d, hx40e, hb42]; done)
    have hb42 := hs.1
    refine sk [1, 2, 3, 30, 31, 32] hs hK26 ?_
    clear hK26
    obtain ⟨hg44, h⟩ := guard_some h
    refine rl [1, 2, 3, 30, 31, 32] hs (fun e s => Vl22 ml22 e s (Nat.lt_succ_self _)) ?_
    exact ⟨(x32_l22 + 1), y32.2, ([x28.cs]), Rl22, ef hs, ef hs, hO, h⟩
   ·
    replace h := ite_ff h hf39
    apply awp_draw mix 25 2 1 [1, 2, 3, 30, 31, 32, 69] (by kernel_rfl)
    rw [evK_succ]; simp +decide only [go_sem, Nat.reduceAdd, ptr_of hla2, hb4, hb7, hb15, hb25, hx28d, hb34, hf37, hx38d, hf39]
    (repeat' apply And.intro) <;> first | refine callK_skip ?_ | exact cl
    rw [evK_succ]; simp +decide only [go_sem, Nat.reduceAdd, ptr_of hla2, hb4, hb7, hb15, hb25, hx28d, hb34, hf37, hx38d, hf39]
    (repeat' with_reducible apply And.intro) <;> first | (rw [evK_succ]; simp +decide only [go_sem, Nat.reduceAdd, ptr_of hla2, hb4, hb7, hb15, hb25, hx28d, hb34, hf37, hx38d, hf39]) | exact cl
    (repeat' apply And.intro) <;> first | refine hK36 _ _ ?_ | exact cl
    clear hK36
    have hs := And.intro hf37 hs
    have hs := And.intro hx38d hs
    have hs := And.intro hf39 hs
    refine awp_cond false ev (ef hs) (fun hb45 => by cases hb45) (fun hb45 => ?_)
    refine sk [1, 2, 3, 30, 31, 32] hs hK26 ?_
    clear hK26
    obtain ⟨hg46, h⟩ := guard_some h
    refine rl [1, 2, 3, 30, 31, 32] hs (fun e s => Vl22 ml22 e s (Nat.lt_succ_self _)) ?_
    exact ⟨(x32_l22 + 1), y32.2, ([x28.cs]), Rl22, ef hs, ef hs, hO, h⟩
  ·
   replace h := ite_ff h hf37
   apply awp_draw mix 25 2 1 [1, 2, 3, 30, 31, 32, 69] (by kernel_rfl)
   rw [evK_succ]; simp +decide only [go_sem, Nat.reduceAdd, ptr_of hla2, hb4, hb7, hb15, hb25, hx28d, hb34, hf37]
   (repeat' apply And.intro) <;> first | refine callK_skip ?_ | exact cl
   rw [evK_succ]; simp +decide only [go_sem, Nat.reduceAdd, ptr_of hla2, hb4, hb7, hb15, hb25, hx28d, hb34, hf37]
   (repeat' with_reducible apply And.intro) <;> first | (rw [evK_succ]; simp +decide only [go_sem, Nat.reduceAdd, ptr_of hla2, hb4, hb7, hb15, hb25, hx28d, hb34, hf37]) | exact cl
   (repeat' apply And.intro) <;> first | refine hK36 _ _ ?_ | exact cl
   clear hK36
   have hs := And.intro hf37 hs
   refine awp_cond false ev (ef hs) (fun hb47 => by cases hb47) (fun hb47 => ?_)
   refine sk [1, 2, 3, 30, 31, 32] hs hK26 ?_
   clear hK26
   obtain ⟨hg48, h⟩ := guard_some h
   refine rl [1, 2, 3, 30, 31, 32] hs (fun e s => Vl22 ml22 e s (Nat.lt_succ_self _)) ?_
   exact ⟨(x32_l22 + 1), y32.2, ([x28.cs]), Rl22, ef hs, ef hs, hO, h⟩
 ·
  clear h; rintro e st ⟨pla2_k18, Xk18, Rk18, rfl, rfl, hO, h⟩
  rw [s_check_k18] at h
  refine awp_tidy hN hNR hNL (by simp only [List.length_set]) (calm_set hcalm ev) hO (by (simp +decide only [go_sem, Nat.reduceAdd]) <;> (try (repeat' apply And.intro)) <;> first | omega | assumption) (by (simp +decide only [go_sem, Nat.reduceAdd, calmE]) <;> (try (repeat' apply And.intro)) <;> first | omega | assumption) ?_
  refine rg [6] hs ?_
  apply awp_ret; simp +decide only [go_sem, Nat.reduceAdd, ptr_of hla2, hb4, hb7, hb15]
  have hgt := Option.some.inj h; subst hgt
  first | refine fin_q0 (calm_set hcalm ev) (by simp only [List.length_set]) hO.pre ev ⟨?_, rfl⟩ | refine fin_q (calm_set hcalm ev) (by simp only [List.length_set]) hO.pre ev ⟨?_, rfl⟩
  first | rfl | (simp +decide only [go_sem, Nat.reduceAdd, ptr_of hla2, hb4, hb7, hb15]; done) | (simp +decide only [go_sem, Nat.reduceAdd, Vl.cs, Ty.cs, ptr_of hla2, hb4, hb7, hb15]; done)
theorem s_check_at (w0 : World) (hT : Lib.Utf8Tabs 0 1 w0) : ∀ n : Nat, s_check_C w0 (s_check_F n)
 | 0 => fun _ _ _ _ _ _ _ _ _ h => (nomatch h)
 | n + 1 => s_check_step w0 hT (s_check_F n) (s_check_at w0 hT n) n
def v_Size_r6  : List (Nat × Vl) → Int → Option Int
 | [], b1_r6 =>
  some (b1_r6)
 | p_r6 :: rest, b1_r6 =>
  if I64 (b1_r6 + 1) then
   (v_Size_r6  rest) (b1_r6 + 1)
  else none
def v_Size_F (a0 : Vl) : Option Int :=
 if a0.size < 1048576 then
  v_Size_r6  (preV 1 a0) 0
 else none
theorem v_Size_at (w0 : World) (B : List (List AV)) (Rw : List RowA) (L : List LoopA) (a0 : Vl) (r : Int) (h : v_Size_F a0 = some r) :
  ACalls Tryz.prog w0 144 [.agg (a0.cs)] ⟨B, Rw, L⟩ fun x st => x = .val (.int .i64 r) ∧ st = ⟨B, Rw, L⟩ := by
 rw [v_Size_F] at h
 refine hd [.tmp 2] Tryz.func144 Tryz.ntmps144 fun M0 W0 hN hNR hNL hcalm hu hO hs => ?_
 simp only [argsE]
 refine rg [1] hs ?_
 refine rg [1, 3] hs ?_
 apply awp_seq; intro K3 hK3
 refine rc 2 [3, 5] hs ?_; intro K4 hK4
 refine callK_pp _ (preorder_at w0 _ _ _ a0) (hv hs) ?_; rintro _ _ ⟨rfl, rfl⟩
 refine ne hs hK4 ?_
 clear hK4
 apply awp_block
 obtain ⟨hg5, h⟩ := guard_some h
 refine awp_range (itemsV a0) (fun st => st.boxes[(B.length + 2)]? = some a0.cs) (fun i st => ∃ (b1_r6 : Int) (Rr6 : List RowA), st = ⟨B ++ ([a0.cs, [.val (.int .i64 b1_r6)], a0.cs]), Rr6, L⟩ ∧ Owns Rw Rr6 [] ∧ v_Size_r6  ((preV 1 a0).drop i) b1_r6 = some r) (fun _ _ => False) ev ev (preorder_iter w0 a0 hg5 _) (fun x hx => itemsV_two a0 x hx) (by decide) ?_ ⟨0, Rw, ef hs, hO, h⟩ (fun _ _ h => h.elim) ?_ ?_ ?_
 ·
  rintro i st la ⟨b1_r6, Rr6, rfl, hO, h⟩ _ _; simp +decide [St.push]
 ·
  rintro i s1 ⟨XB, XR, XL⟩ x M1 W1 l la la' hX hI hlike hloops hx hra K hK
  obtain ⟨p_r6, hpi, rfl, hi⟩ := itemsV_get a0 i x hx
  (try simp only at hX)
  subst hX
  obtain ⟨b1_r6, Rr6, rfl, hO, h⟩ := hI
  rw [drop_get hpi, v_Size_r6] at h
  have hra0_r6 := hO
  simp only [St.ext, St.push, List.append_assoc, List.append_nil]
  refine awp_sub (keepL [3] _) ?_ (sub_keepL _ _)
  apply awp_skip; simp +decide only [go_sem, Nat.reduceAdd]
  (repeat' apply And.intro) <;> first | refine hK _ _ (by simp [St.ext, St.push]) (fun KQ hKQ => ?_) | exact cl
  clear hK
  dsimp only [St.ext, St.push]
  apply awp_block
  obtain ⟨hg7, h⟩ := guard_some h
  apply awp_region 1 [3]
  rw [evK_succ]; simp +decide only [go_sem, Nat.reduceAdd]
  (repeat' apply And.intro) <;> first | refine hKQ _ _ _ ⟨⟨B ++ [a0.cs, [.val (.int .i64 (b1_r6 + 1))], a0.cs], Rr6, L⟩, [], by first | rfl | (simp only [List.append_assoc, List.append_nil, List.cons_append, List.nil_append]; done), ⟨by simp, by first | exact Nat.le_refl _ | (have := hO.len; simp; omega), rfl⟩, rfl, ⟨(b1_r6 + 1), Rr6, ef hs, hO, h⟩, ?_⟩ | exact cl
  exact .inl rfl
 ·
  rintro s la ⟨XB, XR, XL⟩ hXR ⟨b1_r6, Rr6, rfl, hO, h⟩ _ _
  simp only at hXR
  subst hXR
  rw [List.drop_eq_nil_of_le (by rw [itemsV_length]; exact Nat.le_refl _), v_Size_r6] at h
  simp only [St.ext, St.push, List.append_assoc, List.append_nil]
  (repeat' apply And.intro) <;> first | refine hK3 _ _ ?_ | exact cl
  clear hK3
  refine awp_tidyL (bs := [a0.cs, [.val (.int .i64 b1_r6)], a0.cs]) hN hNR hNL rfl hcalm hO (by (simp +decide only [go_sem, Nat.reduceAdd]) <;> (try (repeat' apply And.intro)) <;> first | omega | assumption) (by (simp +decide only [go_sem, Nat.reduceAdd, calmE]) <;> (try (repeat' apply And.intro)) <;> first | omega | assumption) ?_
  refine rg [2] hs ?_
  exact rt h hs hcalm hO
 ·
  rintro ex s la X hX h; exact h.elim
def s_leastSize_k28 (rec : Ty → Option Int) (n : Nat) (again_l23 : Int → Int → Option Int) (x38_l23 : Int) (x3_k28 : Int) : Option Int :=
 if I64 (x38_l23 + 1) then
  again_l23 x3_k28 (x38_l23 + 1)
 else none
def s_leastSize_k4 (rec : Ty → Option Int) (n : Nat)  (x3_k4 : Int) : Option Int :=
 some ((if 4097 < x3_k4 then 4097 else x3_k4))
def s_leastSize_l23 (rec : Ty → Option Int) (n : Nat) (a0 : Ty) : Nat → Int → Int → Option Int
 | 0, _, _ => none
 | m + 1, x3_l23, x38_l23 =>
  if decide (x38_l23 < ((a0.fields.length : Int))) then
   (idx a0.fields x38_l23).bind fun x31 =>
   if decide (x31.2.2.1 = 1) then
    (rec x31.2.2.2.1).bind fun y35 =>
    if I64 (x3_l23 + y35) then
     s_leastSize_k28 rec n (s_leastSize_l23 rec n a0 m) x38_l23 (x3_l23 + y35)
    else none
   else
    if decide (x31.2.2.1 = 3) then
     (idx x31.2.2.2.2 0).bind fun x39 =>
     (v_Size_F x39).bind fun y40 =>
     if I64 (x3_l23 + y40) then
      s_leastSize_k28 rec n (s_leastSize_l23 rec n a0 m) x38_l23 (x3_l23 + y40)
     else none
    else
     s_leastSize_k28 rec n (s_leastSize_l23 rec n a0 m) x38_l23 x3_l23
  else
   s_leastSize_k4 rec n x3_l23
def s_leastSize_B (rec : Ty → Option Int) (n : Nat) (a0 : Ty) : Option Int :=
 if decide (a0.kind = 8) then
  if decide (0 < a0.min) then
   (idx a0.elem 0).bind fun x11 =>
   (rec x11).bind fun y12 =>
   if I64 (a0.min * y12) then
    if I64 (1 + (a0.min * y12)) then
     s_leastSize_k4 rec n (1 + (a0.min * y12))
    else none
   else none
  else
   s_leastSize_k4 rec n 1
 else
  if decide (a0.kind = 10) then
   (idx a0.fields 0).bind fun x17 =>
   (rec x17.2.2.2.1).bind fun y18 =>
   if I64 (1 + y18) then
    s_leastSize_k4 rec n (1 + y18)
   else none
  else
   if decide (a0.kind = 9) then
    s_leastSize_l23 rec n a0 n 1 0
   else
    s_leastSize_k4 rec n 1
def s_leastSize_F : Nat → Ty → Option Int
 | 0, _ => none
 | n + 1, a0 => s_leastSize_B (s_leastSize_F n) n a0
def s_leastSize_C (w0 : World) (F : Ty → Option Int) : Prop := ∀ (B : List (List AV)) (Rw : List RowA) (L : List LoopA) (a0 : Ty) (r : Int), F a0 = some r → ACalls Tryz.prog w0 98 [.agg (a0.cs)] ⟨B, Rw, L⟩ fun x st => x = .val (.int .i64 r) ∧ st = ⟨B, Rw, L⟩
theorem s_leastSize_step (w0 : World) (rec : Ty → Option Int) (ih : s_leastSize_C w0 rec) (n : Nat) : s_leastSize_C w0 (s_leastSize_B rec n) := by
 intro B Rw L a0 r h
 rw [s_leastSize_B] at h
 refine hd [.tmp 2] Tryz.func98 Tryz.ntmps98 fun M0 W0 hN hNR hNL hcalm hu hO hs => ?_
 simp only [argsE]
 refine rg [1] hs ?_
 refine rg [1, 3] hs ?_
 refine awp_mid (fun e st => ∃ (x3_k4 : Int), Ck e st B Rw L [(3, true, .val (.int .i64 x3_k4))] [a0.cs] [] (s_leastSize_k4 rec n x3_k4 = some r)) ?_ ?_
 ·
  intro K5 hK5
  refine rg [1, 3, 7] hs ?_
  apply awp_block
  refine rg [1, 3, 7, 8] hs ?_
  refine cnd h hs (fun hs h => ?_) (fun hs h => ?_)
  ·
   have hb8 := hs.1
   refine rg [1, 3, 12] hs ?_
   refine cnd h hs (fun hs h => ?_) (fun hs h => ?_)
   ·
    have hb10 := hs.1
    obtain ⟨x11, hx11a, hx11b, hx11d, h⟩ := ix avT h
    have hx11e : (a0.elem.map avT).getD 0 .junk = _ := hx11d
    obtain ⟨y12, hy12, h⟩ := bind_some h
    obtain ⟨hg13, h⟩ := guard_some h
    obtain ⟨hg14, h⟩ := guard_some h
    apply awp_draw mix 10 2 1 [3] (by kernel_rfl)
    rw [evK_succ]; simp +decide only [go_sem, Nat.reduceAdd, hb8, hb10, hx11d, hx11e]
    have hs := And.intro hx11d hs
    have hs := And.intro hx11e hs
    (repeat' apply And.intro) <;> first | refine callK_p _ (ih _ _ _ x11 _ hy12) (hv hs) ?_ | exact cl
    rw [evK_succ]; simp +decide only [go_sem, Nat.reduceAdd, hb8, hb10, hx11d, hx11e]
    (repeat' with_reducible apply And.intro) <;> first | (rw [evK_succ]; simp +decide only [go_sem, Nat.reduceAdd, hb8, hb10, hx11d, hx11e]) | exact cl
    (repeat' apply And.intro) <;> first | refine hK5 _ _ ⟨(1 + (a0.min * y12)), ([]), Rw, ef hs, ef hs, hO, h⟩ | exact cl
   have hb10 := hs.1
   refine sk [3] hs hK5 ?_
   exact ⟨1, ([]), Rw, ef hs, ef hs, hO, h⟩
  have hb8 := hs.1
  refine rg [1, 3, 7, 23] hs ?_
  refine cnd h hs (fun hs h => ?_) (fun hs h => ?_)
  ·
   obtain ⟨x17, hx17a, hx17b, hx17d, h⟩ := ix avTF h
   have hx17e : (a0.fields.map avTF).getD 0 .junk = _ := hx17d
   obtain ⟨y18, hy18, h⟩ := bind_some h
   obtain ⟨hg19, h⟩ := guard_some h
   have hs := And.intro hx17d hs
   have hs := And.intro hx17e hs
   refine rk 2 [3] hs ?_
   refine callK_p _ (ih _ _ _ x17.2.2.2.1 _ hy18) (hv hs) ?_
   refine ne hs hK5 ?_
   exact ⟨(1 + y18), ([]), Rw, ef hs, ef hs, hO, h⟩
  refine rg [1, 3, 33] hs ?_
  refine cnd h hs (fun hs h => ?_) (fun hs h => ?_)
  ·
   refine rg [3, 36, 37, 38] hs ?_
   apply awp_block
   refine awp_loop (fun m e st => ∃ (x3_l23 : Int) (x38_l23 : Int), Ck e st B Rw L [(3, true, .val (.int .i64 x3_l23)), (36, true, .list (a0.fields.map avTF) .none), (37, true, .val (.int .i64 ((a0.fields.length : Int)))), (38, true, .val (.int .i64 x38_l23))] [a0.cs] [] (s_leastSize_l23 rec n a0 m x3_l23 x38_l23 = some r)) n ⟨1, 0, ([]), Rw, ef hs, ef hs, hO, h⟩ ?_
   rintro ml23 e st ⟨x3_l23, x38_l23, Xl23, Rl23, rfl, rfl, hO, h⟩ Ul23 Vl23
   cases ml23 with
   | zero => cases h
   | succ ml23 =>
   rw [s_leastSize_l23] at h
   refine td hN hNR hNL hcalm hO ?_
   refine rg [3, 36, 37, 38, 39] hs ?_
   apply awp_seq; intro K25 hK25
   refine cnd h hs (fun hs h => ?_) (fun hs h => ?_)
   rotate_left
   ·
    refine sx [3] hs hK5 ?_
    exact ⟨x3_l23, ([]), Rl23, ef hs, ef hs, hO, h⟩
   refine sk [3, 36, 37, 38] hs hK25 ?_
   clear hK25
   refine awp_mid (fun e st => ∃ (x3_k28 : Int), Ck e st B Rw L [(3, true, .val (.int .i64 x3_k28)), (36, true, .list (a0.fields.map avTF) .none), (37, true, .val (.int .i64 ((a0.fields.length : Int)))), (38, true, .val (.int .i64 x38_l23))] [a0.cs] [] (s_leastSize_k28 rec n (s_leastSize_l23 rec n a0 ml23) x38_l23 x3_k28 = some r)) ?_ ?_
   ·
    intro K29 hK29
    apply awp_block
    obtain ⟨x31, hx31, h⟩ := bind_some h
    obtain ⟨hx31a, hx31b, hx31c⟩ := idx_some hx31
    have hx31d := getD_map (f := avTF) hx31c
    have hs := And.intro hx31d hs
    refine rg [3, 5, 36, 37, 38] hs ?_
    refine rg [3, 5, 36, 37, 38, 43] hs ?_
    apply awp_block
    refine rg [3, 5, 36, 37, 38, 43, 44] hs ?_
    refine cnd h hs (fun hs h => ?_) (fun hs h => ?_)
    ·
     obtain ⟨y35, hy35, h⟩ := bind_some h
     obtain ⟨hg36, h⟩ := guard_some h
     refine rk 2 [3, 36, 37, 38] hs ?_
     refine callK_p _ (ih _ _ _ x31.2.2.2.1 _ hy35) (hv hs) ?_
     refine ne hs hK29 ?_
     exact ⟨(x3_l23 + y35), ([.val (.int .i64 x31.1) :: (.val (.string x31.2.1) :: (.val (.int .i64 x31.2.2.1) :: ((x31.2.2.2.1.cs) ++ ([.list (x31.2.2.2.2.map avV) .none]))))]), Rl23, ef hs, ef hs, hO, h⟩
    refine rg [3, 5, 36, 37, 38, 51] hs ?_
    refine cnd h hs (fun hs h => ?_) (fun hs h => ?_)
    ·
     obtain ⟨x39, hx39a, hx39b, hx39d, h⟩ := ix avV h
     have hx39e : (x31.2.2.2.2.map avV).getD 0 .junk = _ := hx39d
     obtain ⟨y40, hy40, h⟩ := bind_some h
     obtain ⟨hg41, h⟩ := guard_some h
     have hs := And.intro hx39d hs
     have hs := And.intro hx39e hs
     refine rk 2 [3, 36, 37, 38] hs ?_
     refine callK_p _ (v_Size_at w0 _ _ _ x39 _ hy40) (hv hs) ?_
     refine ne hs hK29 ?_
     exact ⟨(x3_l23 + y40), ([.val (.int .i64 x31.1) :: (.val (.string x31.2.1) :: (.val (.int .i64 x31.2.2.1) :: ((x31.2.2.2.1.cs) ++ ([.list (x31.2.2.2.2.map avV) .none]))))]), Rl23, ef hs, ef hs, hO, h⟩
    refine sk [3, 36, 37, 38] hs hK29 ?_
    exact ⟨x3_l23, ([.val (.int .i64 x31.1) :: (.val (.string x31.2.1) :: (.val (.int .i64 x31.2.2.1) :: ((x31.2.2.2.1.cs) ++ ([.list (x31.2.2.2.2.map avV) .none]))))]), Rl23, ef hs, ef hs, hO, h⟩
   ·
    clear h; rintro e st ⟨x3_k28, Xk28, Rk28, rfl, rfl, hO, h⟩
    rw [s_leastSize_k28] at h
    refine td hN hNR hNL hcalm hO ?_
    obtain ⟨hg42, h⟩ := guard_some h
    refine rl [3, 36, 37, 38] hs (fun e s => Vl23 ml23 e s (Nat.lt_succ_self _)) ?_
    exact ⟨x3_k28, (x38_l23 + 1), ([]), Rk28, ef hs, ef hs, hO, h⟩
  refine sk [3] hs hK5 ?_
  exact ⟨1, ([]), Rw, ef hs, ef hs, hO, h⟩
 ·
  clear h; rintro e st ⟨x3_k4, Xk4, Rk4, rfl, rfl, hO, h⟩
  rw [s_leastSize_k4] at h
  refine td hN hNR hNL hcalm hO ?_
  refine rg [2] hs ?_
  exact rt h hs hcalm hO
theorem s_leastSize_at (w0 : World) : ∀ n : Nat, s_leastSize_C w0 (s_leastSize_F n)
 | 0 => fun _ _ _ _ _ h => (nomatch h)
 | n + 1 => s_leastSize_step w0 (s_leastSize_F n) (s_leastSize_at w0 n) n
def s_greatestSize_k18 (rec : Ty → Option Int) (n : Nat)  (x3_k18 : Int) : Option Int :=
 some (x3_k18)
def s_greatestSize_l21 (rec : Ty → Option Int) (n : Nat) (a0 : Ty) : Nat → Int → Int → Option Int
 | 0, _, _ => none
 | m + 1, x3_l21, x25_l21 =>
  if decide (x25_l21 < ((a0.fields.length : Int))) then
   (idx a0.fields x25_l21).bind fun x27 =>
   (rec x27.2.2.2.1).bind fun y28 =>
   if I64 (x25_l21 + 1) then
    (s_greatestSize_l21 rec n a0 m) ((if x3_l21 < y28 then y28 else x3_l21)) (x25_l21 + 1)
   else none
  else
   s_greatestSize_k18 rec n x3_l21
def s_greatestSize_k5 (rec : Ty → Option Int) (n : Nat) (a0 : Ty) (x3_k5 : Int) : Option Int :=
 s_greatestSize_l21 rec n a0 n x3_k5 0
def s_greatestSize_l8 (rec : Ty → Option Int) (n : Nat) (a0 : Ty) : Nat → Int → Int → Option Int
 | 0, _, _ => none
 | m + 1, x3_l8, x13_l8 =>
  if decide (x13_l8 < ((a0.elem.length : Int))) then
   (idx a0.elem x13_l8).bind fun x14 =>
   (rec x14).bind fun y15 =>
   if I64 (x13_l8 + 1) then
    (s_greatestSize_l8 rec n a0 m) ((if x3_l8 < y15 then y15 else x3_l8)) (x13_l8 + 1)
   else none
  else
   s_greatestSize_k5 rec n a0 x3_l8
def s_greatestSize_B (rec : Ty → Option Int) (n : Nat) (a0 : Ty) : Option Int :=
 (s_leastSize_F n a0).bind fun y3 =>
 s_greatestSize_l8 rec n a0 n y3 0
def s_greatestSize_F : Nat → Ty → Option Int
 | 0, _ => none
 | n + 1, a0 => s_greatestSize_B (s_greatestSize_F n) n a0
def s_greatestSize_C (w0 : World) (F : Ty → Option Int) : Prop := ∀ (B : List (List AV)) (Rw : List RowA) (L : List LoopA) (a0 : Ty) (r : Int), F a0 = some r → ACalls Tryz.prog w0 54 [.agg (a0.cs)] ⟨B, Rw, L⟩ fun x st => x = .val (.int .i64 r) ∧ st = ⟨B, Rw, L⟩
theorem s_greatestSize_step (w0 : World) (rec : Ty → Option Int) (ih : s_greatestSize_C w0 rec) (n : Nat) : s_greatestSize_C w0 (s_greatestSize_B rec n) := by
 intro B Rw L a0 r h
 rw [s_greatestSize_B] at h
 refine hd [.tmp 2] Tryz.func54 Tryz.ntmps54 fun M0 W0 hN hNR hNL hcalm hu hO hs => ?_
 simp only [argsE]
 refine rg [1] hs ?_
 obtain ⟨y3, hy3, h⟩ := bind_some h
 refine rc 2 [1, 3] hs ?_; intro K2 hK2
 refine callK_p _ (s_leastSize_at w0 n _ _ _ a0 _ hy3) (hv hs) ?_
 refine ne hs hK2 ?_
 clear hK2
 refine awp_mid (fun e st => ∃ (x3_k5 : Int), Ck e st B Rw L [(1, true, .box B.length 0), (3, true, .val (.int .i64 x3_k5))] [a0.cs] [] (s_greatestSize_k5 rec n a0 x3_k5 = some r)) ?_ ?_
 ·
  intro K6 hK6
  refine rg [1, 3, 11, 12, 13] hs ?_
  apply awp_block
  refine awp_loop (fun m e st => ∃ (x3_l8 : Int) (x13_l8 : Int), Ck e st B Rw L [(1, true, .box B.length 0), (3, true, .val (.int .i64 x3_l8)), (11, true, .list (a0.elem.map avT) .none), (12, true, .val (.int .i64 ((a0.elem.length : Int)))), (13, true, .val (.int .i64 x13_l8))] [a0.cs] [] (s_greatestSize_l8 rec n a0 m x3_l8 x13_l8 = some r)) n ⟨y3, 0, ([]), Rw, ef hs, ef hs, hO, h⟩ ?_
  rintro ml8 e st ⟨x3_l8, x13_l8, Xl8, Rl8, rfl, rfl, hO, h⟩ Ul8 Vl8
  cases ml8 with
  | zero => cases h
  | succ ml8 =>
  rw [s_greatestSize_l8] at h
  refine td hN hNR hNL hcalm hO ?_
  refine rg [1, 3, 11, 12, 13, 14] hs ?_
  apply awp_seq; intro K10 hK10
  refine cnd h hs (fun hs h => ?_) (fun hs h => ?_)
  rotate_left
  ·
   refine sx [1, 3] hs hK6 ?_
   exact ⟨x3_l8, ([]), Rl8, ef hs, ef hs, hO, h⟩
  refine sk [1, 3, 11, 12, 13] hs hK10 ?_
  clear hK10
  apply awp_seq; intro K12 hK12
  apply awp_block
  obtain ⟨x14, hx14, h⟩ := bind_some h
  obtain ⟨hx14a, hx14b, hx14c⟩ := idx_some hx14
  have hx14d := getD_map (f := avT) hx14c
  have hs := And.intro hx14d hs
  refine rg [1, 3, 5, 11, 12, 13] hs ?_
  obtain ⟨y15, hy15, h⟩ := bind_some h
  refine rk 2 [1, 3, 11, 12, 13] hs ?_
  refine callK_p _ (ih _ _ _ x14 _ hy15) (hv hs) ?_
  refine ne hs hK12 ?_
  clear hK12
  obtain ⟨hg16, h⟩ := guard_some h
  refine rl [1, 3, 11, 12, 13] hs (fun e s => Vl8 ml8 e s (Nat.lt_succ_self _)) ?_
  exact ⟨((if x3_l8 < y15 then y15 else x3_l8)), (x13_l8 + 1), ([x14.cs]), Rl8, ef hs, ef hs, hO, h⟩
 ·
  clear h; rintro e st ⟨x3_k5, Xk5, Rk5, rfl, rfl, hO, h⟩
  rw [s_greatestSize_k5] at h
  refine td hN hNR hNL hcalm hO ?_
  refine awp_mid (fun e st => ∃ (x3_k18 : Int), Ck e st B Rw L [(3, true, .val (.int .i64 x3_k18))] [a0.cs] [] (s_greatestSize_k18 rec n x3_k18 = some r)) ?_ ?_
  ·
   intro K19 hK19
   refine rg [3, 23, 24, 25] hs ?_
   apply awp_block
   refine awp_loop (fun m e st => ∃ (x3_l21 : Int) (x25_l21 : Int), Ck e st B Rw L [(3, true, .val (.int .i64 x3_l21)), (23, true, .list (a0.fields.map avTF) .none), (24, true, .val (.int .i64 ((a0.fields.length : Int)))), (25, true, .val (.int .i64 x25_l21))] [a0.cs] [] (s_greatestSize_l21 rec n a0 m x3_l21 x25_l21 = some r)) n ⟨x3_k5, 0, ([]), Rk5, ef hs, ef hs, hO, h⟩ ?_
   rintro ml21 e st ⟨x3_l21, x25_l21, Xl21, Rl21, rfl, rfl, hO, h⟩ Ul21 Vl21
   cases ml21 with
   | zero => cases h
   | succ ml21 =>
   rw [s_greatestSize_l21] at h
   refine td hN hNR hNL hcalm hO ?_
   refine rg [3, 23, 24, 25, 26] hs ?_
   apply awp_seq; intro K23 hK23
   refine cnd h hs (fun hs h => ?_) (fun hs h => ?_)
   rotate_left
   ·
    refine sx [3] hs hK19 ?_
    exact ⟨x3_l21, ([]), Rl21, ef hs, ef hs, hO, h⟩
   refine sk [3, 23, 24, 25] hs hK23 ?_
   clear hK23
   apply awp_seq; intro K25 hK25
   apply awp_block
   obtain ⟨x27, hx27, h⟩ := bind_some h
   obtain ⟨hx27a, hx27b, hx27c⟩ := idx_some hx27
   have hx27d := getD_map (f := avTF) hx27c
   have hs := And.intro hx27d hs
   refine rg [3, 7, 23, 24, 25] hs ?_
   obtain ⟨y28, hy28, h⟩ := bind_some h
   refine rk 2 [3, 23, 24, 25] hs ?_
   refine callK_p _ (ih _ _ _ x27.2.2.2.1 _ hy28) (hv hs) ?_
   refine ne hs hK25 ?_
   clear hK25
   obtain ⟨hg29, h⟩ := guard_some h
   refine rl [3, 23, 24, 25] hs (fun e s => Vl21 ml21 e s (Nat.lt_succ_self _)) ?_
   exact ⟨((if x3_l21 < y28 then y28 else x3_l21)), (x25_l21 + 1), ([.val (.int .i64 x27.1) :: (.val (.string x27.2.1) :: (.val (.int .i64 x27.2.2.1) :: ((x27.2.2.2.1.cs) ++ ([.list (x27.2.2.2.2.map avV) .none]))))]), Rl21, ef hs, ef hs, hO, h⟩
  ·
   clear h; rintro e st ⟨x3_k18, Xk18, Rk18, rfl, rfl, hO, h⟩
   rw [s_greatestSize_k18] at h
   refine td hN hNR hNL hcalm hO ?_
   refine rg [2] hs ?_
   exact rt h hs hcalm hO
theorem s_greatestSize_at (w0 : World) : ∀ n : Nat, s_greatestSize_C w0 (s_greatestSize_F n)
 | 0 => fun _ _ _ _ _ h => (nomatch h)
 | n + 1 => s_greatestSize_step w0 (s_greatestSize_F n) (s_greatestSize_at w0 n) n
def s_Check_F (n : Nat) (a0 : Ty) : Option Int :=
 (s_check_F n a0 1 4096).bind fun y5 =>
 if !(decide (y5.1 = 0)) then
  some (y5.1)
 else
  (s_greatestSize_F n a0).bind fun y11 =>
  if decide (4096 < y11) then
   some (9)
  else
   some (0)
theorem s_Check_at (w0 : World) (hT : Lib.Utf8Tabs 0 1 w0) (n : Nat) (B : List (List AV)) (Rw : List RowA) (L : List LoopA) (a0 : Ty) (r : Int) (h : s_Check_F n a0 = some r) :
  ACalls Tryz.prog w0 16 [.agg (a0.cs)] ⟨B, Rw, L⟩ fun x st => x = .val (.int .i64 r) ∧ st = ⟨B, Rw, L⟩ := by
 rw [s_Check_F] at h
 refine hd [.tmp 2] Tryz.func16 Tryz.ntmps16 fun M0 W0 hN hNR hNL hcalm hu hO hs => ?_
 simp only [argsE]
 refine rg [1] hs ?_
 refine rg [1, 3] hs ?_
 apply awp_seq; intro K3 hK3
 obtain ⟨y5, hy5, h⟩ := bind_some h
 refine rc 2 [1, 4] hs ?_; intro K4 hK4
 refine callK_pp _ (s_check_at w0 hT n _ _ _ a0 1 (B.length + 1) 4096 ev _ hy5) (hv hs) ?_; rintro _ _ ⟨rfl, rfl⟩
 refine ne hs hK4 ?_
 clear hK4
 refine rg [1, 4, 8] hs ?_
 refine cnd h hs (fun hs h => ?_) (fun hs h => ?_)
 ·
  refine rg [2] hs ?_
  exact rt h hs hcalm hO
 refine sk [1] hs hK3 ?_
 clear hK3
 apply awp_seq; intro K9 hK9
 obtain ⟨y11, hy11, h⟩ := bind_some h
 refine rc 2 [12] hs ?_; intro K10 hK10
 refine callK_p _ (s_greatestSize_at w0 n _ _ _ a0 _ hy11) (hv hs) ?_
 refine ne hs hK10 ?_
 clear hK10
 refine cnd h hs (fun hs h => ?_) (fun hs h => ?_)
 ·
  refine rg [2] hs ?_
  exact rt h hs hcalm hO
 refine sk [] hs hK9 ?_
 clear hK9
 refine rg [2] hs ?_
 exact rt h hs hcalm hO
def s_Accepts_F (n : Nat) (a0 : Ty) (a1 : Vl) : Option Bool :=
 (s_Check_F n a0).bind fun y3 =>
 if decide (y3 = 0) then
  (s_accepts_F n a0 a1).bind fun y5 =>
  some (y5)
 else
  some (false)
theorem s_Accepts_at (w0 : World) (hT : Lib.Utf8Tabs 0 1 w0) (n : Nat) (B : List (List AV)) (Rw : List RowA) (L : List LoopA) (a0 : Ty) (a1 : Vl) (r : Bool) (h : s_Accepts_F n a0 a1 = some r) :
  ACalls Tryz.prog w0 19 [.agg (a0.cs), .agg (a1.cs)] ⟨B, Rw, L⟩ fun x st => x = .val (.bool r) ∧ st = ⟨B, Rw, L⟩ := by
 rw [s_Accepts_F] at h
 refine hd [.tmp 4] Tryz.func19 Tryz.ntmps19 fun M0 W0 hN hNR hNL hcalm hu hO hs => ?_
 simp only [argsE]
 refine rg [2, 3] hs ?_
 apply awp_seq; intro K2 hK2
 obtain ⟨y3, hy3, h⟩ := bind_some h
 rcases Bool.eq_false_or_eq_true (decide (y3 = 0)) with hf4 | hf4
 ·
  replace h := ite_tt h hf4
  obtain ⟨y5, hy5, h⟩ := bind_some h
  have hs := And.intro hf4 hs
  refine rk 3 [4] hs ?_
  refine callK_p _ (s_Check_at w0 hT n _ _ _ a0 _ hy3) (hv hs) ?_
  refine nc hs ?_
  refine callK_p _ (s_accepts_at w0 hT n _ _ _ a0 a1 _ hy5) (hv hs) ?_
  refine ne hs hK2 ?_
  clear hK2
  exact rt h hs hcalm hO
 ·
  replace h := ite_ff h hf4
  apply awp_region 3 [4]
  rw [evK_succ]; simp +decide only [go_sem, Nat.reduceAdd, hf4]
  have hs := And.intro hf4 hs
  (repeat' apply And.intro) <;> first | refine callK_p _ (s_Check_at w0 hT n _ _ _ a0 _ hy3) (hv hs) ?_ | exact cl
  rw [evK_succ]; simp +decide only [go_sem, Nat.reduceAdd, hf4]
  (repeat' apply And.intro) <;> first | refine callK_skip ?_ | exact cl
  rw [evK_succ]; simp +decide only [go_sem, Nat.reduceAdd, hf4]
  (repeat' apply And.intro) <;> first | refine hK2 _ _ ?_ | exact cl
  clear hK2
  exact rt h hs hcalm hO
def p_Part_text_F (a0 : Part) : Option ByteArray :=
 if decide (a0.kind = 1) then
  if ((⟨#[46]⟩ : ByteArray)).size + a0.name.size ≤ 9223372036854775807 then
   some (((⟨#[46]⟩ : ByteArray)) ++ a0.name)
  else none
 else
  if decide (a0.kind = 2) then
   if I64 (a0.index) then
    if ((⟨#[91]⟩ : ByteArray)).size + ((⟨(Lib.itoa a0.index).toArray⟩ : ByteArray)).size ≤ 9223372036854775807 then
     if (((⟨#[91]⟩ : ByteArray)) ++ ((⟨(Lib.itoa a0.index).toArray⟩ : ByteArray))).size + ((⟨#[93]⟩ : ByteArray)).size ≤ 9223372036854775807 then
      some ((((⟨#[91]⟩ : ByteArray)) ++ ((⟨(Lib.itoa a0.index).toArray⟩ : ByteArray))) ++ ((⟨#[93]⟩ : ByteArray)))
     else none
    else none
   else none
  else
   if decide (a0.kind = 3) then
    some ((⟨#[91, 42, 93]⟩ : ByteArray))
   else
    if ((⟨#[63]⟩ : ByteArray)).size + a0.name.size ≤ 9223372036854775807 then
     some (((⟨#[63]⟩ : ByteArray)) ++ a0.name)
    else none
theorem p_Part_text_at (w0 : World) (hP : Pow10 w0) (B : List (List AV)) (Rw : List RowA) (L : List LoopA) (a0 : Part) (r : ByteArray) (h : p_Part_text_F a0 = some r) :
  ACalls Tryz.prog w0 115 [.agg (.val (.int .i64 a0.kind) :: (.val (.int .i64 a0.index) :: ([.val (.string a0.name)])))] ⟨B, Rw, L⟩ fun x st => x = .val (.string r) ∧ st = ⟨B, Rw, L⟩ := by
 rw [p_Part_text_F] at h
 refine hd [.tmp 2] Tryz.func115 Tryz.ntmps115 fun M0 W0 hN hNR hNL hcalm hu hO hs => ?_
 simp only [argsE]
 refine rg [1] hs ?_
 apply awp_seq; intro K2 hK2
 refine rg [1, 4] hs ?_
 apply awp_block
 refine rg [1, 4, 5] hs ?_
 refine cnd h hs (fun hs h => ?_) (fun hs h => ?_)
 ·
  obtain ⟨hg7, h⟩ := guard_some h
  have hg7s := hg7
  try simp +decide only [go_sem] at hg7s
  refine rg [2] hs ?_
  exact rt h hs hcalm hO
 refine rg [1, 4, 10] hs ?_
 refine cnd h hs (fun hs h => ?_) (fun hs h => ?_)
 ·
  obtain ⟨hg11, h⟩ := guard_some h
  obtain ⟨hg12, h⟩ := guard_some h
  have hg12s := hg12
  try simp +decide only [go_sem] at hg12s
  obtain ⟨hg13, h⟩ := guard_some h
  have hg13s := hg13
  try simp +decide only [go_sem] at hg13s
  refine rc 2 [2] hs ?_; intro K10 hK10
  refine callK_p _ (sItoa_at w0 _ _ _ hP a0.index hg11) (hv hs) ?_
  refine ne hs hK10 ?_
  clear hK10
  exact rt h hs hcalm hO
 refine rg [1, 17] hs ?_
 refine cnd h hs (fun hs h => ?_) (fun hs h => ?_)
 ·
  refine rg [2] hs ?_
  exact rt h hs hcalm hO
 refine sk [1] hs hK2 ?_
 clear hK2
 obtain ⟨hg18, h⟩ := guard_some h
 have hg18s := hg18
 try simp +decide only [go_sem] at hg18s
 refine rg [2] hs ?_
 exact rt h hs hcalm hO
def p_Part_valid_k5 (a0 : Part) (x5_k5 : Bool) : Option Bool :=
 if x5_k5 then
  if decide (a0.index = 0) then
   if a0.name.size ≤ maxLen then
    some (nameB a0.name)
   else none
  else
   some (false)
 else
  if decide (a0.kind = 2) then
   some (((sEq a0.name ((⟨#[]⟩ : ByteArray))) && (decide (0 ≤ a0.index))) && (decide (a0.index < 256)))
  else
   if decide (a0.kind = 3) then
    some ((sEq a0.name ((⟨#[]⟩ : ByteArray))) && (decide (a0.index = 0)))
   else
    some (false)
def p_Part_valid_F (a0 : Part) : Option Bool :=
 if decide (a0.kind = 1) then
  p_Part_valid_k5 a0 true
 else
  p_Part_valid_k5 a0 (decide (a0.kind = 4))
theorem p_Part_valid_at (w0 : World) (B : List (List AV)) (Rw : List RowA) (L : List LoopA) (a0 : Part) (r : Bool) (h : p_Part_valid_F a0 = some r) :
  ACalls Tryz.prog w0 114 [.agg (.val (.int .i64 a0.kind) :: (.val (.int .i64 a0.index) :: ([.val (.string a0.name)])))] ⟨B, Rw, L⟩ fun x st => x = .val (.bool r) ∧ st = ⟨B, Rw, L⟩ := by
 rw [p_Part_valid_F] at h
 refine hd [.tmp 2] Tryz.func114 Tryz.ntmps114 fun M0 W0 hN hNR hNL hcalm hu hO hs => ?_
 simp only [argsE]
 refine rg [1] hs ?_
 apply awp_seq; intro K2 hK2
 refine rg [1, 4] hs ?_
 apply awp_block
 refine awp_mid (fun e st => ∃ (x5_k5 : Bool), Ck e st B Rw L [(1, true, .box B.length 0), (4, true, .val (.int .i64 a0.kind)), (5, true, .val (.bool x5_k5))] [.val (.int .i64 a0.kind) :: (.val (.int .i64 a0.index) :: ([.val (.string a0.name)]))] [] (p_Part_valid_k5 a0 x5_k5 = some r)) ?_ ?_
 ·
  intro K6 hK6
  refine rg [1, 4, 5] hs ?_
  refine cnd h hs (fun hs h => ?_) (fun hs h => ?_)
  ·
   refine sk [1, 4, 5] hs hK6 ?_
   exact ⟨true, ([]), Rw, ef hs, ef hs, hO, h⟩
  refine rl [1, 4, 5] hs hK6 ?_
  exact ⟨(decide (a0.kind = 4)), ([]), Rw, ef hs, ef hs, hO, h⟩
 ·
  clear h; rintro e st ⟨x5_k5, Xk5, Rk5, rfl, rfl, hO, h⟩
  rw [p_Part_valid_k5] at h
  refine td hN hNR hNL hcalm hO ?_
  refine cnd h hs (fun hs h => ?_) (fun hs h => ?_)
  ·
   have hb9 := hs.1
   apply awp_seq; intro K10 hK10
   rcases Bool.eq_false_or_eq_true (decide (a0.index = 0)) with hf11 | hf11
   ·
    replace h := ite_tt h hf11
    obtain ⟨hg12, h⟩ := guard_some h
    have hs := And.intro hf11 hs
    refine rk 2 [2] hs ?_
    refine callK_p _ (IsName_at w0 _ _ _ a0.name hg12) (hv hs) ?_
    refine ne hs hK10 ?_
    clear hK10
    exact rt h hs hcalm hO
   ·
    replace h := ite_ff h hf11
    apply awp_region 2 [2]
    rw [evK_succ]; simp +decide only [go_sem, Nat.reduceAdd, hb9, hf11]
    (repeat' apply And.intro) <;> first | refine callK_skip ?_ | exact cl
    rw [evK_succ]; simp +decide only [go_sem, Nat.reduceAdd, hb9, hf11]
    (repeat' apply And.intro) <;> first | refine hK10 _ _ ?_ | exact cl
    clear hK10
    have hs := And.intro hf11 hs
    exact rt h hs hcalm hO
  have hb9 := hs.1
  refine rg [1, 4, 16] hs ?_
  refine cnd h hs (fun hs h => ?_) (fun hs h => ?_)
  ·
   refine rg [2] hs ?_
   exact rt h hs hcalm hO
  refine rg [1, 31] hs ?_
  refine cnd h hs (fun hs h => ?_) (fun hs h => ?_)
  ·
   refine rg [2] hs ?_
   exact rt h hs hcalm hO
  refine sk [] hs hK2 ?_
  clear hK2
  refine rg [2] hs ?_
  exact rt h hs hcalm hO
def p_Check_k12 (n : Nat)  (x3_k12 : Int) : Option Int :=
 if decide (200 < x3_k12) then
  some (3)
 else
  some (0)
def p_Check_l15 (n : Nat) (a0 : List Part) : Nat → Int → Int → Option Int
 | 0, _, _ => none
 | m + 1, x3_l15, x23_l15 =>
  if decide (x23_l15 < ((a0.length : Int))) then
   (idx a0 x23_l15).bind fun x21 =>
   (p_Part_valid_F x21).bind fun y24 =>
   if !y24 then
    some (3)
   else
    (p_Part_text_F x21).bind fun y27 =>
    if I64 (x3_l15 + ((y27.size : Int))) then
     if I64 (x23_l15 + 1) then
      (p_Check_l15 n a0 m) (x3_l15 + ((y27.size : Int))) (x23_l15 + 1)
     else none
    else none
  else
   p_Check_k12 n x3_l15
def p_Check_F (n : Nat) (a0 : List Part) : Option Int :=
 if (decide (((a0.length : Int)) < 1)) || (decide (16 < ((a0.length : Int)))) then
  some (3)
 else
  (idx a0 0).bind fun x7 =>
  if !(decide (x7.kind = 1)) then
   some (3)
  else
   p_Check_l15 n a0 n ((-1)) 0
theorem p_Check_at (w0 : World) (hP : Pow10 w0) (n : Nat) (B : List (List AV)) (Rw : List RowA) (L : List LoopA) (a0 : List Part) (r : Int) (h : p_Check_F n a0 = some r) :
  ACalls Tryz.prog w0 64 [.list (a0.map avPt) .none] ⟨B, Rw, L⟩ fun x st => x = .val (.int .i64 r) ∧ st = ⟨B, Rw, L⟩ := by
 rw [p_Check_F] at h
 refine hd [.tmp 2] Tryz.func64 Tryz.ntmps64 fun M0 W0 hN hNR hNL hcalm hu hO hs => ?_
 simp only [argsE]
 refine rg [0] hs ?_
 apply awp_seq; intro K2 hK2
 apply awp_seq; intro K3 hK3
 rcases Bool.eq_false_or_eq_true ((decide (((a0.length : Int)) < 1)) || (decide (16 < ((a0.length : Int))))) with hf4 | hf4
 ·
  replace h := ite_tt h hf4
  have hs := And.intro hf4 hs
  refine rl [0, 20] hs hK3 ?_
  clear hK3
  refine awp_cond true ev (ef hs) (fun hb5 => ?_) (fun hb5 => by cases hb5)
  refine rg [2] hs ?_
  exact rt h hs hcalm hO
 ·
  replace h := ite_ff h hf4
  obtain ⟨x7, hx7a, hx7b, hx7d, h⟩ := ix avPt h
  have hx7e : (a0.map avPt).getD 0 .junk = _ := hx7d
  have hs := And.intro hf4 hs
  have hs := And.intro hx7d hs
  have hs := And.intro hx7e hs
  refine rl [0, 20] hs hK3 ?_
  clear hK3
  refine cnd h hs (fun hs h => ?_) (fun hs h => ?_)
  ·
   refine rg [2] hs ?_
   exact rt h hs hcalm hO
  refine sk [0] hs hK2 ?_
  clear hK2
  refine rg [0, 3] hs ?_
  refine awp_mid (fun e st => ∃ (x3_k12 : Int), Ck e st B Rw L [(3, true, .val (.int .i64 x3_k12))] [] [] (p_Check_k12 n x3_k12 = some r)) ?_ ?_
  ·
   intro K13 hK13
   refine rg [3, 21, 22, 23] hs ?_
   apply awp_block
   refine awp_loop (fun m e st => ∃ (x3_l15 : Int) (x23_l15 : Int), Ck e st B Rw L [(3, true, .val (.int .i64 x3_l15)), (21, true, .list (a0.map avPt) .none), (22, true, .val (.int .i64 ((a0.length : Int)))), (23, true, .val (.int .i64 x23_l15))] [] [] (p_Check_l15 n a0 m x3_l15 x23_l15 = some r)) n ⟨((-1)), 0, ([]), Rw, ef hs, ef hs, hO, h⟩ ?_
   rintro ml15 e st ⟨x3_l15, x23_l15, Xl15, Rl15, rfl, rfl, hO, h⟩ Ul15 Vl15
   cases ml15 with
   | zero => cases h
   | succ ml15 =>
   rw [p_Check_l15] at h
   refine td hN hNR hNL hcalm hO ?_
   refine rg [3, 21, 22, 23, 24] hs ?_
   apply awp_seq; intro K17 hK17
   refine cnd h hs (fun hs h => ?_) (fun hs h => ?_)
   rotate_left
   ·
    refine sx [3] hs hK13 ?_
    exact ⟨x3_l15, ([]), Rl15, ef hs, ef hs, hO, h⟩
   refine sk [3, 21, 22, 23] hs hK17 ?_
   clear hK17
   apply awp_seq; intro K19 hK19
   apply awp_block
   obtain ⟨x21, hx21, h⟩ := bind_some h
   obtain ⟨hx21a, hx21b, hx21c⟩ := idx_some hx21
   have hx21d := getD_map (f := avPt) hx21c
   have hs := And.intro hx21d hs
   refine rg [3, 5, 21, 22, 23] hs ?_
   apply awp_seq; intro K22 hK22
   obtain ⟨y24, hy24, h⟩ := bind_some h
   refine rc 2 [3, 5, 21, 22, 23, 29] hs ?_; intro K23 hK23
   refine callK_p _ (p_Part_valid_at w0 _ _ _ x21 _ hy24) (hv hs) ?_
   refine ne hs hK23 ?_
   clear hK23
   refine cnd h hs (fun hs h => ?_) (fun hs h => ?_)
   ·
    refine rg [2] hs ?_
    exact rt h hs hcalm hO
   refine sk [3, 5, 21, 22, 23] hs hK22 ?_
   clear hK22
   obtain ⟨y27, hy27, h⟩ := bind_some h
   obtain ⟨hg28, h⟩ := guard_some h
   refine rk 2 [3, 21, 22, 23] hs ?_
   refine callK_p _ (p_Part_text_at w0 hP _ _ _ x21 _ hy27) (hv hs) ?_
   refine ne hs hK19 ?_
   clear hK19
   obtain ⟨hg29, h⟩ := guard_some h
   refine rl [3, 21, 22, 23] hs (fun e s => Vl15 ml15 e s (Nat.lt_succ_self _)) ?_
   exact ⟨(x3_l15 + ((y27.size : Int))), (x23_l15 + 1), ([.val (.int .i64 x21.kind) :: (.val (.int .i64 x21.index) :: ([.val (.string x21.name)]))]), Rl15, ef hs, ef hs, hO, h⟩
  ·
   clear h; rintro e st ⟨x3_k12, Xk12, Rk12, rfl, rfl, hO, h⟩
   rw [p_Check_k12] at h
   refine td hN hNR hNL hcalm hO ?_
   apply awp_seq; intro K30 hK30
   refine rg [37] hs ?_
   refine cnd h hs (fun hs h => ?_) (fun hs h => ?_)
   ·
    refine rg [2] hs ?_
    exact rt h hs hcalm hO
   refine sk [] hs hK30 ?_
   clear hK30
   refine rg [2] hs ?_
   exact rt h hs hcalm hO
def s_step_F (n : Nat) (a0 : Ty) (a1 : Part) : Option (Ty × Bool × Int) :=
 (idx ([0, 9, 8, 8, 10]) a1.kind).bind fun x3 =>
 if !(decide (a0.kind = x3)) then
  some ((Ty.mk 0 0 0 0 ([]) ([]) ([]), false, 11))
 else
  if decide (a1.kind = 3) then
   (idx a0.elem 0).bind fun x13 =>
   some ((x13, decide (a0.min = 0), 0))
  else
   if decide (a1.kind = 2) then
    if decide (a0.max ≤ a1.index) then
     some ((Ty.mk 0 0 0 0 ([]) ([]) ([]), false, 2))
    else
     (idx a0.elem 0).bind fun x21 =>
     some ((x21, decide (a0.min ≤ a1.index), 0))
   else
    (s_Field_F n a0 a1.name).bind fun y23 =>
    if !y23.2 then
     some ((Ty.mk 0 0 0 0 ([]) ([]) ([]), false, 21))
    else
     if decide (a1.kind = 4) then
      some ((y23.1.2.2.2.1, decide (1 < ((a0.fields.length : Int))), 0))
     else
      some ((y23.1.2.2.2.1, decide (y23.1.2.2.1 = 2), 0))
theorem s_step_at (w0 : World) (n : Nat) (B : List (List AV)) (Rw : List RowA) (L : List LoopA) (a0 : Ty) (a1 : Part) (r : Ty × Bool × Int) (h : s_step_F n a0 a1 = some r) :
  ACalls Tryz.prog w0 65 [.agg (a0.cs), .agg (.val (.int .i64 a1.kind) :: (.val (.int .i64 a1.index) :: ([.val (.string a1.name)])))] ⟨B, Rw, L⟩ fun x st => x = .tup [.agg (r.1.cs), .val (.bool r.2.1), .val (.int .i64 r.2.2)] ∧ st = ⟨B, Rw, L⟩ := by
 rw [s_step_F] at h
 refine hd [.cell 4 26, .tmp 5, .tmp 6] Tryz.func65 Tryz.ntmps65 fun M0 W0 hN hNR hNL hcalm hu hO hs => ?_
 simp only [argsE]
 refine rg [2, 3, 4] hs ?_
 apply awp_seq; intro K2 hK2
 obtain ⟨x3, hx3a, hx3b, hx3d, h⟩ := ix avI h
 simp only [List.map_cons, List.map_nil, avI_eq] at hx3d
 have hx3n : ([0, 9, 8, 8, 10]).length = 5 := rfl
 first | rw [hx3n] at hx3b | simp only [List.length_cons, List.length_nil, Nat.reduceAdd, Nat.zero_add] at hx3b
 apply awp_region 1 [2, 3, 4, 7]
 rw [evK_succ]; simp +decide only [go_sem, Nat.reduceAdd, hx3d, fillA, fillOk, placeT, List.getElem?_cons_zero, List.getElem?_cons_succ, List.nil_append, List.cons_append, Nat.mul_one]
 (repeat' apply And.intro) <;> first | refine hK2 _ _ ?_ | exact cl
 clear hK2
 apply awp_seq; intro K4 hK4
 have hs := And.intro hx3d hs
 refine rg [2, 3, 4, 17] hs ?_
 refine cnd h hs (fun hs h => ?_) (fun hs h => ?_)
 ·
  have hb6 := hs.1
  apply awp_seq; intro K7 hK7
  apply awp_region 1 [4, 5, 6]
  rw [evK_succ]; simp +decide only [go_sem, Nat.reduceAdd, hx3d, hb6, fillA, fillOk, placeT]
  (repeat' apply And.intro) <;> first | refine hK7 _ _ ?_ | exact cl
  clear hK7
  exact rt h hs hcalm hO
 have hb6 := hs.1
 refine sk [2, 3, 4] hs hK4 ?_
 clear hK4
 apply awp_seq; intro K8 hK8
 refine rg [2, 3, 4, 20] hs ?_
 apply awp_block
 refine rg [2, 3, 4, 20, 21] hs ?_
 refine cnd h hs (fun hs h => ?_) (fun hs h => ?_)
 ·
  have hb11 := hs.1
  apply awp_seq; intro K12 hK12
  obtain ⟨x13, hx13a, hx13b, hx13d, h⟩ := ix avT h
  have hx13e : (a0.elem.map avT).getD 0 .junk = _ := hx13d
  apply awp_any mix [7] [4, 5, 6] (by kernel_rfl) (fun s => ∃ (X : List (List AV)) (rows : List RowA) (c2 : List AV), s = ⟨B ++ ([a0.cs, .val (.int .i64 a1.kind) :: (.val (.int .i64 a1.index) :: ([.val (.string a1.name)])), c2] ++ X), rows, L⟩) 2 (B.length + 3)
  ·
   simp +decide only [go_sem, Nat.reduceAdd]
  ·
   rintro s ⟨X, rows, c2, rfl⟩
   refine ⟨1, ?_⟩
   rw [evK_succ]; simp +decide only [go_sem, Nat.reduceAdd, skipE, hx3d, hb6, hb11, hx13d, hx13e]
   (repeat' apply And.intro) <;> first | rfl | exact cl
  ·
   refine Good.mk [7] (by kernel_rfl) ⟨[], _, _, by first | rfl | simp only [List.append_nil, List.nil_append]⟩ ?_ ?_
   ·
    intro h; exact absurd h (by decide)
   ·
    intro i hi; simp only [List.mem_cons, List.not_mem_nil, or_false] at hi
    subst hi
    ·
     apply good_step rfl rfl ev
     ·
      simp +decide only [go_sem, Nat.reduceAdd, StepOk, hx3d, hb6, hb11, hx13d, hx13e]
      (repeat' apply And.intro) <;> first | rfl | exact cl
     ·
      simp +decide only [go_sem, Nat.reduceAdd, hx3d, hb6, hb11, hx13d, hx13e]
      refine Good.mk [] (by kernel_rfl) ⟨[], _, _, by first | rfl | simp only [List.append_nil, List.nil_append]⟩ ?_ ?_
      ·
       intro _; apply conv_keep [4, 5, 6]; first | (simp +decide only [go_sem, Nat.reduceAdd, hx3d, hb6, hb11, hx13d, hx13e]; done) | (simp +decide only [go_sem, Nat.reduceAdd, hx3d, hb6, hb11, hx13d, hx13e]; rfl)
      ·
       intro i hi; cases hi
  simp +decide only [go_sem, Nat.reduceAdd, hx3d, hb6, hb11, hx13d, hx13e]
  (repeat' apply And.intro) <;> first | refine hK12 _ _ ?_ | exact cl
  clear hK12
  have hs := And.intro hx13d hs
  have hs := And.intro hx13e hs
  exact rt h hs hcalm hO
 have hb11 := hs.1
 refine rg [2, 3, 4, 30] hs ?_
 refine cnd h hs (fun hs h => ?_) (fun hs h => ?_)
 ·
  have hb15 := hs.1
  apply awp_seq; intro K16 hK16
  refine rg [2, 3, 4, 36] hs ?_
  refine cnd h hs (fun hs h => ?_) (fun hs h => ?_)
  ·
   have hb18 := hs.1
   apply awp_seq; intro K19 hK19
   apply awp_region 1 [4, 5, 6]
   rw [evK_succ]; simp +decide only [go_sem, Nat.reduceAdd, hx3d, hb6, hb11, hb15, hb18, fillA, fillOk, placeT]
   (repeat' apply And.intro) <;> first | refine hK19 _ _ ?_ | exact cl
   clear hK19
   exact rt h hs hcalm hO
  have hb18 := hs.1
  refine sk [2, 3, 4] hs hK16 ?_
  clear hK16
  apply awp_seq; intro K20 hK20
  obtain ⟨x21, hx21a, hx21b, hx21d, h⟩ := ix avT h
  have hx21e : (a0.elem.map avT).getD 0 .junk = _ := hx21d
  apply awp_any mix [9] [4, 5, 6] (by kernel_rfl) (fun s => ∃ (X : List (List AV)) (rows : List RowA) (c2 : List AV), s = ⟨B ++ ([a0.cs, .val (.int .i64 a1.kind) :: (.val (.int .i64 a1.index) :: ([.val (.string a1.name)])), c2] ++ X), rows, L⟩) 2 (B.length + 3)
  ·
   simp +decide only [go_sem, Nat.reduceAdd]
  ·
   rintro s ⟨X, rows, c2, rfl⟩
   refine ⟨1, ?_⟩
   rw [evK_succ]; simp +decide only [go_sem, Nat.reduceAdd, skipE, hx3d, hb6, hb11, hb15, hb18, hx21d, hx21e]
   (repeat' apply And.intro) <;> first | rfl | exact cl
  ·
   refine Good.mk [9] (by kernel_rfl) ⟨[], _, _, by first | rfl | simp only [List.append_nil, List.nil_append]⟩ ?_ ?_
   ·
    intro h; exact absurd h (by decide)
   ·
    intro i hi; simp only [List.mem_cons, List.not_mem_nil, or_false] at hi
    subst hi
    ·
     apply good_step rfl rfl ev
     ·
      simp +decide only [go_sem, Nat.reduceAdd, StepOk, hx3d, hb6, hb11, hb15, hb18, hx21d, hx21e]
      (repeat' apply And.intro) <;> first | rfl | exact cl
     ·
      simp +decide only [go_sem, Nat.reduceAdd, hx3d, hb6, hb11, hb15, hb18, hx21d, hx21e]
      refine Good.mk [] (by kernel_rfl) ⟨[], _, _, by first | rfl | simp only [List.append_nil, List.nil_append]⟩ ?_ ?_
      ·
       intro _; apply conv_keep [4, 5, 6]; first | (simp +decide only [go_sem, Nat.reduceAdd, hx3d, hb6, hb11, hb15, hb18, hx21d, hx21e]; done) | (simp +decide only [go_sem, Nat.reduceAdd, hx3d, hb6, hb11, hb15, hb18, hx21d, hx21e]; rfl)
      ·
       intro i hi; cases hi
  simp +decide only [go_sem, Nat.reduceAdd, hx3d, hb6, hb11, hb15, hb18, hx21d, hx21e]
  (repeat' apply And.intro) <;> first | refine hK20 _ _ ?_ | exact cl
  clear hK20
  have hs := And.intro hx21d hs
  have hs := And.intro hx21e hs
  exact rt h hs hcalm hO
 have hb15 := hs.1
 refine sk [2, 3, 4] hs hK8 ?_
 clear hK8
 obtain ⟨y23, hy23, h⟩ := bind_some h
 refine rc 2 [2, 3, 4, 8, 9] hs ?_; intro K22 hK22
 refine callK_p _ (s_Field_at w0 n _ _ _ a0 a1.name _ hy23) (hv hs) ?_
 refine ne hs hK22 ?_
 clear hK22
 apply awp_seq; intro K24 hK24
 refine rg [2, 3, 4, 8, 55] hs ?_
 refine cnd h hs (fun hs h => ?_) (fun hs h => ?_)
 ·
  have hb26 := hs.1
  apply awp_seq; intro K27 hK27
  apply awp_region 1 [4, 5, 6]
  rw [evK_succ]; simp +decide only [go_sem, Nat.reduceAdd, hx3d, hb6, hb11, hb15, hb26, fillA, fillOk, placeT]
  (repeat' apply And.intro) <;> first | refine hK27 _ _ ?_ | exact cl
  clear hK27
  exact rt h hs hcalm hO
 have hb26 := hs.1
 refine sk [2, 3, 4, 8] hs hK24 ?_
 clear hK24
 apply awp_seq; intro K28 hK28
 refine rg [2, 4, 8, 59] hs ?_
 refine cnd h hs (fun hs h => ?_) (fun hs h => ?_)
 ·
  have hb30 := hs.1
  apply awp_seq; intro K31 hK31
  apply awp_any mix [6] [4, 5, 6] (by kernel_rfl) (fun s => ∃ (X : List (List AV)) (rows : List RowA) (c2 : List AV), s = ⟨B ++ ([a0.cs, .val (.int .i64 a1.kind) :: (.val (.int .i64 a1.index) :: ([.val (.string a1.name)])), c2, .val (.int .i64 y23.1.1) :: (.val (.string y23.1.2.1) :: (.val (.int .i64 y23.1.2.2.1) :: ((y23.1.2.2.2.1.cs) ++ ([.list (y23.1.2.2.2.2.map avV) .none]))))] ++ X), rows, L⟩) 2 (B.length + 4)
  ·
   simp +decide only [go_sem, Nat.reduceAdd]
  ·
   rintro s ⟨X, rows, c2, rfl⟩
   refine ⟨1, ?_⟩
   rw [evK_succ]; simp +decide only [go_sem, Nat.reduceAdd, skipE, hx3d, hb6, hb11, hb15, hb26, hb30]
   (repeat' apply And.intro) <;> first | rfl | exact cl
  ·
   refine Good.mk [6] (by kernel_rfl) ⟨[], _, _, by first | rfl | simp only [List.append_nil, List.nil_append]⟩ ?_ ?_
   ·
    intro h; exact absurd h (by decide)
   ·
    intro i hi; simp only [List.mem_cons, List.not_mem_nil, or_false] at hi
    subst hi
    ·
     apply good_step rfl rfl ev
     ·
      simp +decide only [go_sem, Nat.reduceAdd, StepOk, hx3d, hb6, hb11, hb15, hb26, hb30]
      (repeat' apply And.intro) <;> first | rfl | exact cl
     ·
      simp +decide only [go_sem, Nat.reduceAdd, hx3d, hb6, hb11, hb15, hb26, hb30]
      refine Good.mk [] (by kernel_rfl) ⟨[], _, _, by first | rfl | simp only [List.append_nil, List.nil_append]⟩ ?_ ?_
      ·
       intro _; apply conv_keep [4, 5, 6]; first | (simp +decide only [go_sem, Nat.reduceAdd, hx3d, hb6, hb11, hb15, hb26, hb30]; done) | (simp +decide only [go_sem, Nat.reduceAdd, hx3d, hb6, hb11, hb15, hb26, hb30]; rfl)
      ·
       intro i hi; cases hi
  simp +decide only [go_sem, Nat.reduceAdd, hx3d, hb6, hb11, hb15, hb26, hb30]
  (repeat' apply And.intro) <;> first | refine hK31 _ _ ?_ | exact cl
  clear hK31
  exact rt h hs hcalm hO
 have hb30 := hs.1
 refine sk [4, 8] hs hK28 ?_
 clear hK28
 apply awp_seq; intro K32 hK32
 apply awp_any mix [5] [4, 5, 6] (by kernel_rfl) (fun s => ∃ (X : List (List AV)) (rows : List RowA) (c2 : List AV), s = ⟨B ++ ([a0.cs, .val (.int .i64 a1.kind) :: (.val (.int .i64 a1.index) :: ([.val (.string a1.name)])), c2, .val (.int .i64 y23.1.1) :: (.val (.string y23.1.2.1) :: (.val (.int .i64 y23.1.2.2.1) :: ((y23.1.2.2.2.1.cs) ++ ([.list (y23.1.2.2.2.2.map avV) .none]))))] ++ X), rows, L⟩) 2 (B.length + 4)
 ·
  simp +decide only [go_sem, Nat.reduceAdd]
 ·
  rintro s ⟨X, rows, c2, rfl⟩
  refine ⟨1, ?_⟩
  rw [evK_succ]; simp +decide only [go_sem, Nat.reduceAdd, skipE, hx3d, hb6, hb11, hb15, hb26, hb30]
  (repeat' apply And.intro) <;> first | rfl | exact cl
 ·
  refine Good.mk [5] (by kernel_rfl) ⟨[], _, _, by first | rfl | simp only [List.append_nil, List.nil_append]⟩ ?_ ?_
  ·
   intro h; exact absurd h (by decide)
  ·
   intro i hi; simp only [List.mem_cons, List.not_mem_nil, or_false] at hi
   subst hi
   ·
    apply good_step rfl rfl ev
    ·
     simp +decide only [go_sem, Nat.reduceAdd, StepOk, hx3d, hb6, hb11, hb15, hb26, hb30]
     (repeat' apply And.intro) <;> first | rfl | exact cl
    ·
     simp +decide only [go_sem, Nat.reduceAdd, hx3d, hb6, hb11, hb15, hb26, hb30]
     refine Good.mk [] (by kernel_rfl) ⟨[], _, _, by first | rfl | simp only [List.append_nil, List.nil_append]⟩ ?_ ?_
     ·
      intro _; apply conv_keep [4, 5, 6]; first | (simp +decide only [go_sem, Nat.reduceAdd, hx3d, hb6, hb11, hb15, hb26, hb30]; done) | (simp +decide only [go_sem, Nat.reduceAdd, hx3d, hb6, hb11, hb15, hb26, hb30]; rfl)
     ·
      intro i hi; cases hi
 simp +decide only [go_sem, Nat.reduceAdd, hx3d, hb6, hb11, hb15, hb26, hb30]
 (repeat' apply And.intro) <;> first | refine hK32 _ _ ?_ | exact cl
 clear hK32
 exact rt h hs hcalm hO
def s_At_k16 (n : Nat)  (x5_k16 : Bool) (b1_k16 : Ty) : Option (Ty × Bool × Int) :=
 (s_Clone_F n b1_k16).bind fun y34 =>
 some ((y34, x5_k16, 0))
def s_At_l19 (n : Nat) (a1 : List Part) : Nat → Bool → Int → Ty → Option (Ty × Bool × Int)
 | 0, _, _, _ => none
 | m + 1, x5_l19, x29_l19, b1_l19 =>
  if decide (x29_l19 < ((a1.length : Int))) then
   (idx a1 x29_l19).bind fun x25 =>
   (s_step_F n b1_l19 x25).bind fun y27 =>
   if !(decide (y27.2.2 = 0)) then
    some ((Ty.mk 0 0 0 0 ([]) ([]) ([]), false, y27.2.2))
   else
    if I64 (x29_l19 + 1) then
     (s_At_l19 n a1 m) (x5_l19 || y27.2.1) (x29_l19 + 1) y27.1
    else none
  else
   s_At_k16 n x5_l19 b1_l19
def s_At_F (n : Nat) (a0 : Ty) (a1 : List Part) : Option (Ty × Bool × Int) :=
 (s_Check_F n a0).bind fun y4 =>
 if !(decide (y4 = 0)) then
  some ((Ty.mk 0 0 0 0 ([]) ([]) ([]), false, y4))
 else
  (p_Check_F n a1).bind fun y10 =>
  if !(decide (y10 = 0)) then
   some ((Ty.mk 0 0 0 0 ([]) ([]) ([]), false, y10))
  else
   s_At_l19 n a1 n false 0 a0
theorem s_At_at (w0 : World) (hP : Pow10 w0) (hT : Lib.Utf8Tabs 0 1 w0) (n : Nat) (B : List (List AV)) (Rw : List RowA) (L : List LoopA) (a0 : Ty) (a1 : List Part) (r : Ty × Bool × Int) (h : s_At_F n a0 a1 = some r) :
  ACalls Tryz.prog w0 26 [.agg (a0.cs), .list (a1.map avPt) .none] ⟨B, Rw, L⟩ fun x st => x = .tup [.agg (r.1.cs), .val (.bool r.2.1), .val (.int .i64 r.2.2)] ∧ st = ⟨B, Rw, L⟩ := by
 rw [s_At_F] at h
 refine hd [.cell 4 26, .tmp 5, .tmp 6] Tryz.func26 Tryz.ntmps26 fun M0 W0 hN hNR hNL hcalm hu hO hs => ?_
 simp only [argsE]
 refine rg [1, 2, 4, 5] hs ?_
 apply awp_seq; intro K2 hK2
 obtain ⟨y4, hy4, h⟩ := bind_some h
 refine rc 2 [1, 2, 4, 5, 7] hs ?_; intro K3 hK3
 refine callK_p _ (s_Check_at w0 hT n _ _ _ a0 _ hy4) (hv hs) ?_
 refine ne hs hK3 ?_
 clear hK3
 refine rg [1, 2, 4, 5, 7, 17] hs ?_
 refine cnd h hs (fun hs h => ?_) (fun hs h => ?_)
 ·
  have hb6 := hs.1
  apply awp_seq; intro K7 hK7
  apply awp_region 1 [4, 5, 6]
  rw [evK_succ]; simp +decide only [go_sem, Nat.reduceAdd, hb6, fillA, fillOk, placeT]
  (repeat' apply And.intro) <;> first | refine hK7 _ _ ?_ | exact cl
  clear hK7
  exact rt h hs hcalm hO
 have hb6 := hs.1
 refine sk [1, 2, 4, 5] hs hK2 ?_
 clear hK2
 apply awp_seq; intro K8 hK8
 obtain ⟨y10, hy10, h⟩ := bind_some h
 refine rc 2 [1, 2, 4, 5, 8] hs ?_; intro K9 hK9
 refine callK_p _ (p_Check_at w0 hP n _ _ _ a1 _ hy10) (hv hs) ?_
 refine ne hs hK9 ?_
 clear hK9
 refine rg [1, 2, 4, 5, 8, 23] hs ?_
 refine cnd h hs (fun hs h => ?_) (fun hs h => ?_)
 ·
  have hb12 := hs.1
  apply awp_seq; intro K13 hK13
  apply awp_region 1 [4, 5, 6]
  rw [evK_succ]; simp +decide only [go_sem, Nat.reduceAdd, hb6, hb12, fillA, fillOk, placeT]
  (repeat' apply And.intro) <;> first | refine hK13 _ _ ?_ | exact cl
  clear hK13
  exact rt h hs hcalm hO
 have hb12 := hs.1
 refine sk [1, 2, 4, 5] hs hK8 ?_
 clear hK8
 refine rg [1, 4, 5] hs ?_
 refine awp_mid (fun e st => ∃ (x5_k16 : Bool) (b1_k16 : Ty) (cb1_k16 : List AV), Ck e st B Rw L [(4, true, .box (B.length + 1) 0), (5, true, .val (.bool x5_k16))] [a0.cs, cb1_k16] [] (cb1_k16.map AV.pubCell = b1_k16.cs ∧ s_At_k16 n x5_k16 b1_k16 = some r)) ?_ ?_
 ·
  intro K17 hK17
  refine rg [4, 5, 27, 28, 29] hs ?_
  apply awp_block
  refine awp_loop (fun m e st => ∃ (x5_l19 : Bool) (x29_l19 : Int) (b1_l19 : Ty) (cb1_l19 : List AV), Ck e st B Rw L [(4, true, .box (B.length + 1) 0), (5, true, .val (.bool x5_l19)), (27, true, .list (a1.map avPt) .none), (28, true, .val (.int .i64 ((a1.length : Int)))), (29, true, .val (.int .i64 x29_l19))] [a0.cs, cb1_l19] [] (cb1_l19.map AV.pubCell = b1_l19.cs ∧ s_At_l19 n a1 m x5_l19 x29_l19 b1_l19 = some r)) n ⟨false, 0, a0, _, ([]), Rw, ef hs, ef hs, hO, ef hs, h⟩ ?_
  rintro ml19 e st ⟨x5_l19, x29_l19, b1_l19, cb1_l19, Xl19, Rl19, rfl, rfl, hO, hr0, h⟩ Ul19 Vl19
  cases ml19 with
  | zero => cases h
  | succ ml19 =>
  rw [s_At_l19] at h
  refine awp_pub_cells (B.length + 1) (by first | rfl | (simp only [box_own, box_own0, box_sown, box_sown0]; rfl)) hr0 ?_; simp +decide only [go_sem, Nat.reduceAdd]
  show awp _ _ _ _ _ _ _ _ [(4, true, .box (B.length + 1) 0), (5, true, .val (.bool x5_l19)), (27, true, .list (a1.map avPt) .none), (28, true, .val (.int .i64 ((a1.length : Int)))), (29, true, .val (.int .i64 x29_l19))] ⟨B ++ ([a0.cs, b1_l19.cs] ++ Xl19), Rl19, L⟩
  refine td hN hNR hNL hcalm hO ?_
  refine rg [4, 5, 27, 28, 29, 30] hs ?_
  apply awp_seq; intro K21 hK21
  refine cnd h hs (fun hs h => ?_) (fun hs h => ?_)
  rotate_left
  ·
   have hb22 := hs.1
   refine sx [4, 5] hs hK17 ?_
   exact ⟨x5_l19, b1_l19, _, ([]), Rl19, ef hs, ef hs, hO, ef hs, h⟩
  have hb22 := hs.1
  refine sk [4, 5, 27, 28, 29] hs hK21 ?_
  clear hK21
  apply awp_seq; intro K23 hK23
  apply awp_block
  obtain ⟨x25, hx25, h⟩ := bind_some h
  obtain ⟨hx25a, hx25b, hx25c⟩ := idx_some hx25
  have hx25d := getD_map (f := avPt) hx25c
  have hs := And.intro hx25d hs
  refine rg [4, 5, 10, 27, 28, 29] hs ?_
  obtain ⟨y27, hy27, h⟩ := bind_some h
  refine rc 2 [4, 5, 11, 12, 13, 27, 28, 29] hs ?_; intro K26 hK26
  refine callK_p _ (s_step_at w0 n _ _ _ b1_l19 x25 _ hy27) (hv hs) ?_
  refine ne hs hK26 ?_
  clear hK26
  apply awp_seq; intro K28 hK28
  refine rg [4, 5, 11, 12, 13, 27, 28, 29, 41] hs ?_
  refine cnd h hs (fun hs h => ?_) (fun hs h => ?_)
  ·
   have hb30 := hs.1
   apply awp_seq; intro K31 hK31
   apply awp_region 1 [4, 5, 6]
   rw [evK_succ]; simp +decide only [go_sem, Nat.reduceAdd, hb6, hb12, hb22, hx25d, hb30, fillA, fillOk, placeT]
   (repeat' apply And.intro) <;> first | refine hK31 _ _ ?_ | exact cl
   clear hK31
   exact rt h hs hcalm hO
  have hb30 := hs.1
  refine sk [4, 5, 11, 12, 27, 28, 29] hs hK28 ?_
  clear hK28
  refine rl [4, 5, 27, 28, 29] hs hK23 ?_
  clear hK23
  obtain ⟨hg32, h⟩ := guard_some h
  refine rl [4, 5, 27, 28, 29] hs (fun e s => Vl19 ml19 e s (Nat.lt_succ_self _)) ?_
  exact ⟨(x5_l19 || y27.2.1), (x29_l19 + 1), y27.1, _, ([.val (.int .i64 x25.kind) :: (.val (.int .i64 x25.index) :: ([.val (.string x25.name)])), y27.1.cs]), Rl19, ef hs, ef hs, hO, ef hs, h⟩
 ·
  clear h; rintro e st ⟨x5_k16, b1_k16, cb1_k16, Xk16, Rk16, rfl, rfl, hO, hr0, h⟩
  rw [s_At_k16] at h
  refine awp_pub_cells (B.length + 1) (by first | rfl | (simp only [box_own, box_own0, box_sown, box_sown0]; rfl)) hr0 ?_; simp +decide only [go_sem, Nat.reduceAdd]
  show awp _ _ _ _ _ _ _ _ [(4, true, .box (B.length + 1) 0), (5, true, .val (.bool x5_k16))] ⟨B ++ ([a0.cs, b1_k16.cs] ++ Xk16), Rk16, L⟩
  refine td hN hNR hNL hcalm hO ?_
  obtain ⟨y34, hy34, h⟩ := bind_some h
  refine rc 2 [4, 5, 6] hs ?_; intro K33 hK33
  refine callK_p _ (s_Clone_at w0 n _ _ _ b1_k16 _ hy34) (hv hs) ?_
  refine ne hs hK33 ?_
  clear hK33
  exact rt h hs hcalm hO
def v_Bytes_F (a0 : ByteArray) : Vl :=
 Vl.mk 5 0 0 a0 ([]) ([])
theorem v_Bytes_at (w0 : World) (B : List (List AV)) (Rw : List RowA) (L : List LoopA) (a0 : ByteArray) (r : Vl) (h : v_Bytes_F a0 = r) :
  ACalls Tryz.prog w0 107 [.val (.string a0)] ⟨B, Rw, L⟩ fun x st => x = .agg (r.cs) ∧ st = ⟨B, Rw, L⟩ := by
 rw [v_Bytes_F] at h
 refine hd [.cell 2 34] Tryz.func107 Tryz.ntmps107 fun M0 W0 hN hNR hNL hcalm hu hO hs => ?_
 simp only [argsE]
 refine rg [0, 2] hs ?_
 apply awp_seq; intro K2 hK2
 apply awp_region 1 [2]
 rw [evK_succ]; simp +decide only [go_sem, Nat.reduceAdd, fillA, fillOk, placeT]
 (repeat' apply And.intro) <;> first | refine hK2 _ _ ?_ | exact cl
 clear hK2
 apply awp_ret; simp +decide only [go_sem, Nat.reduceAdd]
 subst h
 first | refine fin_q0 hcalm rfl hO.pre ev ⟨?_, rfl⟩ | refine fin_q hcalm rfl hO.pre ev ⟨?_, rfl⟩
 first | rfl | (simp +decide only [go_sem, Nat.reduceAdd]; done) | (simp +decide only [go_sem, Nat.reduceAdd, Vl.cs, Ty.cs]; done)
theorem v_Bytes_at' (w0 : World) (B : List (List AV)) (Rw : List RowA) (L : List LoopA) (a0 : ByteArray) :
  ACalls Tryz.prog w0 107 [.val (.string a0)] ⟨B, Rw, L⟩ fun x st => x = .agg ((v_Bytes_F a0).cs) ∧ st = ⟨B, Rw, L⟩ := v_Bytes_at w0 B Rw L a0 _ rfl
def v_List_F (n : Nat) (a0 : List Vl) : Option Vl :=
 (v_Clone_F n (Vl.mk 8 0 0 ((⟨#[]⟩ : ByteArray)) a0 ([]))).bind fun y3 =>
 some (y3)
theorem v_List_at (w0 : World) (n : Nat) (B : List (List AV)) (Rw : List RowA) (L : List LoopA) (a0 : List Vl) (r : Vl) (h : v_List_F n a0 = some r) :
  ACalls Tryz.prog w0 108 [.list (a0.map avV) .none] ⟨B, Rw, L⟩ fun x st => x = .agg (r.cs) ∧ st = ⟨B, Rw, L⟩ := by
 rw [v_List_F] at h
 refine hd [.cell 2 34] Tryz.func108 Tryz.ntmps108 fun M0 W0 hN hNR hNL hcalm hu hO hs => ?_
 simp only [argsE]
 refine rg [0, 2] hs ?_
 apply awp_seq; intro K2 hK2
 obtain ⟨y3, hy3, h⟩ := bind_some h
 apply awp_region 2 [2]
 rw [evK_succ]; simp +decide only [go_sem, Nat.reduceAdd, fillA, fillOk, placeT]
 (repeat' apply And.intro) <;> first | refine callK_p _ (v_Clone_at w0 n _ _ _ (Vl.mk 8 0 0 ((⟨#[]⟩ : ByteArray)) a0 ([])) _ hy3) (by first | rfl | (simp +decide only [go_sem, Nat.reduceAdd, fillA, fillOk, placeT]; done) | (simp +decide only [go_sem, Nat.reduceAdd, Vl.cs, Ty.cs, fillA, fillOk, placeT]; done)) ?_ | exact cl
 rw [evK_succ]; simp +decide only [go_sem, Nat.reduceAdd, fillA, fillOk, placeT]
 (repeat' apply And.intro) <;> first | refine hK2 _ _ ?_ | exact cl
 clear hK2
 exact rt h hs hcalm hO
def sl_ContainsFunc_Field_F (n : Nat) (a0 : List (ByteArray × Vl)) (a1 : (ByteArray × Vl) → Option Bool) : Option Bool :=
 (sl_IndexFunc_Field_F n a0 a1).bind fun y3 =>
 some (decide (0 ≤ y3))
theorem sl_ContainsFunc_Field_at (w0 : World) (n : Nat) (B : List (List AV)) (Rw : List RowA) (L : List LoopA) (a0 : List (ByteArray × Vl)) (fa1 : FuncId) (ca1 : List AV) (a1 : (ByteArray × Vl) → Option Bool) (ha1 : ∀ (x0 : ByteArray × Vl) r, a1 x0 = some r → ∀ B' rows, B <+: B' → Rw <+: rows → ACalls Tryz.prog w0 fa1 ([.agg (.val (.string x0.1) :: (x0.2.cs))] ++ ca1) ⟨B', rows, L⟩ fun v s => v = .val (.bool r) ∧ s = ⟨B', rows, L⟩) (r : Bool) (h : sl_ContainsFunc_Field_F n a0 a1 = some r) :
  ACalls Tryz.prog w0 166 [.list (a0.map avF) .none, .clo fa1 ca1] ⟨B, Rw, L⟩ fun x st => x = .val (.bool r) ∧ st = ⟨B, Rw, L⟩ := by
 rw [sl_ContainsFunc_Field_F] at h
 refine hd [.tmp 4] Tryz.func166 Tryz.ntmps166 fun M0 W0 hN hNR hNL hcalm hu hO hs => ?_
 simp only [argsE]
 have hU_a1 := under_caps (hu (.clo fa1 ca1) (by simp))
 refine rg [0, 1] hs ?_
 obtain ⟨y3, hy3, h⟩ := bind_some h
 refine rc 2 [4] hs ?_; intro K2 hK2
 refine callK_p _ (sl_IndexFunc_Field_at w0 n _ _ _ a0 fa1 ca1 a1 (fun x0 r hx B'' rows'' q1 q2 => ha1 x0 r hx B'' rows'' (List.IsPrefix.trans (by first | exact List.prefix_append _ _ | exact List.prefix_refl _) q1) (hO.pre.trans q2)) _ hy3) (hv hs) ?_
 refine ne hs hK2 ?_
 clear hK2
 exact rt h hs hcalm hO
def v_Record_1_F (a0 : ByteArray × Vl) (a1 : ByteArray × Vl) : Bool :=
 (sEq a0.1 a1.1) && (!(v_IsNull_F a0.2))
theorem v_Record_1_at (w0 : World) (B : List (List AV)) (Rw : List RowA) (L : List LoopA) (a0 : ByteArray × Vl) (la1 : Nat) (a1 : ByteArray × Vl) (hla1 : B[la1]? = some (.val (.string a1.1) :: (a1.2.cs))) (r : Bool) (h : v_Record_1_F a0 a1 = r) :
  ACalls Tryz.prog w0 167 [.agg (.val (.string a0.1) :: (a0.2.cs)), .box la1 0] ⟨B, Rw, L⟩ fun x st => x = .val (.bool r) ∧ st = ⟨B, Rw, L⟩ := by
 rw [v_Record_1_F] at h
 refine hd [.tmp 3] Tryz.func167 Tryz.ntmps167 fun M0 W0 hN hNR hNL hcalm hu hO hs => ?_
 simp only [argsE]
 have hltla1 := (List.getElem?_eq_some_iff.1 hla1).1
 have hs := And.intro (ptr_of hla1) hs
 refine rg [1, 2] hs ?_
 refine rc 2 [3] hs ?_; intro K2 hK2
 refine callK_p_if _ (fun _ => v_IsNull_at' w0 _ _ _ a0.2) (hv hs) ?_
 refine ne hs hK2 ?_
 clear hK2
 apply awp_ret; simp +decide only [go_sem, Nat.reduceAdd, ptr_of hla1]
 subst h
 first | refine fin_q0 hcalm rfl hO.pre ev ⟨?_, rfl⟩ | refine fin_q hcalm rfl hO.pre ev ⟨?_, rfl⟩
 first | rfl | (simp +decide only [go_sem, Nat.reduceAdd, ptr_of hla1]; done) | (simp +decide only [go_sem, Nat.reduceAdd, Vl.cs, Ty.cs, ptr_of hla1]; done)
theorem v_Record_1_at' (w0 : World) (B : List (List AV)) (Rw : List RowA) (L : List LoopA) (a0 : ByteArray × Vl) (la1 : Nat) (a1 : ByteArray × Vl) (hla1 : B[la1]? = some (.val (.string a1.1) :: (a1.2.cs))) :
  ACalls Tryz.prog w0 167 [.agg (.val (.string a0.1) :: (a0.2.cs)), .box la1 0] ⟨B, Rw, L⟩ fun x st => x = .val (.bool (v_Record_1_F a0 a1)) ∧ st = ⟨B, Rw, L⟩ := v_Record_1_at w0 B Rw L a0 la1 a1 hla1 _ rfl
end Go.Proofs.YtggimoedcamonaaGreatDoor
