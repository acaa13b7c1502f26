/-
  Part 5 of the proof: rules and walks that the claim's last text uses.
-/
import Derived.Test.YtggimoedcamonaaGreatDoorSa4
namespace Go.Proofs.YtggimoedcamonaaGreatDoor
open Go Go.RowKit Go.Ev
set_option linter.unusedVariables false
set_option linter.unusedSimpArgs false
def vWalk : List (Nat × Vl) → Int → Int
  | [], _ => 0
  | p :: r, c => if 4096 < c + 1 then 9 else if 8 < (p.1 : Int) then 23 else if vOwn p.2 = 0 then vWalk r (c + 1) else vOwn p.2
def vChk (v : Vl) : Int := vWalk (preV 1 v) 0
theorem parts_mem {v x : Vl} (h : x ∈ partsV v) : x ∈ v.list ∨ ∃ p ∈ v.fields, p.2 = x := by
  unfold partsV at h
  split at h
  · exact .inl h
  · split at h
    · obtain ⟨p, hp, rfl⟩ := List.mem_map.1 h; exact .inr ⟨p, hp, rfl⟩
    · simp at h
theorem parts_size {v x : Vl} (h : x ∈ partsV v) : x.size < v.size := by
  rcases parts_mem h with h | ⟨p, hp, rfl⟩
  · exact v.list_size x h
  · exact v.field_size p hp
theorem parts_ok {v x : Vl} (hv : v.ok) (h : x ∈ partsV v) : x.ok := by
  obtain ⟨_, o2, o3⟩ := v.ok_eq.1 hv
  rcases parts_mem h with h | ⟨p, hp, rfl⟩
  · exact o2 x h
  · exact (o3 p hp).2
theorem pre_ok : ∀ (k : Nat) (v : Vl) (lv : Nat), v.size ≤ k → v.ok → ∀ p ∈ preV lv v, p.2.ok ∧ p.2.size ≤ v.size
  | 0, v, lv, h, hv, p, hp => absurd h (by have := v.size_eq; omega)
  | k + 1, v, lv, h, hv, p, hp => by
    rw [preV_eq] at hp
    rcases List.mem_cons.1 hp with rfl | hp
    · exact ⟨hv, Nat.le_refl _⟩
    · obtain ⟨x, hx, hp⟩ := List.mem_flatMap.1 hp
      have := parts_size hx
      obtain ⟨h1, h2⟩ := pre_ok k x (lv + 1) (by omega) (parts_ok hv hx) p hp
      exact ⟨h1, by omega⟩
theorem fields_lt (v : Vl) : v.fields.length < v.size := by have := sizeFs_len v.fields; have := v.size_eq; omega
theorem vcheck_r7 (n : Nat) (hn : 3 ≤ n) : ∀ (l : List (Nat × Vl)) (c : Int), (∀ p ∈ l, p.2.ok ∧ p.2.size ≤ 1000000000 ∧ p.2.size < n) → 0 ≤ c → c ≤ 4096 → v_Check_r7 n l c = some (vWalk l c)
  | [], c, _, _, _ => rfl
  | p :: r, c, hl, h1, h2 => by
    obtain ⟨o1, o2, o3⟩ := hl p (List.mem_cons_self ..)
    have := fields_lt p.2
    rw [show p = (p.1, p.2) from rfl, r7_step n hn p.1 p.2 r c (by omega) (by omega) o1, if_pos (by unfold I64; omega), vWalk]
    simp only
    split
    · rfl
    · split
      · rfl
      · split
        · exact vcheck_r7 n hn r (c + 1) (fun q hq => hl q (List.mem_cons_of_mem _ hq)) (by omega) (by omega)
        · rfl
theorem vCheck_eq (n : Nat) (v : Vl) (hn : v.size + 3 ≤ n) (hs : v.size < 1048576) (hv : v.ok) : v_Check_F n v = some (vChk v) := by
  rw [v_Check_F, if_pos hs]
  exact vcheck_r7 n (by omega) _ 0 (fun p hp => by obtain ⟨h1, h2⟩ := pre_ok v.size v 1 (Nat.le_refl _) hv p hp; exact ⟨h1, by omega, by omega⟩) (by omega) (by omega)


theorem r4p_l21 (n : Nat) (v : Vl) (hs : v.fields.length ≤ 1000000000) : ∀ (k m i : Nat) (x : List Vl), i + k = v.fields.length → k < m → x.length = i → r4_Parts_l21 n v m x i = some (x ++ (v.fields.drop i).map (·.2))
  | k, 0, i, _, _, h, _ => absurd h (Nat.not_lt_zero _)
  | 0, m + 1, i, x, hi, _, _ => by
    rw [r4_Parts_l21, lt_int, decide_eq_false (by omega)]
    simp only [Bool.false_eq_true, if_false, r4_Parts_k4]
    rw [List.drop_eq_nil_of_le (by omega), List.map_nil, List.append_nil]
  | k + 1, m + 1, i, x, hi, hm, hx => by
    have hlt : i < v.fields.length := by omega
    rw [r4_Parts_l21, lt_int, decide_eq_true hlt]
    simp only [if_true, idx_nat hlt, Option.bind_some]
    rw [if_pos (by omega), if_pos (I64_succ (by omega))]
    have ih := r4p_l21 n v hs k m (i + 1) (x ++ [v.fields[i].2]) (by omega) (by omega) (by simp [hx])
    rw [List.drop_eq_getElem_cons hlt, List.map_cons]
    rw [List.append_assoc] at ih
    exact ih
theorem r4Parts_eq (n : Nat) (v : Vl) (hn : v.size ≤ n) (hs : v.size ≤ 1000000000) : r4_Parts_F n v = some (partsV v) := by
  have a := sizeVs_len v.list
  have b := sizeFs_len v.fields
  have c := v.size_eq
  have h8 : ∀ b : Bool, b = true → r4_Parts_k8 n v b = some v.list := fun b hb => by
    rw [r4_Parts_k8, if_pos hb, if_pos (by omega)]; rfl
  rw [r4_Parts_F, partsV]
  by_cases h1 : v.kind = 8
  · rw [if_pos (decide_eq_true h1), h8 true rfl, if_pos (.inl h1)]
  · rw [if_neg (by rw [decide_eq_true_eq]; exact h1)]
    by_cases h2 : v.kind = 10
    · rw [h8 _ (decide_eq_true h2), if_pos (.inr h2)]
    · rw [if_neg (by omega), r4_Parts_k8, if_neg (by rw [decide_eq_true_eq]; exact h2)]
      by_cases h3 : v.kind = 9
      · rw [if_pos (decide_eq_true h3), if_pos h3]
        have := r4p_l21 n v (by omega) v.fields.length n 0 [] (by omega) (by omega) rfl
        rw [List.drop_zero, List.nil_append] at this
        exact this
      · rw [if_neg (by rw [decide_eq_true_eq]; exact h3), if_neg h3]; rfl
theorem r4c_l38 (n : Nat) (ag : List Itm → Int → Option Int) (c : Int) (it : Itm) (ys : List Vl) (h1 : I64 (it.level + 1)) (h2 : I64 (c + 1)) : ∀ (k m : Nat) (s : List Itm), k ≤ ys.length → k < m → s.length + k ≤ 1000000000 →
    r4_Check_l38 n ag c it ys m s ((k : Int) - 1) = ag (s ++ ((ys.take k).map fun y => Itm.mk y (it.level + 1)).reverse) (c + 1)
  | k, 0, s, _, h, _ => absurd h (Nat.not_lt_zero _)
  | 0, m + 1, s, _, _, _ => by
    rw [r4_Check_l38, if_neg (by simp), r4_Check_k13, if_pos h2]
    simp
  | k + 1, m + 1, s, hk, hm, hs2 => by
    have hlt : k < ys.length := by omega
    rw [r4_Check_l38, if_pos (by simp), int_pred, idx_nat hlt]
    simp only [Option.bind_some]
    rw [if_pos h1, if_pos (by omega), if_pos (by unfold I64; omega), r4c_l38 n ag c it ys h1 h2 k m _ (by omega) (by omega) (by simp; omega)]
    rw [List.take_succ_eq_append_getElem hlt, List.map_append, List.reverse_append, List.append_assoc]
    rfl
def flatS (s : List Itm) : List (Nat × Vl) := s.reverse.flatMap fun it => preV it.level.toNat it.v
def szS (s : List Itm) : Nat := (s.map fun it => it.v.size).sum
theorem szS_app (s t : List Itm) : szS (s ++ t) = szS s + szS t := by simp [szS]
theorem szS_rev (s : List Itm) : szS s.reverse = szS s := by unfold szS; rw [List.map_reverse, List.sum_reverse]
theorem szVs_sum : ∀ l : List Vl, sizeVs l = (l.map Vl.size).sum
  | [] => rfl
  | v :: r => by simp [sizeVs, szVs_sum r]
theorem szFs_sum : ∀ l : List (ByteArray × Vl), sizeFs l = (l.map fun p => p.2.size).sum
  | [] => rfl
  | (_, v) :: r => by simp [sizeFs, szFs_sum r]
theorem parts_sum (v : Vl) : ((partsV v).map Vl.size).sum < v.size := by
  have c := v.size_eq
  unfold partsV
  split
  · rw [← szVs_sum]; omega
  · split
    · rw [List.map_map]
      have := szFs_sum v.fields
      have e : (v.fields.map (Vl.size ∘ fun x => x.2)).sum = sizeFs v.fields := this.symm
      omega
    · simp; omega
theorem szS_parts (l : List Vl) (z : Int) : szS (l.map fun y => Itm.mk y z) = (l.map Vl.size).sum := by
  unfold szS; rw [List.map_map]; rfl
theorem szS_len : ∀ s : List Itm, s.length ≤ szS s
  | [] => Nat.le_refl _
  | it :: r => by have := szS_len r; have := it.v.size_eq; simp [szS] at *; omega
theorem r4c_l8 (n : Nat) : ∀ (m : Nat) (s : List Itm) (c : Int), szS s < m → szS s ≤ 1000000000 → (∀ it ∈ s, 0 ≤ it.level ∧ it.level ≤ 9 ∧ it.v.ok ∧ it.v.size < n) → 0 ≤ c → c ≤ 4096 → r4_Check_l8 n m s c = some (vWalk (flatS s) c)
  | 0, s, c, h, _, _, _, _ => absurd h (Nat.not_lt_zero _)
  | m + 1, s, c, h, hz, hs, h1, h2 => by
    have hlen := szS_len s
    rw [r4_Check_l8]
    rcases List.eq_nil_or_concat s with rfl | ⟨t, it, rfl⟩
    · rfl
    · rw [List.concat_eq_append] at *
      obtain ⟨q1, q2, q3, q4⟩ := hs it (by simp)
      have e1 : (((t ++ [it]).length : Int)) - 1 = (t.length : Int) := by rw [List.length_append]; simp
      have e2 : idx (t ++ [it]) (t.length : Int) = some it := by
        rw [idx_nat (by simp)]; simp
      have hsz : szS (t ++ [it]) = szS t + it.v.size := by rw [szS_app]; simp [szS]
      have hl2 : (t ++ [it]).length = t.length + 1 := by simp
      rw [e1, e2, if_pos (by rw [decide_eq_true_eq]; omega), if_pos (I64_nat (by omega))]
      simp only [Option.bind_some]
      rw [if_pos (I64_nat (by omega)), if_pos ⟨by omega, by omega⟩]
      have hfl : flatS (t ++ [it]) = (it.level.toNat, it.v) :: ((partsV it.v).flatMap (preV (it.level.toNat + 1)) ++ flatS t) := by
        unfold flatS
        rw [List.reverse_append, List.flatMap_append]
        simp only [List.reverse_cons, List.reverse_nil, List.nil_append, List.flatMap_cons, List.flatMap_nil, List.append_nil]
        rw [preV_eq]; rfl
      rw [hfl, vWalk]
      by_cases c1 : 4096 < c + 1
      · rw [if_pos (decide_eq_true (by omega)), if_pos c1]
      rw [if_neg (by rw [decide_eq_true_eq]; omega), if_neg c1]
      have hlv : ((it.level.toNat : Nat) : Int) = it.level := by omega
      simp only [hlv]
      by_cases c2 : 8 < it.level
      · rw [if_pos (decide_eq_true c2), if_pos c2]
      have hfn := fields_lt it.v
      rw [if_neg (by rw [decide_eq_true_eq]; exact c2), if_neg c2, r4Own_eq n it.v (by omega) (by omega) q3]
      simp only [Option.bind_some]
      by_cases c3 : vOwn it.v = 0
      rotate_left
      · rw [decide_eq_false c3, if_neg c3]; rfl
      rw [decide_eq_true c3, if_pos c3, r4Parts_eq n it.v (by omega) (by omega)]
      simp only [Bool.not_true, Bool.false_eq_true, if_false, Option.bind_some, Int.toNat_natCast]
      have hpl := (parts_len it.v).2.2
      have hlt := szS_len t
      have hps := parts_sum it.v
      rw [if_pos (by unfold I64; omega), List.take_left, r4c_l38 n (r4_Check_l8 n m) c it (partsV it.v) (by unfold I64; omega) (by unfold I64; omega) (partsV it.v).length n t (Nat.le_refl _) (by omega) (by omega), List.take_length]
      have hz2 : szS (t ++ ((partsV it.v).map fun y => Itm.mk y (it.level + 1)).reverse) = szS t + ((partsV it.v).map Vl.size).sum := by
        rw [szS_app, szS_rev, szS_parts]
      rw [r4c_l8 n m _ (c + 1) (by omega) (by omega) (fun x hx => ?_) (by omega) (by omega)]
      · congr 2
        unfold flatS
        rw [List.reverse_append, List.reverse_reverse, List.flatMap_append, List.flatMap_map]
        congr 1
        dsimp only
        rw [show (it.level + 1).toNat = it.level.toNat + 1 by omega]
      · rcases List.mem_append.1 hx with hx | hx
        · exact hs x (by simp [hx])
        · obtain ⟨y, hy, rfl⟩ := List.mem_map.1 (List.mem_reverse.1 hx)
          have := parts_size hy
          exact ⟨by simp only; omega, by simp only; omega, parts_ok q3 hy, by simp only; omega⟩
theorem r4Check_eq (n : Nat) (v : Vl) (hn : v.size < n) (hs : v.size ≤ 1000000000) (hv : v.ok) : r4_Check_F n v = some (vChk v) := by
  have e : szS [Itm.mk v 1] = v.size := by simp [szS]
  rw [r4_Check_F, r4c_l8 n n [Itm.mk v 1] 0 (by omega) (by omega) (fun it hit => by rw [List.mem_singleton.1 hit]; exact ⟨by simp, by simp, hv, hn⟩) (by omega) (by omega)]
  simp [flatS, vChk]
end Go.Proofs.YtggimoedcamonaaGreatDoor
namespace Go.Proofs.YtggimoedcamonaaGreatDoor
open Go Go.RowKit Go.Ev
set_option linter.unusedSimpArgs false
set_option linter.unusedVariables false
def l6_example_F  : Ty :=
  Ty.mk 9 0 0 0 ([]) ([]) ([(1, (⟨#[110]⟩ : ByteArray), 1, Ty.mk 2 1 9 0 ([]) ([]) ([]), []), (2, (⟨#[108]⟩ : ByteArray), 2, Ty.mk 8 0 3 0 ([]) ([Ty.mk 4 1 5 0 ([]) ([]) ([])]) ([]), [])])
set_option maxRecDepth 100000 in
set_option maxHeartbeats 4000000 in
theorem l6_example_at (w0 : World) (B : List (List AV)) (Rw : List RowA) (L : List LoopA)  (r : Ty) (h : l6_example_F  = r) :
    ACalls Tryz.prog w0 51 [] ⟨B, Rw, L⟩ fun x st => x = .agg (r.cs) ∧ st = ⟨B, Rw, L⟩ := by
  rw [l6_example_F] at h
  refine ACalls.finP (acalls_of (rs := [.cell 0 26]) Tryz.func51 rfl rfl Tryz.ntmps51 (enters_some Tryz.func51 rfl (by decide)) (Nat.le_of_ble_eq_true rfl) ?_)
  intro M0 W0 hN hNR hNL hcalm hu
  dsimp only at hN hNR hNL hcalm hu
  simp only [argsE]
  have hO := Owns.none Rw
  have hs := fact0
  refine rg [0] hs ?_
  apply awp_seq; intro K2 hK2
  apply awp_region 1 [0, 1]
  rw [evK_succ]; simp +decide only [go_sem, Nat.reduceAdd, fillA, fillOk, placeT]
  (repeat' apply And.intro) <;> first | refine hK2 _ _ ?_ | exact cl
  clear hK2
  apply awp_seq; intro K3 hK3
  apply awp_region 1 [0]
  rw [evK_succ]; simp +decide only [go_sem, Nat.reduceAdd, fillA, fillOk, placeT]
  (repeat' apply And.intro) <;> first | refine hK3 _ _ ?_ | exact cl
  clear hK3
  apply awp_ret; simp +decide only [go_sem, Nat.reduceAdd]
  subst h
  first | refine fin_q0 hcalm rfl hO.pre ev ⟨?_, rfl⟩ | refine fin_q hcalm rfl hO.pre ev ⟨?_, rfl⟩
  first | rfl | (simp +decide only [go_sem, Nat.reduceAdd]; done) | (simp +decide only [go_sem, Nat.reduceAdd, Vl.cs, Ty.cs]; done)
theorem l6_example_at' (w0 : World) (B : List (List AV)) (Rw : List RowA) (L : List LoopA)  :
    ACalls Tryz.prog w0 51 [] ⟨B, Rw, L⟩ fun x st => x = .agg ((l6_example_F ).cs) ∧ st = ⟨B, Rw, L⟩ := l6_example_at w0 B Rw L  _ rfl
end Go.Proofs.YtggimoedcamonaaGreatDoor
namespace Go.Proofs.YtggimoedcamonaaGreatDoor
open Go Go.RowKit Go.Ev
set_option linter.unusedSimpArgs false
set_option linter.unusedVariables false
def s_has_1_F (rec : Ty → Vl → Option Bool) (a0 : Vl) (a1 : Ty) : Option Bool :=
  (idx a1.elem 0).bind fun x3 =>
  (rec x3 a0).bind fun y4 =>
  some (!y4)
set_option maxRecDepth 100000 in
set_option maxHeartbeats 4000000 in
theorem s_has_1_at (w0 : World) (rec : Ty → Vl → Option Bool) (ih : ∀ (B : List (List AV)) (Rw : List RowA) (L : List LoopA) (a0 : Ty) (a1 : Vl) (r : Bool) (h : rec a0 a1 = some r), ACalls Tryz.prog w0 101 [.agg (a0.cs), .agg (a1.cs)] ⟨B, Rw, L⟩ fun x st => x = .val (.bool r) ∧ st = ⟨B, Rw, L⟩) (B : List (List AV)) (Rw : List RowA) (L : List LoopA) (a0 : Vl) (la1 : Nat) (a1 : Ty) (hla1 : B[la1]? = some (a1.cs)) (r : Bool) (h : s_has_1_F rec a0 a1 = some r) :
    ACalls Tryz.prog w0 153 [.agg (a0.cs), .box la1 0] ⟨B, Rw, L⟩ fun x st => x = .val (.bool r) ∧ st = ⟨B, Rw, L⟩ := by
  rw [s_has_1_F] at h
  refine ACalls.finP (acalls_of (rs := [.tmp 3]) Tryz.func153 rfl rfl Tryz.ntmps153 (enters_some Tryz.func153 rfl (by decide)) (Nat.le_of_ble_eq_true rfl) ?_)
  intro M0 W0 hN hNR hNL hcalm hu
  dsimp only at hN hNR hNL hcalm hu
  simp only [argsE]
  have hO := Owns.none Rw
  have hs := fact0
  have hltla1 := (List.getElem?_eq_some_iff.1 hla1).1
  have hs := And.intro (ptr_of hla1) hs
  refine rg [1, 2] hs ?_
  apply awp_seq; intro K2 hK2
  obtain ⟨x3, hx3, h⟩ := bind_some h
  obtain ⟨hx3a, hx3b, hx3c⟩ := idx_some hx3
  have hx3d := getD_map (f := avT) hx3c
  have hx3e : (a1.elem.map avT).getD 0 .junk = _ := hx3d
  obtain ⟨y4, hy4, h⟩ := bind_some h
  apply awp_draw mix 8 2 1 [3] (by kernel_rfl)
  rw [evK_succ]; simp +decide only [go_sem, Nat.reduceAdd, ptr_of hla1, hx3d, hx3e]
  have hs := And.intro hx3d hs
  have hs := And.intro hx3e hs
  (repeat' apply And.intro) <;> first | refine callK_p _ (ih _ _ _ x3 a0 _ hy4) (hv hs) ?_ | exact cl
  rw [evK_succ]; simp +decide only [go_sem, Nat.reduceAdd, ptr_of hla1, hx3d, hx3e]
  (repeat' with_reducible apply And.intro) <;> first | (rw [evK_succ]; simp +decide only [go_sem, Nat.reduceAdd, ptr_of hla1, hx3d, hx3e]) | exact cl
  (repeat' apply And.intro) <;> first | refine hK2 _ _ ?_ | exact cl
  clear hK2
  exact rt h hs hcalm hO
end Go.Proofs.YtggimoedcamonaaGreatDoor
namespace Go.Proofs.YtggimoedcamonaaGreatDoor
open Go Go.RowKit Go.Ev
set_option linter.unusedSimpArgs false
set_option linter.unusedVariables false
def sl_IndexFunc_Field_k3 (n : Nat)  : Option Int :=
  some ((-1))
def sl_IndexFunc_Field_l6 (n : Nat) (a0 : List (ByteArray × Vl)) (a1 : (ByteArray × Vl) → Option Bool) : Nat → Int → Option Int
  | 0, _ => none
  | m + 1, x8_l6 =>
    if decide (x8_l6 < ((a0.length : Int))) then
      (idx a0 x8_l6).bind fun x13 =>
      (a1 x13).bind fun y14 =>
      if y14 then
        some (x8_l6)
      else
        if I64 (x8_l6 + 1) then
          (sl_IndexFunc_Field_l6 n a0 a1 m) (x8_l6 + 1)
        else none
    else
      sl_IndexFunc_Field_k3 n 
def sl_IndexFunc_Field_F (n : Nat) (a0 : List (ByteArray × Vl)) (a1 : (ByteArray × Vl) → Option Bool) : Option Int :=
  sl_IndexFunc_Field_l6 n a0 a1 n 0
set_option maxRecDepth 100000 in
set_option maxHeartbeats 4000000 in
theorem sl_IndexFunc_Field_at (w0 : World) (n : Nat) (B : List (List AV)) (Rw : List RowA) (L : List LoopA) (a0 : List (ByteArray × Vl)) (fa1 : FuncId) (ca1 : List AV) (a1 : (ByteArray × Vl) → Option Bool) (ha1 : ∀ (x0 : ByteArray × Vl) r, a1 x0 = some r → ∀ B' rows, B <+: B' → Rw <+: rows → ACalls Tryz.prog w0 fa1 ([.agg (.val (.string x0.1) :: (x0.2.cs))] ++ ca1) ⟨B', rows, L⟩ fun v s => v = .val (.bool r) ∧ s = ⟨B', rows, L⟩) (r : Int) (h : sl_IndexFunc_Field_F n a0 a1 = some r) :
    ACalls Tryz.prog w0 94 [.list (a0.map avF) .none, .clo fa1 ca1] ⟨B, Rw, L⟩ fun x st => x = .val (.int .i64 r) ∧ st = ⟨B, Rw, L⟩ := by
  rw [sl_IndexFunc_Field_F] at h
  refine ACalls.finP (acalls_of (rs := [.tmp 4]) Tryz.func94 rfl rfl Tryz.ntmps94 (enters_some Tryz.func94 rfl (by decide)) (Nat.le_of_ble_eq_true rfl) ?_)
  intro M0 W0 hN hNR hNL hcalm hu
  dsimp only at hN hNR hNL hcalm hu
  simp only [argsE]
  have hO := Owns.none Rw
  have hs := fact0
  have hU_a1 := under_caps (hu (.clo fa1 ca1) (by simp))
  refine rg [0, 1] hs ?_
  refine awp_mid (fun e st => ∃ (X_k3 : List (List AV)) (rows_k3 : List RowA), e = [] ∧ st = ⟨B ++ ([] ++ X_k3), rows_k3, L⟩ ∧ Owns Rw rows_k3 [] ∧ sl_IndexFunc_Field_k3 n  = some r) ?_ ?_
  · intro K4 hK4
    refine rg [0, 1, 7, 8] hs ?_
    apply awp_block
    refine awp_loop (fun m e st => ∃ (x8_l6 : Int) (X_l6 : List (List AV)) (rows_l6 : List RowA), e = [(0, true, .list (a0.map avF) .none), (1, true, .clo fa1 ca1), (7, true, .val (.int .i64 ((a0.length : Int)))), (8, true, .val (.int .i64 x8_l6))] ∧ st = ⟨B ++ ([] ++ X_l6), rows_l6, L⟩ ∧ Owns Rw rows_l6 [] ∧ sl_IndexFunc_Field_l6 n a0 a1 m x8_l6 = some r) n ⟨0, ([]), Rw, ef hs, ef hs, hO, h⟩ ?_
    rintro m_l6 e st ⟨x8_l6, X_l6, rows_l6, rfl, rfl, hO, h⟩ KR_l6 hKR_l6
    cases m_l6 with
    | zero => cases h
    | succ m_l6 =>
    rw [sl_IndexFunc_Field_l6] at h
    refine awp_tidy hN hNR hNL rfl hcalm hO (by (simp +decide only [go_sem, Nat.reduceAdd]) <;> (try (repeat' apply And.intro)) <;> first | omega | assumption | exact hU_a1 _ _ _ (by omega) (by have := hO.len; omega) (by omega)) (by (simp +decide only [go_sem, Nat.reduceAdd, calmE]) <;> (try (repeat' apply And.intro)) <;> first | omega | assumption | exact hU_a1 _ _ _ (by omega) (by have := hO.len; omega) (by omega)) ?_
    refine rg [0, 1, 7, 8, 9] hs ?_
    apply awp_seq; intro K8 hK8
    refine cnd h hs (fun hs h => ?_) (fun hs h => ?_)
    rotate_left
    · skip
      have hb9 := hs.1
      refine sx [] hs hK4 ?_
      exact ⟨([]), rows_l6, ef hs, ef hs, hO, h⟩
    have hb9 := hs.1
    refine sk [0, 1, 7, 8] hs hK8 ?_
    clear hK8
    apply awp_seq; intro K10 hK10
    apply awp_block
    refine rg [0, 1, 5, 7, 8] hs ?_
    obtain ⟨x13, hx13, h⟩ := bind_some h
    obtain ⟨hx13a, hx13b, hx13c⟩ := idx_some hx13
    have hx13d := getD_map (f := avF) hx13c
    obtain ⟨y14, hy14, h⟩ := bind_some h
    have hs := And.intro hx13d hs
    refine rc 2 [0, 1, 5, 7, 8, 16] hs ?_; intro K12 hK12
    refine callK_q _ (ha1 x13 _ hy14 _ _ (by first | exact List.prefix_append _ _ | exact List.prefix_refl _) hO.pre) (hv hs) ?_
    refine ne hs hK12 ?_
    clear hK12
    refine cnd h hs (fun hs h => ?_) (fun hs h => ?_)
    · skip
      have hb15 := hs.1
      refine rg [4] hs ?_
      exact rt h hs hcalm hO
    have hb15 := hs.1
    refine sk [0, 1, 7, 8] hs hK10 ?_
    clear hK10
    obtain ⟨hg17, h⟩ := guard_some h
    apply awp_region 1 [0, 1, 7, 8]
    rw [evK_succ]; simp +decide only [go_sem, Nat.reduceAdd, hb9, hx13d, hb15]
    (repeat' apply And.intro) <;> first | refine hKR_l6 m_l6 _ _ (Nat.lt_succ_self m_l6) ⟨(x8_l6 + 1), ([]), rows_l6, ef hs, ef hs, hO, h⟩ | exact cl
  · clear h; rintro e st ⟨X_k3, rows_k3, rfl, rfl, hO, h⟩
    rw [sl_IndexFunc_Field_k3] at h
    refine awp_tidy hN hNR hNL rfl hcalm hO (by (simp +decide only [go_sem, Nat.reduceAdd]) <;> (try (repeat' apply And.intro)) <;> first | omega | assumption | exact hU_a1 _ _ _ (by omega) (by have := hO.len; omega) (by omega)) (by (simp +decide only [go_sem, Nat.reduceAdd, calmE]) <;> (try (repeat' apply And.intro)) <;> first | omega | assumption | exact hU_a1 _ _ _ (by omega) (by have := hO.len; omega) (by omega)) ?_
    refine rg [4] hs ?_
    exact rt h hs hcalm hO
end Go.Proofs.YtggimoedcamonaaGreatDoor
namespace Go.Proofs.YtggimoedcamonaaGreatDoor
open Go Go.RowKit Go.Ev
set_option linter.unusedSimpArgs false
set_option linter.unusedVariables false
def v_index_1_F (a0 : ByteArray × Vl) (a1 : ByteArray) : Bool :=
  sEq a0.1 a1
set_option maxRecDepth 100000 in
set_option maxHeartbeats 4000000 in
theorem v_index_1_at (w0 : World) (B : List (List AV)) (Rw : List RowA) (L : List LoopA) (a0 : ByteArray × Vl) (la1 : Nat) (a1 : ByteArray) (hla1 : B[la1]? = some ([.val (.string a1)])) (r : Bool) (h : v_index_1_F a0 a1 = r) :
    ACalls Tryz.prog w0 138 [.agg (.val (.string a0.1) :: (a0.2.cs)), .box la1 0] ⟨B, Rw, L⟩ fun x st => x = .val (.bool r) ∧ st = ⟨B, Rw, L⟩ := by
  rw [v_index_1_F] at h
  refine ACalls.finP (acalls_of (rs := [.tmp 3]) Tryz.func138 rfl rfl Tryz.ntmps138 (enters_some Tryz.func138 rfl (by decide)) (Nat.le_of_ble_eq_true rfl) ?_)
  intro M0 W0 hN hNR hNL hcalm hu
  dsimp only at hN hNR hNL hcalm hu
  simp only [argsE]
  have hO := Owns.none Rw
  have hs := fact0
  have hltla1 := (List.getElem?_eq_some_iff.1 hla1).1
  have hs := And.intro (ptr_of hla1) hs
  refine rg [1, 2] hs ?_
  refine rg [3] hs ?_
  apply awp_ret; simp +decide only [go_sem, Nat.reduceAdd, ptr_of hla1]
  subst h
  first | refine fin_q0 hcalm rfl hO.pre ev ⟨?_, rfl⟩ | refine fin_q hcalm rfl hO.pre ev ⟨?_, rfl⟩
  first | rfl | (simp +decide only [go_sem, Nat.reduceAdd, ptr_of hla1]; done) | (simp +decide only [go_sem, Nat.reduceAdd, Vl.cs, Ty.cs, ptr_of hla1]; done)
theorem v_index_1_at' (w0 : World) (B : List (List AV)) (Rw : List RowA) (L : List LoopA) (a0 : ByteArray × Vl) (la1 : Nat) (a1 : ByteArray) (hla1 : B[la1]? = some ([.val (.string a1)])) :
    ACalls Tryz.prog w0 138 [.agg (.val (.string a0.1) :: (a0.2.cs)), .box la1 0] ⟨B, Rw, L⟩ fun x st => x = .val (.bool (v_index_1_F a0 a1)) ∧ st = ⟨B, Rw, L⟩ := v_index_1_at w0 B Rw L a0 la1 a1 hla1 _ rfl
end Go.Proofs.YtggimoedcamonaaGreatDoor
namespace Go.Proofs.YtggimoedcamonaaGreatDoor
open Go Go.RowKit Go.Ev
set_option linter.unusedSimpArgs false
set_option linter.unusedVariables false
def v_index_F (n : Nat) (a0 : Vl) (a1 : ByteArray) : Option Int :=
  (sl_IndexFunc_Field_F n a0.fields (fun (x0 : ByteArray × Vl) => some (v_index_1_F x0 a1))).bind fun y3 =>
  some (y3)
set_option maxRecDepth 100000 in
set_option maxHeartbeats 4000000 in
theorem v_index_at (w0 : World) (n : Nat) (B : List (List AV)) (Rw : List RowA) (L : List LoopA) (a0 : Vl) (a1 : ByteArray) (r : Int) (h : v_index_F n a0 a1 = some r) :
    ACalls Tryz.prog w0 92 [.agg (a0.cs), .val (.string a1)] ⟨B, Rw, L⟩ fun x st => x = .val (.int .i64 r) ∧ st = ⟨B, Rw, L⟩ := by
  rw [v_index_F] at h
  refine ACalls.finP (acalls_of (rs := [.tmp 4]) Tryz.func92 rfl rfl Tryz.ntmps92 (enters_some Tryz.func92 rfl (by decide)) (Nat.le_of_ble_eq_true rfl) ?_)
  intro M0 W0 hN hNR hNL hcalm hu
  dsimp only at hN hNR hNL hcalm hu
  simp only [argsE]
  have hO := Owns.none Rw
  have hs := fact0
  refine rg [2, 3] hs ?_
  obtain ⟨y3, hy3, h⟩ := bind_some h
  refine rc 2 [4] hs ?_; intro K2 hK2
  refine callK_p _ (sl_IndexFunc_Field_at w0 n _ _ _ a0.fields 138 [.box (B.length + 1) 0] (fun (x0 : ByteArray × Vl) => some (v_index_1_F x0 a1)) (fun x0 r hx B' rows' hB' hR' => by cases hx; exact v_index_1_at' w0 _ _ _ x0 _ a1 (prefix_get hB' ev)) _ hy3) (hv hs) ?_
  refine ne hs hK2 ?_
  clear hK2
  exact rt h hs hcalm hO
end Go.Proofs.YtggimoedcamonaaGreatDoor
namespace Go.Proofs.YtggimoedcamonaaGreatDoor
open Go Go.RowKit Go.Ev
set_option linter.unusedSimpArgs false
set_option linter.unusedVariables false
def v_Field_F (n : Nat) (a0 : Vl) (a1 : ByteArray) : Option (Vl × Bool) :=
  (v_index_F n a0 a1).bind fun y3 =>
  if (!(decide (a0.kind = 9))) || (decide (y3 < 0)) then
    some ((Vl.mk 0 0 0 ((⟨#[]⟩ : ByteArray)) ([]) ([]), false))
  else
    (idx a0.fields y3).bind fun x9 =>
    (v_Clone_F n x9.2).bind fun y10 =>
    some ((y10, true))
set_option maxRecDepth 100000 in
set_option maxHeartbeats 4000000 in
theorem v_Field_at (w0 : World) (n : Nat) (B : List (List AV)) (Rw : List RowA) (L : List LoopA) (a0 : Vl) (a1 : ByteArray) (r : Vl × Bool) (h : v_Field_F n a0 a1 = some r) :
    ACalls Tryz.prog w0 156 [.agg (a0.cs), .val (.string a1)] ⟨B, Rw, L⟩ fun x st => x = .tup [.agg (r.1.cs), .val (.bool r.2)] ∧ st = ⟨B, Rw, L⟩ := by
  rw [v_Field_F] at h
  refine ACalls.finP (acalls_of (rs := [.cell 4 34, .tmp 5]) Tryz.func156 rfl rfl Tryz.ntmps156 (enters_some Tryz.func156 rfl (by decide)) (Nat.le_of_ble_eq_true rfl) ?_)
  intro M0 W0 hN hNR hNL hcalm hu
  dsimp only at hN hNR hNL hcalm hu
  simp only [argsE]
  have hO := Owns.none Rw
  have hs := fact0
  refine rg [1, 2, 4] hs ?_
  obtain ⟨y3, hy3, h⟩ := bind_some h
  refine rc 2 [2, 4, 6] hs ?_; intro K2 hK2
  refine callK_p _ (v_index_at w0 n _ _ _ a0 a1 _ hy3) (hv hs) ?_
  refine ne hs hK2 ?_
  clear hK2
  apply awp_seq; intro K4 hK4
  refine rg [2, 4, 6, 16] hs ?_
  refine cnd h hs (fun hs h => ?_) (fun hs h => ?_)
  · skip
    have hb6 := hs.1
    apply awp_seq; intro K7 hK7
    apply awp_region 1 [4, 5]
    rw [evK_succ]; simp +decide only [go_sem, Nat.reduceAdd, hb6, fillA, fillOk, placeT]
    (repeat' apply And.intro) <;> first | refine hK7 _ _ ?_ | exact cl
    clear hK7
    exact rt h hs hcalm hO
  have hb6 := hs.1
  refine sk [2, 4, 6] hs hK4 ?_
  clear hK4
  obtain ⟨x9, hx9, h⟩ := bind_some h
  obtain ⟨hx9a, hx9b, hx9c⟩ := idx_some hx9
  have hx9d := getD_map (f := avF) hx9c
  obtain ⟨y10, hy10, h⟩ := bind_some h
  have hs := And.intro hx9d hs
  refine rc 2 [4, 5] hs ?_; intro K8 hK8
  refine callK_p _ (v_Clone_at w0 n _ _ _ x9.2 _ hy10) (hv hs) ?_
  refine ne hs hK8 ?_
  clear hK8
  exact rt h hs hcalm hO
end Go.Proofs.YtggimoedcamonaaGreatDoor
namespace Go.Proofs.YtggimoedcamonaaGreatDoor
open Go Go.RowKit Go.Ev
set_option linter.unusedSimpArgs false
set_option linter.unusedVariables false
def s_has_2_F (n : Nat) (a0 : Int × ByteArray × Int × Ty × List Vl) (a1 : Vl) : Option Bool :=
  (v_Field_F n a1 a0.2.1).bind fun y3 =>
  some ((!y3.2) && (!(decide (a0.2.2.1 = 2))))
set_option maxRecDepth 100000 in
set_option maxHeartbeats 4000000 in
theorem s_has_2_at (w0 : World) (n : Nat) (B : List (List AV)) (Rw : List RowA) (L : List LoopA) (a0 : Int × ByteArray × Int × Ty × List Vl) (la1 : Nat) (a1 : Vl) (hla1 : B[la1]? = some (a1.cs)) (r : Bool) (h : s_has_2_F n a0 a1 = some r) :
    ACalls Tryz.prog w0 155 [.agg (.val (.int .i64 a0.1) :: (.val (.string a0.2.1) :: (.val (.int .i64 a0.2.2.1) :: ((a0.2.2.2.1.cs) ++ ([.list (a0.2.2.2.2.map avV) .none]))))), .box la1 0] ⟨B, Rw, L⟩ fun x st => x = .val (.bool r) ∧ st = ⟨B, Rw, L⟩ := by
  rw [s_has_2_F] at h
  refine ACalls.finP (acalls_of (rs := [.tmp 3]) Tryz.func155 rfl rfl Tryz.ntmps155 (enters_some Tryz.func155 rfl (by decide)) (Nat.le_of_ble_eq_true rfl) ?_)
  intro M0 W0 hN hNR hNL hcalm hu
  dsimp only at hN hNR hNL hcalm hu
  simp only [argsE]
  have hO := Owns.none Rw
  have hs := fact0
  have hltla1 := (List.getElem?_eq_some_iff.1 hla1).1
  have hs := And.intro (ptr_of hla1) hs
  refine rg [1, 2] hs ?_
  obtain ⟨y3, hy3, h⟩ := bind_some h
  refine rc 2 [2, 5] hs ?_; intro K2 hK2
  refine callK_p _ (v_Field_at w0 n _ _ _ a1 a0.2.1 _ hy3) (hv hs) ?_
  refine ne hs hK2 ?_
  clear hK2
  refine rg [3] hs ?_
  exact rt h hs hcalm hO
end Go.Proofs.YtggimoedcamonaaGreatDoor
namespace Go.Proofs.YtggimoedcamonaaGreatDoor
open Go Go.RowKit Go.Ev
set_option linter.unusedSimpArgs false
set_option linter.unusedVariables false
def sl_ContainsFunc_TypeField_F (n : Nat) (a0 : List (Int × ByteArray × Int × Ty × List Vl)) (a1 : (Int × ByteArray × Int × Ty × List Vl) → Option Bool) : Option Bool :=
  (sl_IndexFunc_TypeField_F n a0 a1).bind fun y3 =>
  some (decide (0 ≤ y3))
set_option maxRecDepth 100000 in
set_option maxHeartbeats 4000000 in
theorem sl_ContainsFunc_TypeField_at (w0 : World) (n : Nat) (B : List (List AV)) (Rw : List RowA) (L : List LoopA) (a0 : List (Int × ByteArray × Int × Ty × List Vl)) (fa1 : FuncId) (ca1 : List AV) (a1 : (Int × ByteArray × Int × Ty × List Vl) → Option Bool) (ha1 : ∀ (x0 : Int × ByteArray × Int × Ty × List Vl) r, a1 x0 = some r → ∀ B' rows, B <+: B' → Rw <+: rows → ACalls Tryz.prog w0 fa1 ([.agg (.val (.int .i64 x0.1) :: (.val (.string x0.2.1) :: (.val (.int .i64 x0.2.2.1) :: ((x0.2.2.2.1.cs) ++ ([.list (x0.2.2.2.2.map avV) .none])))))] ++ ca1) ⟨B', rows, L⟩ fun v s => v = .val (.bool r) ∧ s = ⟨B', rows, L⟩) (r : Bool) (h : sl_ContainsFunc_TypeField_F n a0 a1 = some r) :
    ACalls Tryz.prog w0 154 [.list (a0.map avTF) .none, .clo fa1 ca1] ⟨B, Rw, L⟩ fun x st => x = .val (.bool r) ∧ st = ⟨B, Rw, L⟩ := by
  rw [sl_ContainsFunc_TypeField_F] at h
  refine ACalls.finP (acalls_of (rs := [.tmp 4]) Tryz.func154 rfl rfl Tryz.ntmps154 (enters_some Tryz.func154 rfl (by decide)) (Nat.le_of_ble_eq_true rfl) ?_)
  intro M0 W0 hN hNR hNL hcalm hu
  dsimp only at hN hNR hNL hcalm hu
  simp only [argsE]
  have hO := Owns.none Rw
  have hs := fact0
  have hU_a1 := under_caps (hu (.clo fa1 ca1) (by simp))
  refine rg [0, 1] hs ?_
  obtain ⟨y3, hy3, h⟩ := bind_some h
  refine rc 2 [4] hs ?_; intro K2 hK2
  refine callK_p _ (sl_IndexFunc_TypeField_at w0 n _ _ _ a0 fa1 ca1 a1 (fun x0 r hx B'' rows'' q1 q2 => ha1 x0 r hx B'' rows'' (List.IsPrefix.trans (by first | exact List.prefix_append _ _ | exact List.prefix_refl _) q1) (hO.pre.trans q2)) _ hy3) (hv hs) ?_
  refine ne hs hK2 ?_
  clear hK2
  exact rt h hs hcalm hO
end Go.Proofs.YtggimoedcamonaaGreatDoor
namespace Go.Proofs.YtggimoedcamonaaGreatDoor
open Go Go.RowKit Go.Ev
set_option linter.unusedSimpArgs false
set_option linter.unusedVariables false
def sl_IndexFunc_Value_k3 (n : Nat)  : Option Int :=
  some ((-1))
def sl_IndexFunc_Value_l6 (n : Nat) (a0 : List Vl) (a1 : Vl → Option Bool) : Nat → Int → Option Int
  | 0, _ => none
  | m + 1, x8_l6 =>
    if decide (x8_l6 < ((a0.length : Int))) then
      (idx a0 x8_l6).bind fun x13 =>
      (a1 x13).bind fun y14 =>
      if y14 then
        some (x8_l6)
      else
        if I64 (x8_l6 + 1) then
          (sl_IndexFunc_Value_l6 n a0 a1 m) (x8_l6 + 1)
        else none
    else
      sl_IndexFunc_Value_k3 n 
def sl_IndexFunc_Value_F (n : Nat) (a0 : List Vl) (a1 : Vl → Option Bool) : Option Int :=
  sl_IndexFunc_Value_l6 n a0 a1 n 0
set_option maxRecDepth 100000 in
set_option maxHeartbeats 4000000 in
theorem sl_IndexFunc_Value_at (w0 : World) (n : Nat) (B : List (List AV)) (Rw : List RowA) (L : List LoopA) (a0 : List Vl) (fa1 : FuncId) (ca1 : List AV) (a1 : Vl → Option Bool) (ha1 : ∀ (x0 : Vl) r, a1 x0 = some r → ∀ B' rows, B <+: B' → Rw <+: rows → ACalls Tryz.prog w0 fa1 ([.agg (x0.cs)] ++ ca1) ⟨B', rows, L⟩ fun v s => v = .val (.bool r) ∧ s = ⟨B', rows, L⟩) (r : Int) (h : sl_IndexFunc_Value_F n a0 a1 = some r) :
    ACalls Tryz.prog w0 182 [.list (a0.map avV) .none, .clo fa1 ca1] ⟨B, Rw, L⟩ fun x st => x = .val (.int .i64 r) ∧ st = ⟨B, Rw, L⟩ := by
  rw [sl_IndexFunc_Value_F] at h
  refine ACalls.finP (acalls_of (rs := [.tmp 4]) Tryz.func182 rfl rfl Tryz.ntmps182 (enters_some Tryz.func182 rfl (by decide)) (Nat.le_of_ble_eq_true rfl) ?_)
  intro M0 W0 hN hNR hNL hcalm hu
  dsimp only at hN hNR hNL hcalm hu
  simp only [argsE]
  have hO := Owns.none Rw
  have hs := fact0
  have hU_a1 := under_caps (hu (.clo fa1 ca1) (by simp))
  refine rg [0, 1] hs ?_
  refine awp_mid (fun e st => ∃ (X_k3 : List (List AV)) (rows_k3 : List RowA), e = [] ∧ st = ⟨B ++ ([] ++ X_k3), rows_k3, L⟩ ∧ Owns Rw rows_k3 [] ∧ sl_IndexFunc_Value_k3 n  = some r) ?_ ?_
  · intro K4 hK4
    refine rg [0, 1, 7, 8] hs ?_
    apply awp_block
    refine awp_loop (fun m e st => ∃ (x8_l6 : Int) (X_l6 : List (List AV)) (rows_l6 : List RowA), e = [(0, true, .list (a0.map avV) .none), (1, true, .clo fa1 ca1), (7, true, .val (.int .i64 ((a0.length : Int)))), (8, true, .val (.int .i64 x8_l6))] ∧ st = ⟨B ++ ([] ++ X_l6), rows_l6, L⟩ ∧ Owns Rw rows_l6 [] ∧ sl_IndexFunc_Value_l6 n a0 a1 m x8_l6 = some r) n ⟨0, ([]), Rw, ef hs, ef hs, hO, h⟩ ?_
    rintro m_l6 e st ⟨x8_l6, X_l6, rows_l6, rfl, rfl, hO, h⟩ KR_l6 hKR_l6
    cases m_l6 with
    | zero => cases h
    | succ m_l6 =>
    rw [sl_IndexFunc_Value_l6] at h
    refine awp_tidy hN hNR hNL rfl hcalm hO (by (simp +decide only [go_sem, Nat.reduceAdd]) <;> (try (repeat' apply And.intro)) <;> first | omega | assumption | exact hU_a1 _ _ _ (by omega) (by have := hO.len; omega) (by omega)) (by (simp +decide only [go_sem, Nat.reduceAdd, calmE]) <;> (try (repeat' apply And.intro)) <;> first | omega | assumption | exact hU_a1 _ _ _ (by omega) (by have := hO.len; omega) (by omega)) ?_
    refine rg [0, 1, 7, 8, 9] hs ?_
    apply awp_seq; intro K8 hK8
    refine cnd h hs (fun hs h => ?_) (fun hs h => ?_)
    rotate_left
    · skip
      have hb9 := hs.1
      refine sx [] hs hK4 ?_
      exact ⟨([]), rows_l6, ef hs, ef hs, hO, h⟩
    have hb9 := hs.1
    refine sk [0, 1, 7, 8] hs hK8 ?_
    clear hK8
    apply awp_seq; intro K10 hK10
    apply awp_block
    refine rg [0, 1, 5, 7, 8] hs ?_
    obtain ⟨x13, hx13, h⟩ := bind_some h
    obtain ⟨hx13a, hx13b, hx13c⟩ := idx_some hx13
    have hx13d := getD_map (f := avV) hx13c
    obtain ⟨y14, hy14, h⟩ := bind_some h
    have hs := And.intro hx13d hs
    refine rc 2 [0, 1, 5, 7, 8, 16] hs ?_; intro K12 hK12
    refine callK_q _ (ha1 x13 _ hy14 _ _ (by first | exact List.prefix_append _ _ | exact List.prefix_refl _) hO.pre) (hv hs) ?_
    refine ne hs hK12 ?_
    clear hK12
    refine cnd h hs (fun hs h => ?_) (fun hs h => ?_)
    · skip
      have hb15 := hs.1
      refine rg [4] hs ?_
      exact rt h hs hcalm hO
    have hb15 := hs.1
    refine sk [0, 1, 7, 8] hs hK10 ?_
    clear hK10
    obtain ⟨hg17, h⟩ := guard_some h
    apply awp_region 1 [0, 1, 7, 8]
    rw [evK_succ]; simp +decide only [go_sem, Nat.reduceAdd, hb9, hx13d, hb15]
    (repeat' apply And.intro) <;> first | refine hKR_l6 m_l6 _ _ (Nat.lt_succ_self m_l6) ⟨(x8_l6 + 1), ([]), rows_l6, ef hs, ef hs, hO, h⟩ | exact cl
  · clear h; rintro e st ⟨X_k3, rows_k3, rfl, rfl, hO, h⟩
    rw [sl_IndexFunc_Value_k3] at h
    refine awp_tidy hN hNR hNL rfl hcalm hO (by (simp +decide only [go_sem, Nat.reduceAdd]) <;> (try (repeat' apply And.intro)) <;> first | omega | assumption | exact hU_a1 _ _ _ (by omega) (by have := hO.len; omega) (by omega)) (by (simp +decide only [go_sem, Nat.reduceAdd, calmE]) <;> (try (repeat' apply And.intro)) <;> first | omega | assumption | exact hU_a1 _ _ _ (by omega) (by have := hO.len; omega) (by omega)) ?_
    refine rg [4] hs ?_
    exact rt h hs hcalm hO
end Go.Proofs.YtggimoedcamonaaGreatDoor
namespace Go.Proofs.YtggimoedcamonaaGreatDoor
open Go Go.RowKit Go.Ev
set_option linter.unusedSimpArgs false
set_option linter.unusedVariables false
def sl_ContainsFunc_Value_F (n : Nat) (a0 : List Vl) (a1 : Vl → Option Bool) : Option Bool :=
  (sl_IndexFunc_Value_F n a0 a1).bind fun y3 =>
  some (decide (0 ≤ y3))
set_option maxRecDepth 100000 in
set_option maxHeartbeats 4000000 in
theorem sl_ContainsFunc_Value_at (w0 : World) (n : Nat) (B : List (List AV)) (Rw : List RowA) (L : List LoopA) (a0 : List Vl) (fa1 : FuncId) (ca1 : List AV) (a1 : Vl → Option Bool) (ha1 : ∀ (x0 : Vl) r, a1 x0 = some r → ∀ B' rows, B <+: B' → Rw <+: rows → ACalls Tryz.prog w0 fa1 ([.agg (x0.cs)] ++ ca1) ⟨B', rows, L⟩ fun v s => v = .val (.bool r) ∧ s = ⟨B', rows, L⟩) (r : Bool) (h : sl_ContainsFunc_Value_F n a0 a1 = some r) :
    ACalls Tryz.prog w0 152 [.list (a0.map avV) .none, .clo fa1 ca1] ⟨B, Rw, L⟩ fun x st => x = .val (.bool r) ∧ st = ⟨B, Rw, L⟩ := by
  rw [sl_ContainsFunc_Value_F] at h
  refine ACalls.finP (acalls_of (rs := [.tmp 4]) Tryz.func152 rfl rfl Tryz.ntmps152 (enters_some Tryz.func152 rfl (by decide)) (Nat.le_of_ble_eq_true rfl) ?_)
  intro M0 W0 hN hNR hNL hcalm hu
  dsimp only at hN hNR hNL hcalm hu
  simp only [argsE]
  have hO := Owns.none Rw
  have hs := fact0
  have hU_a1 := under_caps (hu (.clo fa1 ca1) (by simp))
  refine rg [0, 1] hs ?_
  obtain ⟨y3, hy3, h⟩ := bind_some h
  refine rc 2 [4] hs ?_; intro K2 hK2
  refine callK_p _ (sl_IndexFunc_Value_at w0 n _ _ _ a0 fa1 ca1 a1 (fun x0 r hx B'' rows'' q1 q2 => ha1 x0 r hx B'' rows'' (List.IsPrefix.trans (by first | exact List.prefix_append _ _ | exact List.prefix_refl _) q1) (hO.pre.trans q2)) _ hy3) (hv hs) ?_
  refine ne hs hK2 ?_
  clear hK2
  exact rt h hs hcalm hO
end Go.Proofs.YtggimoedcamonaaGreatDoor
namespace Go.Proofs.YtggimoedcamonaaGreatDoor
open Go Go.RowKit Go.Ev
set_option linter.unusedSimpArgs false
set_option linter.unusedVariables false
def sl_Index_string_k3 (n : Nat)  : Option Int :=
  some ((-1))
def sl_Index_string_l6 (n : Nat) (a0 : List ByteArray) (a1 : ByteArray) : Nat → Int → Option Int
  | 0, _ => none
  | m + 1, x8_l6 =>
    if decide (x8_l6 < ((a0.length : Int))) then
      (idx a0 x8_l6).bind fun x13 =>
      if sEq a1 x13 then
        some (x8_l6)
      else
        if I64 (x8_l6 + 1) then
          (sl_Index_string_l6 n a0 a1 m) (x8_l6 + 1)
        else none
    else
      sl_Index_string_k3 n 
def sl_Index_string_F (n : Nat) (a0 : List ByteArray) (a1 : ByteArray) : Option Int :=
  sl_Index_string_l6 n a0 a1 n 0
set_option maxRecDepth 100000 in
set_option maxHeartbeats 4000000 in
theorem sl_Index_string_at (w0 : World) (n : Nat) (B : List (List AV)) (Rw : List RowA) (L : List LoopA) (a0 : List ByteArray) (a1 : ByteArray) (r : Int) (h : sl_Index_string_F n a0 a1 = some r) :
    ACalls Tryz.prog w0 181 [.list (a0.map avS) .none, .val (.string a1)] ⟨B, Rw, L⟩ fun x st => x = .val (.int .i64 r) ∧ st = ⟨B, Rw, L⟩ := by
  rw [sl_Index_string_F] at h
  refine ACalls.finP (acalls_of (rs := [.tmp 4]) Tryz.func181 rfl rfl Tryz.ntmps181 (enters_some Tryz.func181 rfl (by decide)) (Nat.le_of_ble_eq_true rfl) ?_)
  intro M0 W0 hN hNR hNL hcalm hu
  dsimp only at hN hNR hNL hcalm hu
  simp only [argsE]
  have hO := Owns.none Rw
  have hs := fact0
  refine rg [0, 1] hs ?_
  refine awp_mid (fun e st => ∃ (X_k3 : List (List AV)) (rows_k3 : List RowA), e = [] ∧ st = ⟨B ++ ([] ++ X_k3), rows_k3, L⟩ ∧ Owns Rw rows_k3 [] ∧ sl_Index_string_k3 n  = some r) ?_ ?_
  · intro K4 hK4
    refine rg [0, 1, 7, 8] hs ?_
    apply awp_block
    refine awp_loop (fun m e st => ∃ (x8_l6 : Int) (X_l6 : List (List AV)) (rows_l6 : List RowA), e = [(0, true, .list (a0.map avS) .none), (1, true, .val (.string a1)), (7, true, .val (.int .i64 ((a0.length : Int)))), (8, true, .val (.int .i64 x8_l6))] ∧ st = ⟨B ++ ([] ++ X_l6), rows_l6, L⟩ ∧ Owns Rw rows_l6 [] ∧ sl_Index_string_l6 n a0 a1 m x8_l6 = some r) n ⟨0, ([]), Rw, ef hs, ef hs, hO, h⟩ ?_
    rintro m_l6 e st ⟨x8_l6, X_l6, rows_l6, rfl, rfl, hO, h⟩ KR_l6 hKR_l6
    cases m_l6 with
    | zero => cases h
    | succ m_l6 =>
    rw [sl_Index_string_l6] at h
    refine td hN hNR hNL hcalm hO ?_
    refine rg [0, 1, 7, 8, 9] hs ?_
    apply awp_seq; intro K8 hK8
    refine cnd h hs (fun hs h => ?_) (fun hs h => ?_)
    rotate_left
    · skip
      have hb9 := hs.1
      refine sx [] hs hK4 ?_
      exact ⟨([]), rows_l6, ef hs, ef hs, hO, h⟩
    have hb9 := hs.1
    refine sk [0, 1, 7, 8] hs hK8 ?_
    clear hK8
    apply awp_seq; intro K10 hK10
    apply awp_block
    refine rg [0, 1, 5, 7, 8] hs ?_
    obtain ⟨x13, hx13, h⟩ := bind_some h
    obtain ⟨hx13a, hx13b, hx13c⟩ := idx_some hx13
    have hx13d := getD_map (f := avS) hx13c
    have hs := And.intro hx13d hs
    refine rg [0, 1, 5, 7, 8, 16] hs ?_
    refine cnd h hs (fun hs h => ?_) (fun hs h => ?_)
    · skip
      have hb14 := hs.1
      refine rg [4] hs ?_
      exact rt h hs hcalm hO
    have hb14 := hs.1
    refine sk [0, 1, 7, 8] hs hK10 ?_
    clear hK10
    obtain ⟨hg16, h⟩ := guard_some h
    apply awp_region 1 [0, 1, 7, 8]
    rw [evK_succ]; simp +decide only [go_sem, Nat.reduceAdd, hb9, hx13d, hb14]
    (repeat' apply And.intro) <;> first | refine hKR_l6 m_l6 _ _ (Nat.lt_succ_self m_l6) ⟨(x8_l6 + 1), ([]), rows_l6, ef hs, ef hs, hO, h⟩ | exact cl
  · clear h; rintro e st ⟨X_k3, rows_k3, rfl, rfl, hO, h⟩
    rw [sl_Index_string_k3] at h
    refine td hN hNR hNL hcalm hO ?_
    refine rg [4] hs ?_
    exact rt h hs hcalm hO
end Go.Proofs.YtggimoedcamonaaGreatDoor
namespace Go.Proofs.YtggimoedcamonaaGreatDoor
open Go Go.RowKit Go.Ev
set_option linter.unusedSimpArgs false
set_option linter.unusedVariables false
def sl_Contains_string_F (n : Nat) (a0 : List ByteArray) (a1 : ByteArray) : Option Bool :=
  (sl_Index_string_F n a0 a1).bind fun y3 =>
  some (decide (0 ≤ y3))
set_option maxRecDepth 100000 in
set_option maxHeartbeats 4000000 in
theorem sl_Contains_string_at (w0 : World) (n : Nat) (B : List (List AV)) (Rw : List RowA) (L : List LoopA) (a0 : List ByteArray) (a1 : ByteArray) (r : Bool) (h : sl_Contains_string_F n a0 a1 = some r) :
    ACalls Tryz.prog w0 151 [.list (a0.map avS) .none, .val (.string a1)] ⟨B, Rw, L⟩ fun x st => x = .val (.bool r) ∧ st = ⟨B, Rw, L⟩ := by
  rw [sl_Contains_string_F] at h
  refine ACalls.finP (acalls_of (rs := [.tmp 4]) Tryz.func151 rfl rfl Tryz.ntmps151 (enters_some Tryz.func151 rfl (by decide)) (Nat.le_of_ble_eq_true rfl) ?_)
  intro M0 W0 hN hNR hNL hcalm hu
  dsimp only at hN hNR hNL hcalm hu
  simp only [argsE]
  have hO := Owns.none Rw
  have hs := fact0
  refine rg [0, 1] hs ?_
  obtain ⟨y3, hy3, h⟩ := bind_some h
  refine rc 2 [4] hs ?_; intro K2 hK2
  refine callK_p _ (sl_Index_string_at w0 n _ _ _ a0 a1 _ hy3) (hv hs) ?_
  refine ne hs hK2 ?_
  clear hK2
  exact rt h hs hcalm hO
end Go.Proofs.YtggimoedcamonaaGreatDoor
namespace Go.Proofs.YtggimoedcamonaaGreatDoor
open Go Go.RowKit Go.Ev
set_option linter.unusedSimpArgs false
set_option linter.unusedVariables false
def s_has_k48 (rec : Ty → Vl → Option Bool) (n : Nat) (a0 : Ty) (a1 : Vl) : Option Bool :=
  (sl_ContainsFunc_TypeField_F n a0.fields (fun (x0 : Int × ByteArray × Int × Ty × List Vl) => s_has_2_F n x0 a1)).bind fun y69 =>
  some (!y69)
def s_has_k7 (rec : Ty → Vl → Option Bool) (n : Nat)  : Option Bool :=
  some (true)
def s_has_l51 (rec : Ty → Vl → Option Bool) (n : Nat) (a0 : Ty) (a1 : Vl) : Nat → Int → Option Bool
  | 0, _ => none
  | m + 1, x107_l51 =>
    if decide (x107_l51 < ((a1.fields.length : Int))) then
      (idx a1.fields x107_l51).bind fun x57 =>
      (s_Field_F n a0 x57.1).bind fun y59 =>
      if !y59.2 then
        some (false)
      else
        (rec y59.1.2.2.2.1 x57.2).bind fun y64 =>
        if !y64 then
          some (false)
        else
          if I64 (x107_l51 + 1) then
            (s_has_l51 rec n a0 a1 m) (x107_l51 + 1)
          else none
    else
      s_has_k48 rec n a0 a1 
def s_has_k11 (rec : Ty → Vl → Option Bool) (n : Nat) (a0 : Ty) (a1 : Vl) (x18_k11 : Bool) : Option Bool :=
  if x18_k11 then
    some ((decide (a0.min ≤ a1.int) && decide (a1.int ≤ a0.max)) && (decide (a1.scale = a0.scale)))
  else
    if decide (a0.kind = 4) then
      if decide (0 < ((a0.words.length : Int))) then
        (sl_Contains_string_F n a0.words a1.text).bind fun y27 =>
        some (y27)
      else
        some (decide (a0.min ≤ ((a1.text.size : Int))) && decide (((a1.text.size : Int)) ≤ a0.max))
    else
      if decide (a0.kind = 5) then
        some (decide (a0.min ≤ ((a1.text.size : Int))) && decide (((a1.text.size : Int)) ≤ a0.max))
      else
        if decide (a0.kind = 8) then
          if decide (a0.min ≤ ((a1.list.length : Int))) && decide (((a1.list.length : Int)) ≤ a0.max) then
            (sl_ContainsFunc_Value_F n a1.list (fun (x0 : Vl) => s_has_1_F rec x0 a0)).bind fun y36 =>
            some (!y36)
          else
            some (false)
        else
          if decide (a0.kind = 10) then
            (s_Field_F n a0 a1.text).bind fun y40 =>
            if y40.2 then
              (idx a1.list 0).bind fun x43 =>
              (rec y40.1.2.2.2.1 x43).bind fun y44 =>
              some (y44)
            else
              some (false)
          else
            if decide (a0.kind = 9) then
              s_has_l51 rec n a0 a1 n 0
            else
              s_has_k7 rec n 
def s_has_B (rec : Ty → Vl → Option Bool) (n : Nat) (a0 : Ty) (a1 : Vl) : Option Bool :=
  if !(decide (a1.kind = a0.kind)) then
    some (false)
  else
    if decide (a0.kind = 2) then
      s_has_k11 rec n a0 a1 true
    else
      if decide (a0.kind = 6) then
        s_has_k11 rec n a0 a1 true
      else
        if decide (a0.kind = 7) then
          s_has_k11 rec n a0 a1 true
        else
          s_has_k11 rec n a0 a1 (decide (a0.kind = 3))
def s_has_F : Nat → Ty → Vl → Option Bool
  | 0, _, _ => none
  | n + 1, a0, a1 => s_has_B (s_has_F n) n a0 a1
set_option maxRecDepth 100000 in
set_option maxHeartbeats 4000000 in
theorem s_has_step (w0 : World) (rec : Ty → Vl → Option Bool) (ih : ∀ (B : List (List AV)) (Rw : List RowA) (L : List LoopA) (a0 : Ty) (a1 : Vl) (r : Bool) (h : rec a0 a1 = some r), ACalls Tryz.prog w0 101 [.agg (a0.cs), .agg (a1.cs)] ⟨B, Rw, L⟩ fun x st => x = .val (.bool r) ∧ st = ⟨B, Rw, L⟩) (n : Nat) (B : List (List AV)) (Rw : List RowA) (L : List LoopA) (a0 : Ty) (a1 : Vl) (r : Bool) (h : s_has_B rec n a0 a1 = some r) :
    ACalls Tryz.prog w0 101 [.agg (a0.cs), .agg (a1.cs)] ⟨B, Rw, L⟩ fun x st => x = .val (.bool r) ∧ st = ⟨B, Rw, L⟩ := by
  rw [s_has_B] at h
  refine ACalls.finP (acalls_of (rs := [.tmp 4]) Tryz.func101 rfl rfl Tryz.ntmps101 (enters_some Tryz.func101 rfl (by decide)) (Nat.le_of_ble_eq_true rfl) ?_)
  intro M0 W0 hN hNR hNL hcalm hu
  dsimp only at hN hNR hNL hcalm hu
  simp only [argsE]
  have hO := Owns.none Rw
  have hs := fact0
  refine rg [2, 3] hs ?_
  apply awp_seq; intro K2 hK2
  refine rg [2, 3, 15] hs ?_
  refine cnd h hs (fun hs h => ?_) (fun hs h => ?_)
  · skip
    have hb4 := hs.1
    refine rg [4] hs ?_
    exact rt h hs hcalm hO
  have hb4 := hs.1
  refine sk [2, 3] hs hK2 ?_
  clear hK2
  refine awp_mid (fun e st => ∃ (X_k7 : List (List AV)) (rows_k7 : List RowA), e = [] ∧ st = ⟨B ++ ([a0.cs, a1.cs] ++ X_k7), rows_k7, L⟩ ∧ Owns Rw rows_k7 [] ∧ s_has_k7 rec n  = some r) ?_ ?_
  · intro K8 hK8
    refine rg [2, 3, 17] hs ?_
    apply awp_block
    refine awp_mid (fun e st => ∃ (x18_k11 : Bool) (X_k11 : List (List AV)) (rows_k11 : List RowA), e = [(2, true, .box B.length 0), (3, true, .box (B.length + 1) 0), (17, true, .val (.int .i64 a0.kind)), (18, true, .val (.bool x18_k11))] ∧ st = ⟨B ++ ([a0.cs, a1.cs] ++ X_k11), rows_k11, L⟩ ∧ Owns Rw rows_k11 [] ∧ s_has_k11 rec n a0 a1 x18_k11 = some r) ?_ ?_
    · intro K12 hK12
      refine rg [2, 3, 17, 18] hs ?_
      refine cnd h hs (fun hs h => ?_) (fun hs h => ?_)
      · skip
        have hb14 := hs.1
        refine sk [2, 3, 17, 18] hs hK12 ?_
        exact ⟨true, ([]), Rw, ef hs, ef hs, hO, h⟩
      have hb14 := hs.1
      refine rg [2, 3, 17, 18] hs ?_
      refine cnd h hs (fun hs h => ?_) (fun hs h => ?_)
      · skip
        have hb16 := hs.1
        refine sk [2, 3, 17, 18] hs hK12 ?_
        exact ⟨true, ([]), Rw, ef hs, ef hs, hO, h⟩
      have hb16 := hs.1
      refine rg [2, 3, 17, 18] hs ?_
      refine cnd h hs (fun hs h => ?_) (fun hs h => ?_)
      · skip
        have hb18 := hs.1
        refine sk [2, 3, 17, 18] hs hK12 ?_
        exact ⟨true, ([]), Rw, ef hs, ef hs, hO, h⟩
      have hb18 := hs.1
      apply awp_region 1 [2, 3, 17, 18]
      rw [evK_succ]; simp +decide only [go_sem, Nat.reduceAdd, hb4, hb14, hb16, hb18]
      (repeat' apply And.intro) <;> first | refine hK12 _ _ ⟨(decide (a0.kind = 3)), ([]), Rw, ef hs, ef hs, hO, h⟩ | exact cl
    · clear h; rintro e st ⟨x18_k11, X_k11, rows_k11, rfl, rfl, hO, h⟩
      rw [s_has_k11] at h
      refine td hN hNR hNL hcalm hO ?_
      refine cnd h hs (fun hs h => ?_) (fun hs h => ?_)
      · skip
        have hb19 := hs.1
        refine rc 2 [4] hs ?_; intro K20 hK20
        refine callK_p _ (in_at w0 _ _ _ a1.int a0.min a0.max) (hv hs) ?_
        refine ne hs hK20 ?_
        clear hK20
        exact rt h hs hcalm hO
      have hb19 := hs.1
      refine rg [2, 3, 17, 37] hs ?_
      refine cnd h hs (fun hs h => ?_) (fun hs h => ?_)
      · skip
        have hb22 := hs.1
        apply awp_seq; intro K23 hK23
        refine rg [2, 3, 42] hs ?_
        refine cnd h hs (fun hs h => ?_) (fun hs h => ?_)
        · skip
          obtain ⟨y27, hy27, h⟩ := bind_some h
          refine rc 2 [4] hs ?_; intro K26 hK26
          refine callK_p _ (sl_Contains_string_at w0 n _ _ _ a0.words a1.text _ hy27) (hv hs) ?_
          refine ne hs hK26 ?_
          clear hK26
          exact rt h hs hcalm hO
        refine sk [2, 3] hs hK23 ?_
        clear hK23
        refine rc 2 [4] hs ?_; intro K28 hK28
        refine callK_p _ (in_at w0 _ _ _ ((a1.text.size : Int)) a0.min a0.max) (hv hs) ?_
        refine ne hs hK28 ?_
        clear hK28
        exact rt h hs hcalm hO
      have hb22 := hs.1
      refine rg [2, 3, 17, 56] hs ?_
      refine cnd h hs (fun hs h => ?_) (fun hs h => ?_)
      · skip
        have hb30 := hs.1
        refine rc 2 [4] hs ?_; intro K31 hK31
        refine callK_p _ (in_at w0 _ _ _ ((a1.text.size : Int)) a0.min a0.max) (hv hs) ?_
        refine ne hs hK31 ?_
        clear hK31
        exact rt h hs hcalm hO
      have hb30 := hs.1
      refine rg [2, 3, 17, 66] hs ?_
      refine cnd h hs (fun hs h => ?_) (fun hs h => ?_)
      · skip
        have hb33 := hs.1
        apply awp_seq; intro K34 hK34
        rcases Bool.eq_false_or_eq_true (decide (a0.min ≤ ((a1.list.length : Int))) && decide (((a1.list.length : Int)) ≤ a0.max)) with hf35 | hf35
        · replace h := ite_tt h hf35
          obtain ⟨y36, hy36, h⟩ := bind_some h
          apply awp_region 3 [4]
          rw [evK_succ]; simp +decide only [go_sem, Nat.reduceAdd, hb4, hb19, hb22, hb30, hb33, hf35]
          have hs := And.intro hf35 hs
          (repeat' apply And.intro) <;> first | refine callK_p _ (in_at w0 _ _ _ ((a1.list.length : Int)) a0.min a0.max) (hv hs) ?_ | exact cl
          rw [evK_succ]; simp +decide only [go_sem, Nat.reduceAdd, hb4, hb19, hb22, hb30, hb33, hf35]
          (repeat' apply And.intro) <;> first | refine callK_p _ (sl_ContainsFunc_Value_at w0 n _ _ _ a1.list 153 [.box B.length 0] (fun (x0 : Vl) => s_has_1_F rec x0 a0) (fun x0 r hx B' rows' hB' hR' => by exact s_has_1_at w0 rec ih _ _ _ x0 _ a0 (prefix_get hB' (ef hs)) _ hx) _ hy36) (hv hs) ?_ | exact cl
          rw [evK_succ]; simp +decide only [go_sem, Nat.reduceAdd, hb4, hb19, hb22, hb30, hb33, hf35]
          (repeat' apply And.intro) <;> first | refine hK34 _ _ ?_ | exact cl
          clear hK34
          exact rt h hs hcalm hO
        · replace h := ite_ff h hf35
          apply awp_region 3 [4]
          rw [evK_succ]; simp +decide only [go_sem, Nat.reduceAdd, hb4, hb19, hb22, hb30, hb33, hf35]
          have hs := And.intro hf35 hs
          (repeat' apply And.intro) <;> first | refine callK_p _ (in_at w0 _ _ _ ((a1.list.length : Int)) a0.min a0.max) (hv hs) ?_ | exact cl
          rw [evK_succ]; simp +decide only [go_sem, Nat.reduceAdd, hb4, hb19, hb22, hb30, hb33, hf35]
          (repeat' apply And.intro) <;> first | refine callK_skip ?_ | exact cl
          rw [evK_succ]; simp +decide only [go_sem, Nat.reduceAdd, hb4, hb19, hb22, hb30, hb33, hf35]
          (repeat' apply And.intro) <;> first | refine hK34 _ _ ?_ | exact cl
          clear hK34
          exact rt h hs hcalm hO
      have hb33 := hs.1
      refine rg [2, 3, 17, 83] hs ?_
      refine cnd h hs (fun hs h => ?_) (fun hs h => ?_)
      · skip
        have hb38 := hs.1
        obtain ⟨y40, hy40, h⟩ := bind_some h
        refine rc 2 [3, 5, 6] hs ?_; intro K39 hK39
        refine callK_p _ (s_Field_at w0 n _ _ _ a0 a1.text _ hy40) (hv hs) ?_
        refine ne hs hK39 ?_
        clear hK39
        apply awp_seq; intro K41 hK41
        rcases Bool.eq_false_or_eq_true (y40.2) with hf42 | hf42
        · replace h := ite_tt h hf42
          obtain ⟨x43, hx43, h⟩ := bind_some h
          obtain ⟨hx43a, hx43b, hx43c⟩ := idx_some hx43
          have hx43d := getD_map (f := avV) hx43c
          have hx43e : (a1.list.map avV).getD 0 .junk = _ := hx43d
          obtain ⟨y44, hy44, h⟩ := bind_some h
          apply awp_draw mix 11 2 1 [4] (by kernel_rfl)
          rw [evK_succ]; simp +decide only [go_sem, Nat.reduceAdd, hb4, hb19, hb22, hb30, hb33, hb38, hf42, hx43d, hx43e]
          have hs := And.intro hf42 hs
          have hs := And.intro hx43d hs
          have hs := And.intro hx43e hs
          (repeat' apply And.intro) <;> first | refine callK_p _ (ih _ _ _ y40.1.2.2.2.1 x43 _ hy44) (hv hs) ?_ | exact cl
          rw [evK_succ]; simp +decide only [go_sem, Nat.reduceAdd, hb4, hb19, hb22, hb30, hb33, hb38, hf42, hx43d, hx43e]
          (repeat' with_reducible apply And.intro) <;> first | (rw [evK_succ]; simp +decide only [go_sem, Nat.reduceAdd, hb4, hb19, hb22, hb30, hb33, hb38, hf42, hx43d, hx43e]) | exact cl
          (repeat' apply And.intro) <;> first | refine hK41 _ _ ?_ | exact cl
          clear hK41
          exact rt h hs hcalm hO
        · replace h := ite_ff h hf42
          apply awp_draw mix 11 2 1 [4] (by kernel_rfl)
          rw [evK_succ]; simp +decide only [go_sem, Nat.reduceAdd, hb4, hb19, hb22, hb30, hb33, hb38, hf42]
          (repeat' apply And.intro) <;> first | refine callK_skip ?_ | exact cl
          rw [evK_succ]; simp +decide only [go_sem, Nat.reduceAdd, hb4, hb19, hb22, hb30, hb33, hb38, hf42]
          (repeat' with_reducible apply And.intro) <;> first | (rw [evK_succ]; simp +decide only [go_sem, Nat.reduceAdd, hb4, hb19, hb22, hb30, hb33, hb38, hf42]) | exact cl
          (repeat' apply And.intro) <;> first | refine hK41 _ _ ?_ | exact cl
          clear hK41
          have hs := And.intro hf42 hs
          exact rt h hs hcalm hO
      have hb38 := hs.1
      refine rg [2, 3, 102] hs ?_
      refine cnd h hs (fun hs h => ?_) (fun hs h => ?_)
      · skip
        have hb46 := hs.1
        refine awp_mid (fun e st => ∃ (X_k48 : List (List AV)) (rows_k48 : List RowA), e = [(2, true, .box B.length 0), (3, true, .box (B.length + 1) 0)] ∧ st = ⟨B ++ ([a0.cs, a1.cs] ++ X_k48), rows_k48, L⟩ ∧ Owns Rw rows_k48 [] ∧ s_has_k48 rec n a0 a1  = some r) ?_ ?_
        · intro K49 hK49
          refine rg [2, 3, 105, 106, 107] hs ?_
          apply awp_block
          refine awp_loop (fun m e st => ∃ (x107_l51 : Int) (X_l51 : List (List AV)) (rows_l51 : List RowA), e = [(2, true, .box B.length 0), (3, true, .box (B.length + 1) 0), (105, true, .list (a1.fields.map avF) .none), (106, true, .val (.int .i64 ((a1.fields.length : Int)))), (107, true, .val (.int .i64 x107_l51))] ∧ st = ⟨B ++ ([a0.cs, a1.cs] ++ X_l51), rows_l51, L⟩ ∧ Owns Rw rows_l51 [] ∧ s_has_l51 rec n a0 a1 m x107_l51 = some r) n ⟨0, ([]), rows_k11, ef hs, ef hs, hO, h⟩ ?_
          rintro m_l51 e st ⟨x107_l51, X_l51, rows_l51, rfl, rfl, hO, h⟩ KR_l51 hKR_l51
          cases m_l51 with
          | zero => cases h
          | succ m_l51 =>
          rw [s_has_l51] at h
          refine td hN hNR hNL hcalm hO ?_
          refine rg [2, 3, 105, 106, 107, 108] hs ?_
          apply awp_seq; intro K53 hK53
          refine cnd h hs (fun hs h => ?_) (fun hs h => ?_)
          rotate_left
          · skip
            have hb54 := hs.1
            refine sx [2, 3] hs hK49 ?_
            exact ⟨([]), rows_l51, ef hs, ef hs, hO, h⟩
          have hb54 := hs.1
          refine sk [2, 3, 105, 106, 107] hs hK53 ?_
          clear hK53
          apply awp_seq; intro K55 hK55
          apply awp_block
          obtain ⟨x57, hx57, h⟩ := bind_some h
          obtain ⟨hx57a, hx57b, hx57c⟩ := idx_some hx57
          have hx57d := getD_map (f := avF) hx57c
          have hs := And.intro hx57d hs
          refine rg [2, 3, 8, 105, 106, 107] hs ?_
          obtain ⟨y59, hy59, h⟩ := bind_some h
          refine rc 2 [2, 3, 8, 9, 10, 105, 106, 107] hs ?_; intro K58 hK58
          refine callK_p _ (s_Field_at w0 n _ _ _ a0 x57.1 _ hy59) (hv hs) ?_
          refine ne hs hK58 ?_
          clear hK58
          apply awp_seq; intro K60 hK60
          rcases Bool.eq_false_or_eq_true (!y59.2) with hf61 | hf61
          · replace h := ite_tt h hf61
            apply awp_region 2 [2, 3, 105, 106, 107, 127]
            rw [evK_succ]; simp +decide only [go_sem, Nat.reduceAdd, hb4, hb19, hb22, hb30, hb33, hb38, hb46, hb54, hx57d, hf61]
            (repeat' apply And.intro) <;> first | refine callK_skip ?_ | exact cl
            rw [evK_succ]; simp +decide only [go_sem, Nat.reduceAdd, hb4, hb19, hb22, hb30, hb33, hb38, hb46, hb54, hx57d, hf61]
            (repeat' apply And.intro) <;> first | refine hK60 _ _ ?_ | exact cl
            clear hK60
            have hs := And.intro hf61 hs
            refine awp_cond true ev (ef hs) (fun hb62 => ?_) (fun hb62 => by cases hb62)
            refine rg [4] hs ?_
            exact rt h hs hcalm hO
          · replace h := ite_ff h hf61
            obtain ⟨y64, hy64, h⟩ := bind_some h
            apply awp_region 2 [2, 3, 105, 106, 107, 127]
            rw [evK_succ]; simp +decide only [go_sem, Nat.reduceAdd, hb4, hb19, hb22, hb30, hb33, hb38, hb46, hb54, hx57d, hf61]
            have hs := And.intro hf61 hs
            (repeat' apply And.intro) <;> first | refine callK_p _ (ih _ _ _ y59.1.2.2.2.1 x57.2 _ hy64) (hv hs) ?_ | exact cl
            rw [evK_succ]; simp +decide only [go_sem, Nat.reduceAdd, hb4, hb19, hb22, hb30, hb33, hb38, hb46, hb54, hx57d, hf61]
            (repeat' apply And.intro) <;> first | refine hK60 _ _ ?_ | exact cl
            clear hK60
            refine cnd h hs (fun hs h => ?_) (fun hs h => ?_)
            · skip
              have hb65 := hs.1
              refine rg [4] hs ?_
              exact rt h hs hcalm hO
            have hb65 := hs.1
            refine sk [2, 3, 105, 106, 107] hs hK55 ?_
            clear hK55
            obtain ⟨hg67, h⟩ := guard_some h
            apply awp_region 1 [2, 3, 105, 106, 107]
            rw [evK_succ]; simp +decide only [go_sem, Nat.reduceAdd, hb4, hb19, hb22, hb30, hb33, hb38, hb46, hb54, hx57d, hf61, hb65]
            (repeat' apply And.intro) <;> first | refine hKR_l51 m_l51 _ _ (Nat.lt_succ_self m_l51) ⟨(x107_l51 + 1), ([.val (.string x57.1) :: (x57.2.cs), .val (.int .i64 y59.1.1) :: (.val (.string y59.1.2.1) :: (.val (.int .i64 y59.1.2.2.1) :: ((y59.1.2.2.2.1.cs) ++ ([.list (y59.1.2.2.2.2.map avV) .none]))))]), rows_l51, ef hs, ef hs, hO, h⟩ | exact cl
        · clear h; rintro e st ⟨X_k48, rows_k48, rfl, rfl, hO, h⟩
          rw [s_has_k48] at h
          refine td hN hNR hNL hcalm hO ?_
          obtain ⟨y69, hy69, h⟩ := bind_some h
          refine rc 2 [4] hs ?_; intro K68 hK68
          refine callK_p _ (sl_ContainsFunc_TypeField_at w0 n _ _ _ a0.fields 155 [.box (B.length + 1) 0] (fun (x0 : Int × ByteArray × Int × Ty × List Vl) => s_has_2_F n x0 a1) (fun x0 r hx B' rows' hB' hR' => by exact s_has_2_at w0 n _ _ _ x0 _ a1 (prefix_get hB' (ef hs)) _ hx) _ hy69) (hv hs) ?_
          refine ne hs hK68 ?_
          clear hK68
          exact rt h hs hcalm hO
      have hb46 := hs.1
      refine sk [] hs hK8 ?_
      exact ⟨([]), rows_k11, ef hs, ef hs, hO, h⟩
  · clear h; rintro e st ⟨X_k7, rows_k7, rfl, rfl, hO, h⟩
    rw [s_has_k7] at h
    refine td hN hNR hNL hcalm hO ?_
    refine rg [4] hs ?_
    exact rt h hs hcalm hO
theorem s_has_at (w0 : World) : ∀ (n : Nat) (B : List (List AV)) (Rw : List RowA) (L : List LoopA) (a0 : Ty) (a1 : Vl) (r : Bool) (h : s_has_F n a0 a1 = some r), ACalls Tryz.prog w0 101 [.agg (a0.cs), .agg (a1.cs)] ⟨B, Rw, L⟩ fun x st => x = .val (.bool r) ∧ st = ⟨B, Rw, L⟩
  | 0, _, _, _, _, _, _, h => (nomatch h)
  | n + 1, B, Rw, L, a0, a1, r, h => s_has_step w0 (s_has_F n) (s_has_at w0 n) n B Rw L a0 a1 r (by rw [s_has_F] at h; exact h)
end Go.Proofs.YtggimoedcamonaaGreatDoor
namespace Go.Proofs.YtggimoedcamonaaGreatDoor
open Go Go.RowKit Go.Ev
set_option linter.unusedSimpArgs false
set_option linter.unusedVariables false
def s_accepts_F (n : Nat) (a0 : Ty) (a1 : Vl) : Option Bool :=
  (v_Check_F n a1).bind fun y3 =>
  if decide (y3 = 0) then
    (s_has_F n a0 a1).bind fun y5 =>
    some (y5)
  else
    some (false)
set_option maxRecDepth 100000 in
set_option maxHeartbeats 4000000 in
theorem s_accepts_at (w0 : World) (hT : Lib.Utf8Tabs 0 1 w0) (n : Nat) (B : List (List AV)) (Rw : List RowA) (L : List LoopA) (a0 : Ty) (a1 : Vl) (r : Bool) (h : s_accepts_F n a0 a1 = some r) :
    ACalls Tryz.prog w0 58 [.agg (a0.cs), .agg (a1.cs)] ⟨B, Rw, L⟩ fun x st => x = .val (.bool r) ∧ st = ⟨B, Rw, L⟩ := by
  rw [s_accepts_F] at h
  refine ACalls.finP (acalls_of (rs := [.tmp 4]) Tryz.func58 rfl rfl Tryz.ntmps58 (enters_some Tryz.func58 rfl (by decide)) (Nat.le_of_ble_eq_true rfl) ?_)
  intro M0 W0 hN hNR hNL hcalm hu
  dsimp only at hN hNR hNL hcalm hu
  simp only [argsE]
  have hO := Owns.none Rw
  have hs := fact0
  refine rg [2, 3] hs ?_
  apply awp_seq; intro K2 hK2
  obtain ⟨y3, hy3, h⟩ := bind_some h
  rcases Bool.eq_false_or_eq_true (decide (y3 = 0)) with hf4 | hf4
  · replace h := ite_tt h hf4
    obtain ⟨y5, hy5, h⟩ := bind_some h
    apply awp_region 3 [4]
    rw [evK_succ]; simp +decide only [go_sem, Nat.reduceAdd, hf4]
    have hs := And.intro hf4 hs
    (repeat' apply And.intro) <;> first | refine callK_p _ (v_Check_at w0 hT n _ _ _ a1 _ hy3) (hv hs) ?_ | exact cl
    rw [evK_succ]; simp +decide only [go_sem, Nat.reduceAdd, hf4]
    (repeat' apply And.intro) <;> first | refine callK_p _ (s_has_at w0 n _ _ _ a0 a1 _ hy5) (hv hs) ?_ | exact cl
    rw [evK_succ]; simp +decide only [go_sem, Nat.reduceAdd, hf4]
    (repeat' apply And.intro) <;> first | refine hK2 _ _ ?_ | exact cl
    clear hK2
    exact rt h hs hcalm hO
  · replace h := ite_ff h hf4
    apply awp_region 3 [4]
    rw [evK_succ]; simp +decide only [go_sem, Nat.reduceAdd, hf4]
    have hs := And.intro hf4 hs
    (repeat' apply And.intro) <;> first | refine callK_p _ (v_Check_at w0 hT n _ _ _ a1 _ hy3) (hv hs) ?_ | exact cl
    rw [evK_succ]; simp +decide only [go_sem, Nat.reduceAdd, hf4]
    (repeat' apply And.intro) <;> first | refine callK_skip ?_ | exact cl
    rw [evK_succ]; simp +decide only [go_sem, Nat.reduceAdd, hf4]
    (repeat' apply And.intro) <;> first | refine hK2 _ _ ?_ | exact cl
    clear hK2
    exact rt h hs hcalm hO
end Go.Proofs.YtggimoedcamonaaGreatDoor
namespace Go.Proofs.YtggimoedcamonaaGreatDoor
open Go Go.RowKit Go.Ev
set_option linter.unusedSimpArgs false
set_option linter.unusedVariables false
def s_field_1_F (a0 : Int × ByteArray × Int × Ty × List Vl) (a1 : Int × ByteArray × Int × Ty × List Vl) : Bool :=
  (sEq a0.2.1 a1.2.1) || (decide (a0.1 = a1.1))
set_option maxRecDepth 100000 in
set_option maxHeartbeats 4000000 in
theorem s_field_1_at (w0 : World) (B : List (List AV)) (Rw : List RowA) (L : List LoopA) (a0 : Int × ByteArray × Int × Ty × List Vl) (la1 : Nat) (a1 : Int × ByteArray × Int × Ty × List Vl) (hla1 : B[la1]? = some (.val (.int .i64 a1.1) :: (.val (.string a1.2.1) :: (.val (.int .i64 a1.2.2.1) :: ((a1.2.2.2.1.cs) ++ ([.list (a1.2.2.2.2.map avV) .none])))))) (r : Bool) (h : s_field_1_F a0 a1 = r) :
    ACalls Tryz.prog w0 180 [.agg (.val (.int .i64 a0.1) :: (.val (.string a0.2.1) :: (.val (.int .i64 a0.2.2.1) :: ((a0.2.2.2.1.cs) ++ ([.list (a0.2.2.2.2.map avV) .none]))))), .box la1 0] ⟨B, Rw, L⟩ fun x st => x = .val (.bool r) ∧ st = ⟨B, Rw, L⟩ := by
  rw [s_field_1_F] at h
  refine ACalls.finP (acalls_of (rs := [.tmp 3]) Tryz.func180 rfl rfl Tryz.ntmps180 (enters_some Tryz.func180 rfl (by decide)) (Nat.le_of_ble_eq_true rfl) ?_)
  intro M0 W0 hN hNR hNL hcalm hu
  dsimp only at hN hNR hNL hcalm hu
  simp only [argsE]
  have hO := Owns.none Rw
  have hs := fact0
  have hltla1 := (List.getElem?_eq_some_iff.1 hla1).1
  have hs := And.intro (ptr_of hla1) hs
  refine rg [1, 2] hs ?_
  refine rg [3] hs ?_
  apply awp_ret; simp +decide only [go_sem, Nat.reduceAdd, ptr_of hla1]
  subst h
  first | refine fin_q0 hcalm rfl hO.pre ev ⟨?_, rfl⟩ | refine fin_q hcalm rfl hO.pre ev ⟨?_, rfl⟩
  first | rfl | (simp +decide only [go_sem, Nat.reduceAdd, ptr_of hla1]; done) | (simp +decide only [go_sem, Nat.reduceAdd, Vl.cs, Ty.cs, ptr_of hla1]; done)
theorem s_field_1_at' (w0 : World) (B : List (List AV)) (Rw : List RowA) (L : List LoopA) (a0 : Int × ByteArray × Int × Ty × List Vl) (la1 : Nat) (a1 : Int × ByteArray × Int × Ty × List Vl) (hla1 : B[la1]? = some (.val (.int .i64 a1.1) :: (.val (.string a1.2.1) :: (.val (.int .i64 a1.2.2.1) :: ((a1.2.2.2.1.cs) ++ ([.list (a1.2.2.2.2.map avV) .none])))))) :
    ACalls Tryz.prog w0 180 [.agg (.val (.int .i64 a0.1) :: (.val (.string a0.2.1) :: (.val (.int .i64 a0.2.2.1) :: ((a0.2.2.2.1.cs) ++ ([.list (a0.2.2.2.2.map avV) .none]))))), .box la1 0] ⟨B, Rw, L⟩ fun x st => x = .val (.bool (s_field_1_F a0 a1)) ∧ st = ⟨B, Rw, L⟩ := s_field_1_at w0 B Rw L a0 la1 a1 hla1 _ rfl
end Go.Proofs.YtggimoedcamonaaGreatDoor
namespace Go.Proofs.YtggimoedcamonaaGreatDoor
open Go Go.RowKit Go.Ev
set_option linter.unusedSimpArgs false
set_option linter.unusedVariables false
def s_field_F (n : Nat) (a0 : Ty) (a1 : Int) : Option Int :=
  (idx a0.fields a1).bind fun x3 =>
  if x3.2.1.size ≤ maxLen then
    if !(nameB x3.2.1) then
      some (12)
    else
      if !(decide (1 ≤ x3.1) && decide (x3.1 ≤ 9999)) then
        some (2)
      else
        if 0 ≤ 0 ∧ 0 ≤ a1 ∧ a1 ≤ (a0.fields.length : Int) then
          (sl_ContainsFunc_TypeField_F n (a0.fields.take a1.toNat) (fun (x0 : Int × ByteArray × Int × Ty × List Vl) => some (s_field_1_F x0 x3))).bind fun y14 =>
          if y14 then
            some (7)
          else
            if (!(decide (1 ≤ x3.2.2.1) && decide (x3.2.2.1 ≤ 3))) || ((decide (a0.kind = 10)) && (!(decide (x3.2.2.1 = 1)))) then
              some (11)
            else
              if (decide (x3.2.2.1 = 3)) && (decide (((x3.2.2.2.2.length : Int)) = 0)) then
                some (4)
              else
                if (decide (1 < ((x3.2.2.2.2.length : Int)))) || ((!(decide (x3.2.2.1 = 3))) && (decide (0 < ((x3.2.2.2.2.length : Int))))) then
                  some (3)
                else
                  some (0)
        else none
  else none
set_option maxRecDepth 100000 in
set_option maxHeartbeats 4000000 in
theorem s_field_at (w0 : World) (n : Nat) (B : List (List AV)) (Rw : List RowA) (L : List LoopA) (a0 : Ty) (a1 : Int) (r : Int) (h : s_field_F n a0 a1 = some r) :
    ACalls Tryz.prog w0 143 [.agg (a0.cs), .val (.int .i64 a1)] ⟨B, Rw, L⟩ fun x st => x = .val (.int .i64 r) ∧ st = ⟨B, Rw, L⟩ := by
  rw [s_field_F] at h
  refine ACalls.finP (acalls_of (rs := [.tmp 4]) Tryz.func143 rfl rfl Tryz.ntmps143 (enters_some Tryz.func143 rfl (by decide)) (Nat.le_of_ble_eq_true rfl) ?_)
  intro M0 W0 hN hNR hNL hcalm hu
  dsimp only at hN hNR hNL hcalm hu
  simp only [argsE]
  have hO := Owns.none Rw
  have hs := fact0
  refine rg [1, 2] hs ?_
  obtain ⟨x3, hx3, h⟩ := bind_some h
  obtain ⟨hx3a, hx3b, hx3c⟩ := idx_some hx3
  have hx3d := getD_map (f := avTF) hx3c
  have hs := And.intro hx3d hs
  refine rg [1, 2, 5] hs ?_
  apply awp_seq; intro K4 hK4
  apply awp_block
  obtain ⟨hg6, h⟩ := guard_some h
  refine rc 2 [1, 2, 5, 11] hs ?_; intro K5 hK5
  refine callK_p _ (IsName_at w0 _ _ _ x3.2.1 hg6) (hv hs) ?_
  refine ne hs hK5 ?_
  clear hK5
  refine cnd h hs (fun hs h => ?_) (fun hs h => ?_)
  · skip
    refine rg [4] hs ?_
    exact rt h hs hcalm hO
  refine rc 2 [1, 2, 5, 16] hs ?_; intro K9 hK9
  refine callK_p _ (in_at w0 _ _ _ x3.1 1 9999) (hv hs) ?_
  refine ne hs hK9 ?_
  clear hK9
  refine cnd h hs (fun hs h => ?_) (fun hs h => ?_)
  · skip
    refine rg [4] hs ?_
    exact rt h hs hcalm hO
  obtain ⟨hg13, h⟩ := guard_some h
  obtain ⟨y14, hy14, h⟩ := bind_some h
  refine rc 2 [2, 5, 21] hs ?_; intro K12 hK12
  refine callK_p _ (sl_ContainsFunc_TypeField_at w0 n _ _ _ (a0.fields.take a1.toNat) 180 [.box (B.length + 1) 0] (fun (x0 : Int × ByteArray × Int × Ty × List Vl) => some (s_field_1_F x0 x3)) (fun x0 r hx B' rows' hB' hR' => by cases hx; exact s_field_1_at' w0 _ _ _ x0 _ x3 (prefix_get hB' (ef hs))) _ hy14) (hv hs) ?_
  refine ne hs hK12 ?_
  clear hK12
  refine cnd h hs (fun hs h => ?_) (fun hs h => ?_)
  · skip
    refine rg [4] hs ?_
    exact rt h hs hcalm hO
  refine rc 2 [5, 28] hs ?_; intro K17 hK17
  refine callK_p _ (in_at w0 _ _ _ x3.2.2.1 1 3) (hv hs) ?_
  refine ne hs hK17 ?_
  clear hK17
  refine cnd h hs (fun hs h => ?_) (fun hs h => ?_)
  · skip
    refine rg [4] hs ?_
    exact rt h hs hcalm hO
  refine rg [5, 43] hs ?_
  refine cnd h hs (fun hs h => ?_) (fun hs h => ?_)
  · skip
    refine rg [4] hs ?_
    exact rt h hs hcalm hO
  refine rg [53] hs ?_
  refine cnd h hs (fun hs h => ?_) (fun hs h => ?_)
  · skip
    refine rg [4] hs ?_
    exact rt h hs hcalm hO
  refine sk [] hs hK4 ?_
  clear hK4
  refine rg [4] hs ?_
  exact rt h hs hcalm hO
end Go.Proofs.YtggimoedcamonaaGreatDoor
namespace Go.Proofs.YtggimoedcamonaaGreatDoor
open Go Go.RowKit Go.Ev
set_option linter.unusedSimpArgs false
set_option linter.unusedVariables false
def s_form_k4  (x5_k4 : Bool) : Int :=
  if x5_k4 then
    3
  else
    0
def s_form_F (a0 : Ty) (a1 : Lim) : Int :=
  if (!a1.bounds) && ((!(decide (a0.min = 0))) || (!(decide (a0.max = 0)))) then
    s_form_k4  true
  else
    if (!a1.scale) && (!(decide (a0.scale = 0))) then
      s_form_k4  true
    else
      if (!a1.text) && (decide (0 < ((a0.words.length : Int)))) then
        s_form_k4  true
      else
        if (!a1.list) && (decide (0 < ((a0.elem.length : Int)))) then
          s_form_k4  true
        else
          s_form_k4  ((!a1.fields) && (decide (0 < ((a0.fields.length : Int)))))
set_option maxRecDepth 100000 in
set_option maxHeartbeats 4000000 in
theorem s_form_at (w0 : World) (B : List (List AV)) (Rw : List RowA) (L : List LoopA) (a0 : Ty) (a1 : Lim) (r : Int) (h : s_form_F a0 a1 = r) :
    ACalls Tryz.prog w0 141 [.agg (a0.cs), .agg (.val (.string a1.name) :: (.val (.int .i64 a1.low) :: (.val (.int .i64 a1.high) :: (.val (.bool a1.bounds) :: (.val (.bool a1.scale) :: (.val (.bool a1.text) :: (.val (.bool a1.list) :: ([.val (.bool a1.fields)]))))))))] ⟨B, Rw, L⟩ fun x st => x = .val (.int .i64 r) ∧ st = ⟨B, Rw, L⟩ := by
  rw [s_form_F] at h
  refine ACalls.finP (acalls_of (rs := [.tmp 4]) Tryz.func141 rfl rfl Tryz.ntmps141 (enters_some Tryz.func141 rfl (by decide)) (Nat.le_of_ble_eq_true rfl) ?_)
  intro M0 W0 hN hNR hNL hcalm hu
  dsimp only at hN hNR hNL hcalm hu
  simp only [argsE]
  have hO := Owns.none Rw
  have hs := fact0
  refine rg [2, 3] hs ?_
  apply awp_seq; intro K2 hK2
  apply awp_block
  refine awp_mid (fun e st => ∃ (x5_k4 : Bool) (X_k4 : List (List AV)) (rows_k4 : List RowA), e = [(5, true, .val (.bool x5_k4))] ∧ st = ⟨B ++ ([a0.cs, .val (.string a1.name) :: (.val (.int .i64 a1.low) :: (.val (.int .i64 a1.high) :: (.val (.bool a1.bounds) :: (.val (.bool a1.scale) :: (.val (.bool a1.text) :: (.val (.bool a1.list) :: ([.val (.bool a1.fields)])))))))] ++ X_k4), rows_k4, L⟩ ∧ Owns Rw rows_k4 [] ∧ s_form_k4  x5_k4 = r) ?_ ?_
  · intro K5 hK5
    refine rg [2, 3, 5] hs ?_
    refine cnd h hs (fun hs h => ?_) (fun hs h => ?_)
    · skip
      have hb7 := hs.1
      refine sk [5] hs hK5 ?_
      exact ⟨true, ([]), Rw, ef hs, ef hs, hO, h⟩
    have hb7 := hs.1
    refine rg [2, 3, 5] hs ?_
    refine cnd h hs (fun hs h => ?_) (fun hs h => ?_)
    · skip
      have hb9 := hs.1
      refine sk [5] hs hK5 ?_
      exact ⟨true, ([]), Rw, ef hs, ef hs, hO, h⟩
    have hb9 := hs.1
    refine rg [2, 3, 5] hs ?_
    refine cnd h hs (fun hs h => ?_) (fun hs h => ?_)
    · skip
      have hb11 := hs.1
      refine sk [5] hs hK5 ?_
      exact ⟨true, ([]), Rw, ef hs, ef hs, hO, h⟩
    have hb11 := hs.1
    refine rg [2, 3, 5] hs ?_
    refine cnd h hs (fun hs h => ?_) (fun hs h => ?_)
    · skip
      have hb13 := hs.1
      refine sk [5] hs hK5 ?_
      exact ⟨true, ([]), Rw, ef hs, ef hs, hO, h⟩
    have hb13 := hs.1
    apply awp_region 1 [5]
    rw [evK_succ]; simp +decide only [go_sem, Nat.reduceAdd, hb7, hb9, hb11, hb13]
    (repeat' apply And.intro) <;> first | refine hK5 _ _ ⟨((!a1.fields) && (decide (0 < ((a0.fields.length : Int))))), ([]), Rw, ef hs, ef hs, hO, h⟩ | exact cl
  · clear h; rintro e st ⟨x5_k4, X_k4, rows_k4, rfl, rfl, hO, h⟩
    rw [s_form_k4] at h
    refine td hN hNR hNL hcalm hO ?_
    refine cnd h hs (fun hs h => ?_) (fun hs h => ?_)
    · skip
      have hb14 := hs.1
      refine rg [4] hs ?_
      apply awp_ret; simp +decide only [go_sem, Nat.reduceAdd, hb14]
      subst h
      first | refine fin_q0 hcalm rfl hO.pre ev ⟨?_, rfl⟩ | refine fin_q hcalm rfl hO.pre ev ⟨?_, rfl⟩
      first | rfl | (simp +decide only [go_sem, Nat.reduceAdd, hb14]; done) | (simp +decide only [go_sem, Nat.reduceAdd, Vl.cs, Ty.cs, hb14]; done)
    have hb14 := hs.1
    refine sk [] hs hK2 ?_
    clear hK2
    refine rg [4] hs ?_
    apply awp_ret; simp +decide only [go_sem, Nat.reduceAdd, hb14]
    subst h
    first | refine fin_q0 hcalm rfl hO.pre ev ⟨?_, rfl⟩ | refine fin_q hcalm rfl hO.pre ev ⟨?_, rfl⟩
    first | rfl | (simp +decide only [go_sem, Nat.reduceAdd, hb14]; done) | (simp +decide only [go_sem, Nat.reduceAdd, Vl.cs, Ty.cs, hb14]; done)
theorem s_form_at' (w0 : World) (B : List (List AV)) (Rw : List RowA) (L : List LoopA) (a0 : Ty) (a1 : Lim) :
    ACalls Tryz.prog w0 141 [.agg (a0.cs), .agg (.val (.string a1.name) :: (.val (.int .i64 a1.low) :: (.val (.int .i64 a1.high) :: (.val (.bool a1.bounds) :: (.val (.bool a1.scale) :: (.val (.bool a1.text) :: (.val (.bool a1.list) :: ([.val (.bool a1.fields)]))))))))] ⟨B, Rw, L⟩ fun x st => x = .val (.int .i64 (s_form_F a0 a1)) ∧ st = ⟨B, Rw, L⟩ := s_form_at w0 B Rw L a0 a1 _ rfl
end Go.Proofs.YtggimoedcamonaaGreatDoor
namespace Go.Proofs.YtggimoedcamonaaGreatDoor
open Go Go.RowKit Go.Ev
set_option linter.unusedSimpArgs false
set_option linter.unusedVariables false
def s_kinds_F  : ((List Lim)) :=
  [Lim.mk ((⟨#[]⟩ : ByteArray)) 0 0 false false false false false, Lim.mk ((⟨#[98, 111, 111, 108]⟩ : ByteArray)) 0 0 false false false false false, Lim.mk ((⟨#[105, 110, 116]⟩ : ByteArray)) ((-999999999999999)) 999999999999999 true false false false false, Lim.mk ((⟨#[100, 101, 99, 105, 109, 97, 108]⟩ : ByteArray)) ((-999999999999999)) 999999999999999 true true false false false, Lim.mk ((⟨#[116, 101, 120, 116]⟩ : ByteArray)) 0 1024 true false true false false, Lim.mk ((⟨#[98, 121, 116, 101, 115]⟩ : ByteArray)) 0 1024 true false false false false, Lim.mk ((⟨#[100, 97, 116, 101]⟩ : ByteArray)) ((-719162)) 2932896 true false false false false, Lim.mk ((⟨#[116, 105, 109, 101]⟩ : ByteArray)) ((-62135596800000)) 253402300799999 true false false false false, Lim.mk ((⟨#[108, 105, 115, 116]⟩ : ByteArray)) 0 256 true false false true false, Lim.mk ((⟨#[114, 101, 99, 111, 114, 100]⟩ : ByteArray)) 0 0 false false false false true, Lim.mk ((⟨#[118, 97, 114, 105, 97, 110, 116]⟩ : ByteArray)) 0 0 false false false false true]
set_option maxRecDepth 100000 in
set_option maxHeartbeats 4000000 in
theorem s_kinds_at (w0 : World) (B : List (List AV)) (Rw : List RowA) (L : List LoopA)  (r : (List Lim)) (h : s_kinds_F  = r) :
    ACalls Tryz.prog w0 75 [] ⟨B, Rw, L⟩ fun x st => x = .agg (r.flatMap fun x => (avLm x).cells) ∧ st = ⟨B, Rw, L⟩ := by
  rw [s_kinds_F] at h
  refine ACalls.finP (acalls_of (rs := [.cell 0 102]) Tryz.func75 rfl rfl Tryz.ntmps75 (enters_some Tryz.func75 rfl (by decide)) (Nat.le_of_ble_eq_true rfl) ?_)
  intro M0 W0 hN hNR hNL hcalm hu
  dsimp only at hN hNR hNL hcalm hu
  simp only [argsE]
  have hO := Owns.none Rw
  have hs := fact0
  refine rg [0] hs ?_
  apply awp_seq; intro K2 hK2
  apply awp_region 1 [0]
  rw [evK_succ]; simp +decide only [go_sem, Nat.reduceAdd, fillA, fillOk, placeT, List.getElem?_cons_zero, List.getElem?_cons_succ, List.nil_append, List.cons_append]
  (repeat' apply And.intro) <;> first | refine hK2 _ _ ?_ | exact cl
  clear hK2
  apply awp_ret; simp +decide only [go_sem, Nat.reduceAdd]
  subst h
  first | refine fin_q0 hcalm rfl hO.pre ev ⟨?_, rfl⟩ | refine fin_q hcalm rfl hO.pre ev ⟨?_, rfl⟩
  first | rfl | (simp +decide only [go_sem, Nat.reduceAdd]; done) | (simp +decide only [go_sem, Nat.reduceAdd, Vl.cs, Ty.cs]; done)
theorem s_kinds_at' (w0 : World) (B : List (List AV)) (Rw : List RowA) (L : List LoopA)  :
    ACalls Tryz.prog w0 75 [] ⟨B, Rw, L⟩ fun x st => x = .agg ((s_kinds_F ).flatMap fun x => (avLm x).cells) ∧ st = ⟨B, Rw, L⟩ := s_kinds_at w0 B Rw L  _ rfl
end Go.Proofs.YtggimoedcamonaaGreatDoor
namespace Go.Proofs.YtggimoedcamonaaGreatDoor
open Go Go.RowKit Go.Ev
set_option linter.unusedSimpArgs false
set_option linter.unusedVariables false
def v_Text_F (a0 : ByteArray) : Vl :=
  Vl.mk 4 0 0 a0 ([]) ([])
set_option maxRecDepth 100000 in
set_option maxHeartbeats 4000000 in
theorem v_Text_at (w0 : World) (B : List (List AV)) (Rw : List RowA) (L : List LoopA) (a0 : ByteArray) (r : Vl) (h : v_Text_F a0 = r) :
    ACalls Tryz.prog w0 105 [.val (.string a0)] ⟨B, Rw, L⟩ fun x st => x = .agg (r.cs) ∧ st = ⟨B, Rw, L⟩ := by
  rw [v_Text_F] at h
  refine ACalls.finP (acalls_of (rs := [.cell 2 34]) Tryz.func105 rfl rfl Tryz.ntmps105 (enters_some Tryz.func105 rfl (by decide)) (Nat.le_of_ble_eq_true rfl) ?_)
  intro M0 W0 hN hNR hNL hcalm hu
  dsimp only at hN hNR hNL hcalm hu
  simp only [argsE]
  have hO := Owns.none Rw
  have hs := fact0
  refine rg [0, 2] hs ?_
  apply awp_seq; intro K2 hK2
  apply awp_region 1 [2]
  rw [evK_succ]; simp +decide only [go_sem, Nat.reduceAdd, fillA, fillOk, placeT]
  (repeat' apply And.intro) <;> first | refine hK2 _ _ ?_ | exact cl
  clear hK2
  apply awp_ret; simp +decide only [go_sem, Nat.reduceAdd]
  subst h
  first | refine fin_q0 hcalm rfl hO.pre ev ⟨?_, rfl⟩ | refine fin_q hcalm rfl hO.pre ev ⟨?_, rfl⟩
  first | rfl | (simp +decide only [go_sem, Nat.reduceAdd]; done) | (simp +decide only [go_sem, Nat.reduceAdd, Vl.cs, Ty.cs]; done)
theorem v_Text_at' (w0 : World) (B : List (List AV)) (Rw : List RowA) (L : List LoopA) (a0 : ByteArray) :
    ACalls Tryz.prog w0 105 [.val (.string a0)] ⟨B, Rw, L⟩ fun x st => x = .agg ((v_Text_F a0).cs) ∧ st = ⟨B, Rw, L⟩ := v_Text_at w0 B Rw L a0 _ rfl
end Go.Proofs.YtggimoedcamonaaGreatDoor
namespace Go.Proofs.YtggimoedcamonaaGreatDoor
open Go Go.RowKit Go.Ev
set_option linter.unusedSimpArgs false
set_option linter.unusedVariables false
def s_words_k10 (n : Nat)  : Option Int :=
  some (0)
def s_words_l13 (n : Nat) (a0 : Ty) : Nat → Int → Option Int
  | 0, _ => none
  | m + 1, x23_l13 =>
    if decide (x23_l13 < ((a0.words.length : Int))) then
      (idx a0.words x23_l13).bind fun x19 =>
      (v_Check_F n (v_Text_F x19)).bind fun y22 =>
      if !(decide (y22 = 0)) then
        some (y22)
      else
        if decide (0 < x23_l13) then
          if I64 (x23_l13 - 1) then
            (idx a0.words (x23_l13 - 1)).bind fun x30 =>
            if sEq x19 x30 then
              some (7)
            else
              if I64 (x23_l13 - 1) then
                if sLt x19 x30 then
                  some (24)
                else
                  if I64 (x23_l13 + 1) then
                    (s_words_l13 n a0 m) (x23_l13 + 1)
                  else none
              else none
          else none
        else
          if I64 (x23_l13 + 1) then
            (s_words_l13 n a0 m) (x23_l13 + 1)
          else none
    else
      s_words_k10 n 
def s_words_F (n : Nat) (a0 : Ty) : Option Int :=
  if (!(decide (a0.min = 0))) || (!(decide (a0.max = 0))) then
    some (3)
  else
    if decide (64 < ((a0.words.length : Int))) then
      some (9)
    else
      s_words_l13 n a0 n 0
set_option maxRecDepth 100000 in
set_option maxHeartbeats 4000000 in
theorem s_words_at (w0 : World) (hT : Lib.Utf8Tabs 0 1 w0) (n : Nat) (B : List (List AV)) (Rw : List RowA) (L : List LoopA) (a0 : Ty) (r : Int) (h : s_words_F n a0 = some r) :
    ACalls Tryz.prog w0 142 [.agg (a0.cs)] ⟨B, Rw, L⟩ fun x st => x = .val (.int .i64 r) ∧ st = ⟨B, Rw, L⟩ := by
  rw [s_words_F] at h
  refine ACalls.finP (acalls_of (rs := [.tmp 2]) Tryz.func142 rfl rfl Tryz.ntmps142 (enters_some Tryz.func142 rfl (by decide)) (Nat.le_of_ble_eq_true rfl) ?_)
  intro M0 W0 hN hNR hNL hcalm hu
  dsimp only at hN hNR hNL hcalm hu
  simp only [argsE]
  have hO := Owns.none Rw
  have hs := fact0
  refine rg [1] hs ?_
  apply awp_seq; intro K2 hK2
  apply awp_block
  refine rg [1, 6] hs ?_
  refine cnd h hs (fun hs h => ?_) (fun hs h => ?_)
  · skip
    have hb4 := hs.1
    refine rg [2] hs ?_
    exact rt h hs hcalm hO
  have hb4 := hs.1
  refine rg [1, 15] hs ?_
  refine cnd h hs (fun hs h => ?_) (fun hs h => ?_)
  · skip
    have hb7 := hs.1
    refine rg [2] hs ?_
    exact rt h hs hcalm hO
  have hb7 := hs.1
  refine sk [1] hs hK2 ?_
  clear hK2
  refine awp_mid (fun e st => ∃ (X_k10 : List (List AV)) (rows_k10 : List RowA), e = [] ∧ st = ⟨B ++ ([a0.cs] ++ X_k10), rows_k10, L⟩ ∧ Owns Rw rows_k10 [] ∧ s_words_k10 n  = some r) ?_ ?_
  · intro K11 hK11
    refine rg [1, 21, 22, 23] hs ?_
    apply awp_block
    refine awp_loop (fun m e st => ∃ (x23_l13 : Int) (X_l13 : List (List AV)) (rows_l13 : List RowA), e = [(1, true, .box B.length 0), (21, true, .list (a0.words.map avS) .none), (22, true, .val (.int .i64 ((a0.words.length : Int)))), (23, true, .val (.int .i64 x23_l13))] ∧ st = ⟨B ++ ([a0.cs] ++ X_l13), rows_l13, L⟩ ∧ Owns Rw rows_l13 [] ∧ s_words_l13 n a0 m x23_l13 = some r) n ⟨0, ([]), Rw, ef hs, ef hs, hO, h⟩ ?_
    rintro m_l13 e st ⟨x23_l13, X_l13, rows_l13, rfl, rfl, hO, h⟩ KR_l13 hKR_l13
    cases m_l13 with
    | zero => cases h
    | succ m_l13 =>
    rw [s_words_l13] at h
    refine td hN hNR hNL hcalm hO ?_
    refine rg [1, 21, 22, 23, 24] hs ?_
    apply awp_seq; intro K15 hK15
    refine cnd h hs (fun hs h => ?_) (fun hs h => ?_)
    rotate_left
    · skip
      have hb16 := hs.1
      refine sx [] hs hK11 ?_
      exact ⟨([]), rows_l13, ef hs, ef hs, hO, h⟩
    have hb16 := hs.1
    refine sk [1, 21, 22, 23] hs hK15 ?_
    clear hK15
    apply awp_seq; intro K17 hK17
    apply awp_block
    obtain ⟨x19, hx19, h⟩ := bind_some h
    obtain ⟨hx19a, hx19b, hx19c⟩ := idx_some hx19
    have hx19d := getD_map (f := avS) hx19c
    have hs := And.intro hx19d hs
    refine rg [1, 3, 4, 21, 22, 23] hs ?_
    apply awp_seq; intro K20 hK20
    obtain ⟨y22, hy22, h⟩ := bind_some h
    refine rc 3 [1, 3, 4, 5, 21, 22, 23] hs ?_; intro K21 hK21
    refine callK_p _ (v_Text_at' w0 _ _ _ x19) (hv hs) ?_
    refine nc hs ?_
    refine callK_p _ (v_Check_at w0 hT n _ _ _ (v_Text_F x19) _ hy22) (hv hs) ?_
    refine ne hs hK21 ?_
    clear hK21
    refine rg [1, 3, 4, 5, 21, 22, 23, 32] hs ?_
    refine cnd h hs (fun hs h => ?_) (fun hs h => ?_)
    · skip
      have hb24 := hs.1
      refine rg [2] hs ?_
      exact rt h hs hcalm hO
    have hb24 := hs.1
    refine sk [1, 3, 4, 21, 22, 23] hs hK20 ?_
    clear hK20
    apply awp_seq; intro K26 hK26
    apply awp_seq; intro K27 hK27
    rcases Bool.eq_false_or_eq_true (decide (0 < x23_l13)) with hf28 | hf28
    · replace h := ite_tt h hf28
      obtain ⟨hg29, h⟩ := guard_some h
      obtain ⟨x30, hx30, h⟩ := bind_some h
      obtain ⟨hx30a, hx30b, hx30c⟩ := idx_some hx30
      have hx30d := getD_map (f := avS) hx30c
      apply awp_region 1 [1, 3, 4, 21, 22, 23, 45]
      rw [evK_succ]; simp +decide only [go_sem, Nat.reduceAdd, hb4, hb7, hb16, hx19d, hb24, hf28, hx30d]
      (repeat' apply And.intro) <;> first | refine hK27 _ _ ?_ | exact cl
      clear hK27
      have hs := And.intro hf28 hs
      have hs := And.intro hx30d hs
      refine cnd h hs (fun hs h => ?_) (fun hs h => ?_)
      · skip
        have hb31 := hs.1
        refine rg [2] hs ?_
        exact rt h hs hcalm hO
      have hb31 := hs.1
      refine sk [1, 3, 4, 21, 22, 23] hs hK26 ?_
      clear hK26
      obtain ⟨hg34, h⟩ := guard_some h
      refine rg [1, 21, 22, 23, 57] hs ?_
      refine cnd h hs (fun hs h => ?_) (fun hs h => ?_)
      · skip
        have hb35 := hs.1
        refine rg [2] hs ?_
        exact rt h hs hcalm hO
      have hb35 := hs.1
      refine sk [1, 21, 22, 23] hs hK17 ?_
      clear hK17
      obtain ⟨hg37, h⟩ := guard_some h
      apply awp_region 1 [1, 21, 22, 23]
      rw [evK_succ]; simp +decide only [go_sem, Nat.reduceAdd, hb4, hb7, hb16, hx19d, hb24, hf28, hx30d, hb31, hb35]
      (repeat' apply And.intro) <;> first | refine hKR_l13 m_l13 _ _ (Nat.lt_succ_self m_l13) ⟨(x23_l13 + 1), ([]), rows_l13, ef hs, ef hs, hO, h⟩ | exact cl
    · replace h := ite_ff h hf28
      apply awp_region 1 [1, 3, 4, 21, 22, 23, 45]
      rw [evK_succ]; simp +decide only [go_sem, Nat.reduceAdd, hb4, hb7, hb16, hx19d, hb24, hf28]
      (repeat' apply And.intro) <;> first | refine hK27 _ _ ?_ | exact cl
      clear hK27
      have hs := And.intro hf28 hs
      refine awp_cond false ev (ef hs) (fun hb38 => by cases hb38) (fun hb38 => ?_)
      refine sk [1, 3, 4, 21, 22, 23] hs hK26 ?_
      clear hK26
      refine rg [1, 21, 22, 23, 57] hs ?_
      refine awp_cond false ev (ef hs) (fun hb40 => by cases hb40) (fun hb40 => ?_)
      refine sk [1, 21, 22, 23] hs hK17 ?_
      clear hK17
      obtain ⟨hg41, h⟩ := guard_some h
      apply awp_region 1 [1, 21, 22, 23]
      rw [evK_succ]; simp +decide only [go_sem, Nat.reduceAdd, hb4, hb7, hb16, hx19d, hb24, hf28]
      (repeat' apply And.intro) <;> first | refine hKR_l13 m_l13 _ _ (Nat.lt_succ_self m_l13) ⟨(x23_l13 + 1), ([]), rows_l13, ef hs, ef hs, hO, h⟩ | exact cl
  · clear h; rintro e st ⟨X_k10, rows_k10, rfl, rfl, hO, h⟩
    rw [s_words_k10] at h
    refine td hN hNR hNL hcalm hO ?_
    refine rg [2] hs ?_
    exact rt h hs hcalm hO
end Go.Proofs.YtggimoedcamonaaGreatDoor
namespace Go.Proofs.YtggimoedcamonaaGreatDoor
open Go Go.RowKit Go.Ev
set_option linter.unusedSimpArgs false
set_option linter.unusedVariables false
def s_own_k45 (n : Nat)  : Option Int :=
  some (0)
def s_own_l48 (n : Nat) (a0 : Ty) : Nat → Int → Option Int
  | 0, _ => none
  | m + 1, x106_l48 =>
    if decide (x106_l48 < ((a0.fields.length : Int))) then
      (s_field_F n a0 x106_l48).bind fun y55 =>
      if !(decide (y55 = 0)) then
        some (y55)
      else
        if I64 (x106_l48 + 1) then
          (s_own_l48 n a0 m) (x106_l48 + 1)
        else none
    else
      s_own_k45 n 
def s_own_k32 (n : Nat) (a0 : Ty) (x69_k32 : Bool) : Option Int :=
  if x69_k32 then
    some (4)
  else
    if (decide (a0.kind = 8)) && (decide (1 < ((a0.elem.length : Int)))) then
      some (3)
    else
      if decide (64 < ((a0.fields.length : Int))) then
        some (9)
      else
        s_own_l48 n a0 n 0
def s_own_k14 (n : Nat) (a0 : Ty) : Option Int :=
  if (decide (a0.kind = 8)) && (decide (((a0.elem.length : Int)) = 0)) then
    s_own_k32 n a0 true
  else
    s_own_k32 n a0 ((decide (a0.kind = 10)) && (decide (((a0.fields.length : Int)) = 0)))
def s_own_k24 (n : Nat) (a0 : Ty) (x37_k24 : Bool) : Option Int :=
  if x37_k24 then
    some (2)
  else
    s_own_k14 n a0 
def s_own_F (n : Nat) (a0 : Ty) : Option Int :=
  if !(decide (1 ≤ a0.kind) && decide (a0.kind ≤ 10)) then
    some (11)
  else
    (idx (s_kinds_F ) a0.kind).bind fun x7 =>
    if !(decide ((s_form_F a0 x7) = 0)) then
      some (s_form_F a0 x7)
    else
      if (decide (a0.kind = 4)) && (decide (0 < ((a0.words.length : Int)))) then
        (s_words_F n a0).bind fun y19 =>
        if !(decide (y19 = 0)) then
          some (y19)
        else
          s_own_k14 n a0 
      else
        if x7.bounds && (((decide (a0.max < a0.min)) || (decide (a0.min < x7.low))) || (decide (x7.high < a0.max))) then
          s_own_k24 n a0 true
        else
          s_own_k24 n a0 (x7.scale && (!(decide (0 ≤ a0.scale) && decide (a0.scale ≤ 12))))
set_option maxRecDepth 100000 in
set_option maxHeartbeats 4000000 in
theorem s_own_at (w0 : World) (hT : Lib.Utf8Tabs 0 1 w0) (n : Nat) (B : List (List AV)) (Rw : List RowA) (L : List LoopA) (a0 : Ty) (r : Int) (h : s_own_F n a0 = some r) :
    ACalls Tryz.prog w0 97 [.agg (a0.cs)] ⟨B, Rw, L⟩ fun x st => x = .val (.int .i64 r) ∧ st = ⟨B, Rw, L⟩ := by
  rw [s_own_F] at h
  refine ACalls.finP (acalls_of (rs := [.tmp 2]) Tryz.func97 rfl rfl Tryz.ntmps97 (enters_some Tryz.func97 rfl (by decide)) (Nat.le_of_ble_eq_true rfl) ?_)
  intro M0 W0 hN hNR hNL hcalm hu
  dsimp only at hN hNR hNL hcalm hu
  simp only [argsE]
  have hO := Owns.none Rw
  have hs := fact0
  refine rg [1] hs ?_
  apply awp_seq; intro K2 hK2
  refine rc 2 [1, 11] hs ?_; intro K3 hK3
  refine callK_p _ (in_at w0 _ _ _ a0.kind 1 10) (hv hs) ?_
  refine ne hs hK3 ?_
  clear hK3
  refine cnd h hs (fun hs h => ?_) (fun hs h => ?_)
  · skip
    have hb4 := hs.1
    refine rg [2] hs ?_
    exact rt h hs hcalm hO
  have hb4 := hs.1
  refine sk [1] hs hK2 ?_
  clear hK2
  apply awp_seq; intro K6 hK6
  obtain ⟨x7, hx7, h⟩ := bind_some h
  obtain ⟨hx7a, hx7b, hx7c⟩ := idx_some hx7
  have hx7d := flatMap_idx8 (f := fun x => (avLm x).cells) 8 (fun _ => rfl) hx7c
  have hx7n : (s_kinds_F ).length = 11 := rfl
  first | rw [hx7n] at hx7b | simp only [List.length_cons, List.length_nil, Nat.reduceAdd, Nat.zero_add] at hx7b
  simp only [avI_eq, avB_eq, avS_eq, avV_eq, avT_eq, avF_eq, avTF_eq, avPt_eq, avL_eq, avSch_eq, avItm_eq, avLm_eq, ev_AV_cells_agg] at hx7d
  apply awp_any mix [4, 5] [1, 3] (by kernel_rfl) (fun s => ∃ (X : List (List AV)) (rows : List RowA), s = ⟨B ++ ([a0.cs] ++ X), rows, L⟩) 3 (B.length + 1)
  · simp +decide only [go_sem, Nat.reduceAdd]
  · rintro s ⟨X, rows, rfl⟩
    refine ⟨2, ?_⟩
    rw [evK_succ]; simp +decide only [go_sem, Nat.reduceAdd, skipE, hb4, hx7d, Nat.mul_one]
    (repeat' apply And.intro) <;> first | refine callK_p _ (s_kinds_at' w0 _ _ _ ) (by first | rfl | (simp +decide only [go_sem, Nat.reduceAdd, hb4, hx7d, Nat.mul_one]; done) | (simp +decide only [go_sem, Nat.reduceAdd, Vl.cs, Ty.cs, hb4, hx7d, Nat.mul_one]; done)) ?_ | exact cl
    rw [evK_succ]; simp +decide only [go_sem, Nat.reduceAdd, hb4, hx7d, Nat.mul_one]
    (repeat' apply And.intro) <;> first | rfl | exact cl
  · skip
    refine Good.mk [4] (by kernel_rfl) ⟨[], _, by first | rfl | simp only [List.append_nil, List.nil_append]⟩ ?_ ?_
    · intro h; exact absurd h (by decide)
    · intro i hi; simp only [List.mem_cons, List.not_mem_nil, or_false] at hi
      subst hi
      · apply good_step rfl rfl ev
        · simp +decide only [go_sem, Nat.reduceAdd, StepOk, hb4, hx7d, Nat.mul_one]
          (repeat' apply And.intro) <;> first | rfl | exact cl
        · simp +decide only [go_sem, Nat.reduceAdd, hb4, hx7d, Nat.mul_one]
          refine Good.mk [5] (by kernel_rfl) ⟨_, _, by first | rfl | simp only [List.append_nil, List.nil_append]⟩ ?_ ?_
          · intro h; exact absurd h (by decide)
          · intro i hi; simp only [List.mem_cons, List.not_mem_nil, or_false] at hi
            subst hi
            · apply good_step rfl rfl ev
              · simp +decide only [go_sem, Nat.reduceAdd, StepOk, hb4, hx7d, Nat.mul_one]
                (repeat' apply And.intro) <;> first | rfl | exact cl
              · simp +decide only [go_sem, Nat.reduceAdd, hb4, hx7d, Nat.mul_one]
                refine Good.mk [] (by kernel_rfl) ⟨_, _, by first | rfl | simp only [List.append_nil, List.nil_append]⟩ ?_ ?_
                · intro _; apply conv_keep [1, 3]; first | (simp +decide only [go_sem, Nat.reduceAdd, hb4, hx7d, Nat.mul_one]; done) | (simp +decide only [go_sem, Nat.reduceAdd, hb4, hx7d, Nat.mul_one]; rfl)
                · intro i hi; cases hi
  simp +decide only [go_sem, Nat.reduceAdd, hb4, hx7d, Nat.mul_one]
  (repeat' apply And.intro) <;> first | refine hK6 _ _ ?_ | exact cl
  clear hK6
  apply awp_seq; intro K8 hK8
  have hs := And.intro hx7d hs
  refine rc 2 [1, 3, 4] hs ?_; intro K9 hK9
  refine callK_p _ (s_form_at' w0 _ _ _ a0 x7) (hv hs) ?_
  refine ne hs hK9 ?_
  clear hK9
  refine rg [1, 3, 4, 20] hs ?_
  refine cnd h hs (fun hs h => ?_) (fun hs h => ?_)
  · skip
    have hb11 := hs.1
    refine rg [2] hs ?_
    exact rt h hs hcalm hO
  have hb11 := hs.1
  refine sk [1, 3] hs hK8 ?_
  clear hK8
  refine awp_mid (fun e st => ∃ (X_k14 : List (List AV)) (rows_k14 : List RowA), e = [(1, true, .box B.length 0)] ∧ st = ⟨B ++ ([a0.cs, .val (.string x7.name) :: (.val (.int .i64 x7.low) :: (.val (.int .i64 x7.high) :: (.val (.bool x7.bounds) :: (.val (.bool x7.scale) :: (.val (.bool x7.text) :: (.val (.bool x7.list) :: ([.val (.bool x7.fields)])))))))] ++ X_k14), rows_k14, L⟩ ∧ Owns Rw rows_k14 [] ∧ s_own_k14 n a0  = some r) ?_ ?_
  · intro K15 hK15
    apply awp_block
    refine rg [1, 3, 22] hs ?_
    refine cnd h hs (fun hs h => ?_) (fun hs h => ?_)
    · skip
      have hb17 := hs.1
      obtain ⟨y19, hy19, h⟩ := bind_some h
      refine rc 2 [1, 5] hs ?_; intro K18 hK18
      refine callK_p _ (s_words_at w0 hT n _ _ _ a0 _ hy19) (hv hs) ?_
      refine ne hs hK18 ?_
      clear hK18
      refine rg [1, 5, 35] hs ?_
      refine cnd h hs (fun hs h => ?_) (fun hs h => ?_)
      · skip
        refine rg [2] hs ?_
        exact rt h hs hcalm hO
      refine sk [1] hs hK15 ?_
      exact ⟨([]), Rw, ef hs, ef hs, hO, h⟩
    have hb17 := hs.1
    refine awp_mid (fun e st => ∃ (x37_k24 : Bool) (X_k24 : List (List AV)) (rows_k24 : List RowA), e = [(1, true, .box B.length 0), (37, true, .val (.bool x37_k24))] ∧ st = ⟨B ++ ([a0.cs, .val (.string x7.name) :: (.val (.int .i64 x7.low) :: (.val (.int .i64 x7.high) :: (.val (.bool x7.bounds) :: (.val (.bool x7.scale) :: (.val (.bool x7.text) :: (.val (.bool x7.list) :: ([.val (.bool x7.fields)])))))))] ++ X_k24), rows_k24, L⟩ ∧ Owns Rw rows_k24 [] ∧ s_own_k24 n a0 x37_k24 = some r) ?_ ?_
    · intro K25 hK25
      refine rg [1, 3, 37] hs ?_
      refine cnd h hs (fun hs h => ?_) (fun hs h => ?_)
      · skip
        have hb27 := hs.1
        refine sk [1, 37] hs hK25 ?_
        exact ⟨true, ([]), Rw, ef hs, ef hs, hO, h⟩
      have hb27 := hs.1
      apply awp_region 2 [1, 37]
      rw [evK_succ]; simp +decide only [go_sem, Nat.reduceAdd, hb4, hx7d, hb11, hb17, hb27]
      (repeat' apply And.intro) <;> first | refine callK_p_if _ (fun _ => in_at w0 _ _ _ a0.scale 0 12) (hv hs) ?_ | exact cl
      rw [evK_succ]; simp +decide only [go_sem, Nat.reduceAdd, hb4, hx7d, hb11, hb17, hb27]
      (repeat' apply And.intro) <;> first | refine hK25 _ _ ⟨(x7.scale && (!(decide (0 ≤ a0.scale) && decide (a0.scale ≤ 12)))), ([]), Rw, ef hs, ef hs, hO, h⟩ | exact cl
    · clear h; rintro e st ⟨x37_k24, X_k24, rows_k24, rfl, rfl, hO, h⟩
      rw [s_own_k24] at h
      refine td hN hNR hNL hcalm hO ?_
      refine cnd h hs (fun hs h => ?_) (fun hs h => ?_)
      · skip
        refine rg [2] hs ?_
        exact rt h hs hcalm hO
      refine sk [1] hs hK15 ?_
      exact ⟨([]), rows_k24, ef hs, ef hs, hO, h⟩
  · clear h; rintro e st ⟨X_k14, rows_k14, rfl, rfl, hO, h⟩
    rw [s_own_k14] at h
    refine td hN hNR hNL hcalm hO ?_
    apply awp_seq; intro K30 hK30
    apply awp_block
    refine awp_mid (fun e st => ∃ (x69_k32 : Bool) (X_k32 : List (List AV)) (rows_k32 : List RowA), e = [(1, true, .box B.length 0), (69, true, .val (.bool x69_k32))] ∧ st = ⟨B ++ ([a0.cs, .val (.string x7.name) :: (.val (.int .i64 x7.low) :: (.val (.int .i64 x7.high) :: (.val (.bool x7.bounds) :: (.val (.bool x7.scale) :: (.val (.bool x7.text) :: (.val (.bool x7.list) :: ([.val (.bool x7.fields)])))))))] ++ X_k32), rows_k32, L⟩ ∧ Owns Rw rows_k32 [] ∧ s_own_k32 n a0 x69_k32 = some r) ?_ ?_
    · intro K33 hK33
      refine rg [1, 69] hs ?_
      refine cnd h hs (fun hs h => ?_) (fun hs h => ?_)
      · skip
        have hb35 := hs.1
        refine sk [1, 69] hs hK33 ?_
        exact ⟨true, ([]), rows_k14, ef hs, ef hs, hO, h⟩
      have hb35 := hs.1
      apply awp_region 1 [1, 69]
      rw [evK_succ]; simp +decide only [go_sem, Nat.reduceAdd, hb4, hx7d, hb11, hb35]
      (repeat' apply And.intro) <;> first | refine hK33 _ _ ⟨((decide (a0.kind = 10)) && (decide (((a0.fields.length : Int)) = 0))), ([]), rows_k14, ef hs, ef hs, hO, h⟩ | exact cl
    · clear h; rintro e st ⟨x69_k32, X_k32, rows_k32, rfl, rfl, hO, h⟩
      rw [s_own_k32] at h
      refine td hN hNR hNL hcalm hO ?_
      refine cnd h hs (fun hs h => ?_) (fun hs h => ?_)
      · skip
        have hb36 := hs.1
        refine rg [2] hs ?_
        exact rt h hs hcalm hO
      have hb36 := hs.1
      refine rg [1, 88] hs ?_
      refine cnd h hs (fun hs h => ?_) (fun hs h => ?_)
      · skip
        have hb39 := hs.1
        refine rg [2] hs ?_
        exact rt h hs hcalm hO
      have hb39 := hs.1
      refine rg [1, 98] hs ?_
      refine cnd h hs (fun hs h => ?_) (fun hs h => ?_)
      · skip
        have hb42 := hs.1
        refine rg [2] hs ?_
        exact rt h hs hcalm hO
      have hb42 := hs.1
      refine sk [1] hs hK30 ?_
      clear hK30
      refine awp_mid (fun e st => ∃ (X_k45 : List (List AV)) (rows_k45 : List RowA), e = [] ∧ st = ⟨B ++ ([a0.cs, .val (.string x7.name) :: (.val (.int .i64 x7.low) :: (.val (.int .i64 x7.high) :: (.val (.bool x7.bounds) :: (.val (.bool x7.scale) :: (.val (.bool x7.text) :: (.val (.bool x7.list) :: ([.val (.bool x7.fields)])))))))] ++ X_k45), rows_k45, L⟩ ∧ Owns Rw rows_k45 [] ∧ s_own_k45 n  = some r) ?_ ?_
      · intro K46 hK46
        refine rg [1, 105, 106] hs ?_
        apply awp_block
        refine awp_loop (fun m e st => ∃ (x106_l48 : Int) (X_l48 : List (List AV)) (rows_l48 : List RowA), e = [(1, true, .box B.length 0), (105, true, .val (.int .i64 ((a0.fields.length : Int)))), (106, true, .val (.int .i64 x106_l48))] ∧ st = ⟨B ++ ([a0.cs, .val (.string x7.name) :: (.val (.int .i64 x7.low) :: (.val (.int .i64 x7.high) :: (.val (.bool x7.bounds) :: (.val (.bool x7.scale) :: (.val (.bool x7.text) :: (.val (.bool x7.list) :: ([.val (.bool x7.fields)])))))))] ++ X_l48), rows_l48, L⟩ ∧ Owns Rw rows_l48 [] ∧ s_own_l48 n a0 m x106_l48 = some r) n ⟨0, ([]), rows_k32, ef hs, ef hs, hO, h⟩ ?_
        rintro m_l48 e st ⟨x106_l48, X_l48, rows_l48, rfl, rfl, hO, h⟩ KR_l48 hKR_l48
        cases m_l48 with
        | zero => cases h
        | succ m_l48 =>
        rw [s_own_l48] at h
        refine td hN hNR hNL hcalm hO ?_
        refine rg [1, 105, 106, 107] hs ?_
        apply awp_seq; intro K50 hK50
        refine cnd h hs (fun hs h => ?_) (fun hs h => ?_)
        rotate_left
        · skip
          have hb51 := hs.1
          refine sx [] hs hK46 ?_
          exact ⟨([]), rows_l48, ef hs, ef hs, hO, h⟩
        have hb51 := hs.1
        refine sk [1, 105, 106] hs hK50 ?_
        clear hK50
        apply awp_seq; intro K52 hK52
        apply awp_block
        refine rg [1, 6, 105, 106] hs ?_
        obtain ⟨y55, hy55, h⟩ := bind_some h
        refine rc 2 [1, 7, 105, 106] hs ?_; intro K54 hK54
        refine callK_p _ (s_field_at w0 n _ _ _ a0 x106_l48 _ hy55) (hv hs) ?_
        refine ne hs hK54 ?_
        clear hK54
        refine rg [1, 7, 105, 106, 113] hs ?_
        refine cnd h hs (fun hs h => ?_) (fun hs h => ?_)
        · skip
          have hb57 := hs.1
          refine rg [2] hs ?_
          exact rt h hs hcalm hO
        have hb57 := hs.1
        refine sk [1, 105, 106] hs hK52 ?_
        clear hK52
        obtain ⟨hg59, h⟩ := guard_some h
        apply awp_region 1 [1, 105, 106]
        rw [evK_succ]; simp +decide only [go_sem, Nat.reduceAdd, hb4, hx7d, hb11, hb36, hb39, hb42, hb51, hb57]
        (repeat' apply And.intro) <;> first | refine hKR_l48 m_l48 _ _ (Nat.lt_succ_self m_l48) ⟨(x106_l48 + 1), ([]), rows_l48, ef hs, ef hs, hO, h⟩ | exact cl
      · clear h; rintro e st ⟨X_k45, rows_k45, rfl, rfl, hO, h⟩
        rw [s_own_k45] at h
        refine td hN hNR hNL hcalm hO ?_
        refine rg [2] hs ?_
        exact rt h hs hcalm hO
end Go.Proofs.YtggimoedcamonaaGreatDoor
namespace Go.Proofs.YtggimoedcamonaaGreatDoor
open Go Go.RowKit Go.Ev
set_option linter.unusedSimpArgs false
set_option linter.unusedVariables false
def s_parts_k19 (n : Nat)  (x3_k19 : List Ty) : Option ((List Ty)) :=
  some (x3_k19)
def s_parts_k3 (n : Nat)  : Option ((List Ty)) :=
  some ([])
def s_parts_l22 (n : Nat) (a0 : Ty) : Nat → (List Ty) → Int → Option ((List Ty))
  | 0, _, _ => none
  | m + 1, x3_l22, x22_l22 =>
    if decide (x22_l22 < ((a0.fields.length : Int))) then
      (idx a0.fields x22_l22).bind fun x28 =>
      if (x3_l22.length + 1) * 104 ≤ 140737488355328 ∧ x3_l22.length + 1 ≤ 4611686018427387904 then
        if I64 (x22_l22 + 1) then
          (s_parts_l22 n a0 m) (x3_l22 ++ ([x28.2.2.2.1])) (x22_l22 + 1)
        else none
      else none
    else
      s_parts_k19 n x3_l22
def s_parts_k10 (n : Nat) (a0 : Ty) (x12_k10 : Bool) : Option ((List Ty)) :=
  if x12_k10 then
    if 0 ≤ (a0.fields.length : Int) ∧ ((a0.fields.length : Int)) * 104 ≤ 140737488355328 ∧ (a0.fields.length : Int) ≤ 4611686018427387904 then
      s_parts_l22 n a0 n ([]) 0
    else none
  else
    s_parts_k3 n 
def s_parts_F (n : Nat) (a0 : Ty) : Option ((List Ty)) :=
  if decide (a0.kind = 8) then
    some (a0.elem)
  else
    if decide (a0.kind = 9) then
      s_parts_k10 n a0 true
    else
      s_parts_k10 n a0 (decide (a0.kind = 10))
set_option maxRecDepth 100000 in
set_option maxHeartbeats 4000000 in
theorem s_parts_at (w0 : World) (n : Nat) (B : List (List AV)) (Rw : List RowA) (L : List LoopA) (a0 : Ty) (r : (List Ty)) (h : s_parts_F n a0 = some r) :
    ACalls Tryz.prog w0 77 [.agg (a0.cs)] ⟨B, Rw, L⟩ fun x st => x = .list (r.map avT) .none ∧ st = ⟨B, Rw, L⟩ := by
  rw [s_parts_F] at h
  refine ACalls.finP (acalls_of (rs := [.tmp 2]) Tryz.func77 rfl rfl Tryz.ntmps77 (enters_some Tryz.func77 rfl (by decide)) (Nat.le_of_ble_eq_true rfl) ?_)
  intro M0 W0 hN hNR hNL hcalm hu
  dsimp only at hN hNR hNL hcalm hu
  simp only [argsE]
  have hO := Owns.none Rw
  have hs := fact0
  refine rg [1] hs ?_
  refine awp_mid (fun e st => ∃ (X_k3 : List (List AV)) (rows_k3 : List RowA), e = [] ∧ st = ⟨B ++ ([a0.cs] ++ X_k3), rows_k3, L⟩ ∧ Owns Rw rows_k3 [] ∧ s_parts_k3 n  = some r) ?_ ?_
  · intro K4 hK4
    refine rg [1, 7] hs ?_
    apply awp_block
    refine rg [1, 7, 8] hs ?_
    refine cnd h hs (fun hs h => ?_) (fun hs h => ?_)
    · skip
      have hb7 := hs.1
      refine rg [2] hs ?_
      exact rt h hs hcalm hO
    have hb7 := hs.1
    refine awp_mid (fun e st => ∃ (x12_k10 : Bool) (X_k10 : List (List AV)) (rows_k10 : List RowA), e = [(1, true, .box B.length 0), (12, true, .val (.bool x12_k10))] ∧ st = ⟨B ++ ([a0.cs] ++ X_k10), rows_k10, L⟩ ∧ Owns Rw rows_k10 [] ∧ s_parts_k10 n a0 x12_k10 = some r) ?_ ?_
    · intro K11 hK11
      refine rg [1, 7, 12] hs ?_
      refine cnd h hs (fun hs h => ?_) (fun hs h => ?_)
      · skip
        have hb13 := hs.1
        refine sk [1, 12] hs hK11 ?_
        exact ⟨true, ([]), Rw, ef hs, ef hs, hO, h⟩
      have hb13 := hs.1
      apply awp_region 1 [1, 12]
      rw [evK_succ]; simp +decide only [go_sem, Nat.reduceAdd, hb7, hb13]
      (repeat' apply And.intro) <;> first | refine hK11 _ _ ⟨(decide (a0.kind = 10)), ([]), Rw, ef hs, ef hs, hO, h⟩ | exact cl
    · clear h; rintro e st ⟨x12_k10, X_k10, rows_k10, rfl, rfl, hO, h⟩
      rw [s_parts_k10] at h
      refine td hN hNR hNL hcalm hO ?_
      refine cnd h hs (fun hs h => ?_) (fun hs h => ?_)
      · skip
        have hb14 := hs.1
        obtain ⟨hg16, h⟩ := guard_some h
        have hO := hO.make 7 0
        refine rg [1, 3] hs ?_
        refine awp_mid (fun e st => ∃ (x3_k19 : List Ty) (ox3_k19 : Ev.Own) (X_k19 : List (List AV)) (rows_k19 : List RowA), e = [(3, true, .list (x3_k19.map avT) ox3_k19)] ∧ st = ⟨B ++ ([a0.cs] ++ X_k19), rows_k19, L⟩ ∧ Owns Rw rows_k19 [(7, x3_k19.length, ox3_k19)] ∧ s_parts_k19 n x3_k19 = some r) ?_ ?_
        · intro K20 hK20
          refine rg [3, 20, 21, 22] hs ?_
          apply awp_block
          refine awp_loop (fun m e st => ∃ (x3_l22 : List Ty) (x22_l22 : Int) (ox3_l22 : Ev.Own) (X_l22 : List (List AV)) (rows_l22 : List RowA), e = [(3, true, .list (x3_l22.map avT) ox3_l22), (20, true, .list (a0.fields.map avTF) .none), (21, true, .val (.int .i64 ((a0.fields.length : Int)))), (22, true, .val (.int .i64 x22_l22))] ∧ st = ⟨B ++ ([a0.cs] ++ X_l22), rows_l22, L⟩ ∧ Owns Rw rows_l22 [(7, x3_l22.length, ox3_l22)] ∧ s_parts_l22 n a0 m x3_l22 x22_l22 = some r) n ⟨([]), 0, ((.row rows_k10.length)), ([]), ((rows_k10 ++ [.grow 0 7])), ef hs, ef hs, Owns.of_eq (hO) (by first | rfl | simp only [List.length_append, List.length_cons, List.length_nil, List.length_map, Nat.zero_add, Nat.add_zero]), h⟩ ?_
          rintro m_l22 e st ⟨x3_l22, x22_l22, ox3_l22, X_l22, rows_l22, rfl, rfl, hO, h⟩ KR_l22 hKR_l22
          cases m_l22 with
          | zero => cases h
          | succ m_l22 =>
          rw [s_parts_l22] at h
          have hU := hO.unders
          simp only [List.mem_cons, List.not_mem_nil, or_false, forall_eq_or_imp, forall_eq] at hU
          refine td hN hNR hNL hcalm hO ?_
          refine rg [3, 20, 21, 22, 23] hs ?_
          apply awp_seq; intro K24 hK24
          refine cnd h hs (fun hs h => ?_) (fun hs h => ?_)
          rotate_left
          · skip
            have hb25 := hs.1
            refine sx [3] hs hK20 ?_
            exact ⟨x3_l22, ox3_l22, ([]), rows_l22, ef hs, ef hs, Owns.of_eq (hO) (by first | rfl | simp only [List.length_append, List.length_cons, List.length_nil, List.length_map, Nat.zero_add, Nat.add_zero]), h⟩
          have hb25 := hs.1
          refine sk [3, 20, 21, 22] hs hK24 ?_
          clear hK24
          apply awp_seq; intro K26 hK26
          apply awp_block
          obtain ⟨x28, hx28, h⟩ := bind_some h
          obtain ⟨hx28a, hx28b, hx28c⟩ := idx_some hx28
          have hx28d := getD_map (f := avTF) hx28c
          have hs := And.intro hx28d hs
          refine rg [3, 5, 20, 21, 22] hs ?_
          obtain ⟨hg29, h⟩ := guard_some h
          obtain ⟨o30, rows31, hO, hap32⟩ := hO.append (P := Tryz.prog) elT_23 (by rw [zeroT_26]; rfl) (by decide) 1 hg29.1 hg29.2
          replace hap32 := fun (ys : List AV) B L o2 => hap32 (x3_l22.map avT) ys B L o2 (by first | rfl | simp only [List.length_map, List.length_nil, List.length_append, List.length_cons, Nat.zero_add])
          replace hap32 := fun (y : AV) B L o2 => hap32 [y] B L o2 (by first | rfl | simp only [List.length_map, List.length_nil, List.length_cons]) ev
          try simp only [List.mem_singleton, List.mem_cons, List.not_mem_nil, or_false, forall_eq_or_imp, forall_eq, List.map_append, List.map_cons, List.map_nil, avI_eq, avB_eq, avS_eq, avV_eq, avT_eq, avF_eq, avTF_eq, avPt_eq, avL_eq, avSch_eq, avItm_eq, avLm_eq] at hap32
          apply awp_region 1 [3, 20, 21, 22]
          rw [evK_succ]; simp +decide only [go_sem, Nat.reduceAdd, hb7, hb14, hb25, hx28d, hap32]
          (repeat' apply And.intro) <;> first | refine hK26 _ _ ?_ | exact cl
          clear hK26
          obtain ⟨hg33, h⟩ := guard_some h
          apply awp_region 1 [3, 20, 21, 22]
          rw [evK_succ]; simp +decide only [go_sem, Nat.reduceAdd, hb7, hb14, hb25, hx28d, hap32]
          have hs := And.intro hap32 hs
          (repeat' apply And.intro) <;> first | refine hKR_l22 m_l22 _ _ (Nat.lt_succ_self m_l22) ⟨(x3_l22 ++ ([x28.2.2.2.1])), (x22_l22 + 1), o30, ([.val (.int .i64 x28.1) :: (.val (.string x28.2.1) :: (.val (.int .i64 x28.2.2.1) :: ((x28.2.2.2.1.cs) ++ ([.list (x28.2.2.2.2.map avV) .none]))))]), rows31, ef hs, ef hs, Owns.of_eq (hO) (by first | rfl | simp only [List.length_append, List.length_cons, List.length_nil, List.length_map, Nat.zero_add, Nat.add_zero]), h⟩ | exact cl
        · clear h; rintro e st ⟨x3_k19, ox3_k19, X_k19, rows_k19, rfl, rfl, hO, h⟩
          rw [s_parts_k19] at h
          have hU := hO.unders
          simp only [List.mem_cons, List.not_mem_nil, or_false, forall_eq_or_imp, forall_eq] at hU
          refine td hN hNR hNL hcalm hO ?_
          refine rg [2] hs ?_
          exact rt h hs hcalm hO
      have hb14 := hs.1
      refine sk [] hs hK4 ?_
      exact ⟨([]), rows_k10, ef hs, ef hs, hO, h⟩
  · clear h; rintro e st ⟨X_k3, rows_k3, rfl, rfl, hO, h⟩
    rw [s_parts_k3] at h
    refine td hN hNR hNL hcalm hO ?_
    refine rg [2] hs ?_
    exact rt h hs hcalm hO
end Go.Proofs.YtggimoedcamonaaGreatDoor
namespace Go.Proofs.YtggimoedcamonaaGreatDoor
open Go Go.RowKit Go.Ev
set_option linter.unusedSimpArgs false
set_option linter.unusedVariables false
def s_check_k18 (rec : Ty → Int → Int → Option (Int × Int)) (n : Nat)  (pla2_k18 : Int) : Option (Int × Int) :=
  some ((0, pla2_k18))
def s_check_l22 (rec : Ty → Int → Int → Option (Int × Int)) (n : Nat) (a0 : Ty) (a1 : Int) (y21 : (List Ty)) : Nat → Int → Int → Option (Int × Int)
  | 0, _, _ => none
  | m + 1, x32_l22, pla2_l22 =>
    if decide (x32_l22 < ((y21.length : Int))) then
      (idx y21 x32_l22).bind fun x28 =>
      if I64 (a1 + 1) then
        (rec x28 (a1 + 1) pla2_l22).bind fun y32 =>
        if !(decide (y32.1 = 0)) then
          some ((y32.1, y32.2))
        else
          if decide (a0.kind = 9) then
            (idx a0.fields x32_l22).bind fun x38 =>
            if decide (x38.2.2.1 = 3) then
              (idx x38.2.2.2.2 0).bind fun x40 =>
              (s_accepts_F n x28 x40).bind fun y41 =>
              if !y41 then
                some ((18, y32.2))
              else
                if I64 (x32_l22 + 1) then
                  (s_check_l22 rec n a0 a1 y21 m) (x32_l22 + 1) y32.2
                else none
            else
              if I64 (x32_l22 + 1) then
                (s_check_l22 rec n a0 a1 y21 m) (x32_l22 + 1) y32.2
              else none
          else
            if I64 (x32_l22 + 1) then
              (s_check_l22 rec n a0 a1 y21 m) (x32_l22 + 1) y32.2
            else none
      else none
    else
      s_check_k18 rec n pla2_l22
def s_check_B (rec : Ty → Int → Int → Option (Int × Int)) (n : Nat) (a0 : Ty) (a1 : Int) (a2 : Int) : Option (Int × Int) :=
  if decide (a2 = 0) then
    some ((9, a2))
  else
    if decide (8 < a1) then
      some ((23, a2))
    else
      if I64 (a2 - 1) then
        (s_own_F n a0).bind fun y13 =>
        if !(decide (y13 = 0)) then
          some ((y13, a2 - 1))
        else
          (s_parts_F n a0).bind fun y21 =>
          s_check_l22 rec n a0 a1 y21 n 0 (a2 - 1)
      else none
def s_check_F : Nat → Ty → Int → Int → Option (Int × Int)
  | 0, _, _, _ => none
  | n + 1, a0, a1, a2 => s_check_B (s_check_F n) n a0 a1 a2
set_option maxRecDepth 100000 in
set_option maxHeartbeats 4000000 in
theorem s_check_step (w0 : World) (hT : Lib.Utf8Tabs 0 1 w0) (rec : Ty → Int → Int → Option (Int × Int)) (ih : ∀ (B : List (List AV)) (Rw : List RowA) (L : List LoopA) (a0 : Ty) (a1 : Int) (la2 : Nat) (a2 : Int) (hla2 : B[la2]? = some ([.val (.int .i64 a2)])) (r : Int × Int) (h : rec a0 a1 a2 = some r), ACalls Tryz.prog w0 53 [.agg (a0.cs), .val (.int .i64 a1), .box la2 0] ⟨B, Rw, L⟩ fun x st => x = .val (.int .i64 r.1) ∧ st = ⟨(B.set la2 [.val (.int .i64 r.2)]), Rw, L⟩) (n : Nat) (B : List (List AV)) (Rw : List RowA) (L : List LoopA) (a0 : Ty) (a1 : Int) (la2 : Nat) (a2 : Int) (hla2 : B[la2]? = some ([.val (.int .i64 a2)])) (r : Int × Int) (h : s_check_B rec n a0 a1 a2 = some r) :
    ACalls Tryz.prog w0 53 [.agg (a0.cs), .val (.int .i64 a1), .box la2 0] ⟨B, Rw, L⟩ fun x st => x = .val (.int .i64 r.1) ∧ st = ⟨(B.set la2 [.val (.int .i64 r.2)]), Rw, L⟩ := by
  rw [s_check_B] at h
  refine ACalls.finP (acalls_of (rs := [.tmp 6]) Tryz.func53 rfl rfl Tryz.ntmps53 (enters_some Tryz.func53 rfl (by decide)) (Nat.le_of_ble_eq_true rfl) ?_)
  intro M0 W0 hN hNR hNL hcalm hu
  dsimp only at hN hNR hNL hcalm hu
  simp only [argsE]
  have hO := Owns.none Rw
  have hs := fact0
  have hltla2 := (List.getElem?_eq_some_iff.1 hla2).1
  have hs := And.intro (ptr_of hla2) hs
  refine rg [1, 2, 3] hs ?_
  apply awp_seq; intro K2 hK2
  apply awp_block
  refine rg [1, 2, 3, 11] hs ?_
  refine cnd h hs (fun hs h => ?_) (fun hs h => ?_)
  · skip
    have hb4 := hs.1
    refine rg [6] hs ?_
    exact rt h hs hcalm hO
  have hb4 := hs.1
  refine rg [1, 2, 3, 16] hs ?_
  refine cnd h hs (fun hs h => ?_) (fun hs h => ?_)
  · skip
    have hb7 := hs.1
    refine rg [6] hs ?_
    exact rt h hs hcalm hO
  have hb7 := hs.1
  refine sk [1, 2, 3] hs hK2 ?_
  clear hK2
  obtain ⟨hg10, h⟩ := guard_some h
  refine rg [1, 2, 3] hs ?_
  apply awp_seq; intro K11 hK11
  obtain ⟨y13, hy13, h⟩ := bind_some h
  refine rc 2 [1, 2, 3, 7] hs ?_; intro K12 hK12
  refine callK_p _ (s_own_at w0 hT n _ _ _ a0 _ hy13) (hv hs) ?_
  refine ne hs hK12 ?_
  clear hK12
  refine rg [1, 2, 3, 7, 27] hs ?_
  refine cnd h hs (fun hs h => ?_) (fun hs h => ?_)
  · skip
    have hb15 := hs.1
    refine rg [6] hs ?_
    apply awp_ret; simp +decide only [go_sem, Nat.reduceAdd, ptr_of hla2, hb4, hb7, hb15]
    have hgt := Option.some.inj h; subst hgt
    first | refine fin_q0 (calm_set hcalm ev) (by simp only [List.length_set]) hO.pre ev ⟨?_, rfl⟩ | refine fin_q (calm_set hcalm ev) (by simp only [List.length_set]) hO.pre ev ⟨?_, rfl⟩
    first | rfl | (simp +decide only [go_sem, Nat.reduceAdd, ptr_of hla2, hb4, hb7, hb15]; done) | (simp +decide only [go_sem, Nat.reduceAdd, Vl.cs, Ty.cs, ptr_of hla2, hb4, hb7, hb15]; done)
  have hb15 := hs.1
  refine sk [1, 2, 3] hs hK11 ?_
  clear hK11
  refine awp_mid (fun e st => ∃ (pla2_k18 : Int) (X_k18 : List (List AV)) (rows_k18 : List RowA), e = [] ∧ st = ⟨(B.set la2 ([.val (.int .i64 pla2_k18)])) ++ ([a0.cs] ++ X_k18), rows_k18, L⟩ ∧ Owns Rw rows_k18 [] ∧ s_check_k18 rec n pla2_k18 = some r) ?_ ?_
  · intro K19 hK19
    obtain ⟨y21, hy21, h⟩ := bind_some h
    refine rc 2 [1, 2, 3, 30, 31, 32] hs ?_; intro K20 hK20
    refine callK_p _ (s_parts_at w0 n _ _ _ a0 _ hy21) (hv hs) ?_
    refine ne hs hK20 ?_
    clear hK20
    apply awp_block
    refine awp_loop (fun m e st => ∃ (x32_l22 : Int) (pla2_l22 : Int) (X_l22 : List (List AV)) (rows_l22 : List RowA), e = [(1, true, .val (.int .i64 a1)), (2, true, .box la2 0), (3, true, .box B.length 0), (30, true, .list (y21.map avT) .none), (31, true, .val (.int .i64 ((y21.length : Int)))), (32, true, .val (.int .i64 x32_l22))] ∧ st = ⟨(B.set la2 ([.val (.int .i64 pla2_l22)])) ++ ([a0.cs] ++ X_l22), rows_l22, L⟩ ∧ Owns Rw rows_l22 [] ∧ s_check_l22 rec n a0 a1 y21 m x32_l22 pla2_l22 = some r) n ⟨0, (a2 - 1), ([]), Rw, ef hs, ef hs, hO, h⟩ ?_
    rintro m_l22 e st ⟨x32_l22, pla2_l22, X_l22, rows_l22, rfl, rfl, hO, h⟩ KR_l22 hKR_l22
    cases m_l22 with
    | zero => cases h
    | succ m_l22 =>
    rw [s_check_l22] at h
    refine awp_tidy hN hNR hNL (by simp only [List.length_set]) (calm_set hcalm ev) hO (by (simp +decide only [go_sem, Nat.reduceAdd]) <;> (try (repeat' apply And.intro)) <;> first | omega | assumption) (by (simp +decide only [go_sem, Nat.reduceAdd, calmE]) <;> (try (repeat' apply And.intro)) <;> first | omega | assumption) ?_
    refine rg [1, 2, 3, 30, 31, 32, 33] hs ?_
    apply awp_seq; intro K24 hK24
    refine cnd h hs (fun hs h => ?_) (fun hs h => ?_)
    rotate_left
    · skip
      have hb25 := hs.1
      refine sx [] hs hK19 ?_
      exact ⟨pla2_l22, ([]), rows_l22, ef hs, ef hs, hO, h⟩
    have hb25 := hs.1
    refine sk [1, 2, 3, 30, 31, 32] hs hK24 ?_
    clear hK24
    apply awp_seq; intro K26 hK26
    apply awp_block
    obtain ⟨x28, hx28, h⟩ := bind_some h
    obtain ⟨hx28a, hx28b, hx28c⟩ := idx_some hx28
    have hx28d := getD_map (f := avT) hx28c
    have hs := And.intro hx28d hs
    refine rg [1, 2, 3, 8, 9, 30, 31, 32] hs ?_
    apply awp_seq; intro K29 hK29
    obtain ⟨hg31, h⟩ := guard_some h
    obtain ⟨y32, hy32, h⟩ := bind_some h
    refine rc 2 [1, 2, 3, 8, 9, 10, 30, 31, 32] hs ?_; intro K30 hK30
    refine callK_pp _ (ih _ _ _ x28 (a1 + 1) la2 pla2_l22 (ef hs) _ hy32) (hv hs) ?_; rintro _ _ ⟨rfl, rfl⟩
    refine ne hs hK30 ?_
    clear hK30
    refine rg [1, 2, 3, 8, 9, 10, 30, 31, 32, 43] hs ?_
    refine cnd h hs (fun hs h => ?_) (fun hs h => ?_)
    · skip
      have hb34 := hs.1
      refine rg [6] hs ?_
      apply awp_ret; simp +decide only [go_sem, Nat.reduceAdd, ptr_of hla2, hb4, hb7, hb15, hb25, hx28d, hb34]
      have hgt := Option.some.inj h; subst hgt
      first | refine fin_q0 (calm_set hcalm ev) (by simp only [List.length_set]) hO.pre ev ⟨?_, rfl⟩ | refine fin_q (calm_set hcalm ev) (by simp only [List.length_set]) hO.pre ev ⟨?_, rfl⟩
      first | rfl | (simp +decide only [go_sem, Nat.reduceAdd, ptr_of hla2, hb4, hb7, hb15, hb25, hx28d, hb34]; done) | (simp +decide only [go_sem, Nat.reduceAdd, Vl.cs, Ty.cs, ptr_of hla2, hb4, hb7, hb15, hb25, hx28d, hb34]; done)
    have hb34 := hs.1
    refine sk [1, 2, 3, 8, 9, 30, 31, 32] hs hK29 ?_
    clear hK29
    apply awp_seq; intro K36 hK36
    rcases Bool.eq_false_or_eq_true (decide (a0.kind = 9)) with hf37 | hf37
    · replace h := ite_tt h hf37
      obtain ⟨x38, hx38, h⟩ := bind_some h
      obtain ⟨hx38a, hx38b, hx38c⟩ := idx_some hx38
      have hx38d := getD_map (f := avTF) hx38c
      rcases Bool.eq_false_or_eq_true (decide (x38.2.2.1 = 3)) with hf39 | hf39
      · replace h := ite_tt h hf39
        obtain ⟨x40, hx40, h⟩ := bind_some h
        obtain ⟨hx40a, hx40b, hx40c⟩ := idx_some hx40
        have hx40d := getD_map (f := avV) hx40c
        have hx40e : (x38.2.2.2.2.map avV).getD 0 .junk = _ := hx40d
        obtain ⟨y41, hy41, h⟩ := bind_some h
        apply awp_draw mix 25 2 1 [1, 2, 3, 30, 31, 32, 69] (by kernel_rfl)
        rw [evK_succ]; simp +decide only [go_sem, Nat.reduceAdd, ptr_of hla2, hb4, hb7, hb15, hb25, hx28d, hb34, hf37, hx38d, hf39, hx40d, hx40e]
        have hs := And.intro hf37 hs
        have hs := And.intro hx38d hs
        have hs := And.intro hf39 hs
        have hs := And.intro hx40d hs
        have hs := And.intro hx40e hs
        (repeat' apply And.intro) <;> first | refine callK_p _ (s_accepts_at w0 hT n _ _ _ x28 x40 _ hy41) (hv hs) ?_ | exact cl
        rw [evK_succ]; simp +decide only [go_sem, Nat.reduceAdd, ptr_of hla2, hb4, hb7, hb15, hb25, hx28d, hb34, hf37, hx38d, hf39, hx40d, hx40e]
        (repeat' with_reducible apply And.intro) <;> first | (rw [evK_succ]; simp +decide only [go_sem, Nat.reduceAdd, ptr_of hla2, hb4, hb7, hb15, hb25, hx28d, hb34, hf37, hx38d, hf39, hx40d, hx40e]) | exact cl
        (repeat' apply And.intro) <;> first | refine hK36 _ _ ?_ | exact cl
        clear hK36
        refine cnd h hs (fun hs h => ?_) (fun hs h => ?_)
        · skip
          have hb42 := hs.1
          refine rg [6] hs ?_
          apply awp_ret; simp +decide only [go_sem, Nat.reduceAdd, ptr_of hla2, hb4, hb7, hb15, hb25, hx28d, hb34, hf37, hx38d, hf39, hx40d, hx40e, hb42]
          have hgt := Option.some.inj h; subst hgt
          first | refine fin_q0 (calm_set hcalm ev) (by simp only [List.length_set]) hO.pre ev ⟨?_, rfl⟩ | refine fin_q (calm_set hcalm ev) (by simp only [List.length_set]) hO.pre ev ⟨?_, rfl⟩
          first | rfl | (simp +decide only [go_sem, Nat.reduceAdd, ptr_of hla2, hb4, hb7, hb15, hb25, hx28d, hb34, hf37, hx38d, hf39, hx40d, hx40e, hb42]; done) | (simp +decide only [go_sem, Nat.reduceAdd, Vl.cs, Ty.cs, ptr_of hla2, hb4, hb7, hb15, hb25, hx28d, hb34, hf37, hx38d, hf39, hx40d, hx40e, hb42]; done)
        have hb42 := hs.1
        refine sk [1, 2, 3, 30, 31, 32] hs hK26 ?_
        clear hK26
        obtain ⟨hg44, h⟩ := guard_some h
        apply awp_region 1 [1, 2, 3, 30, 31, 32]
        rw [evK_succ]; simp +decide only [go_sem, Nat.reduceAdd, ptr_of hla2, hb4, hb7, hb15, hb25, hx28d, hb34, hf37, hx38d, hf39, hx40d, hx40e, hb42]
        (repeat' apply And.intro) <;> first | refine hKR_l22 m_l22 _ _ (Nat.lt_succ_self m_l22) ⟨(x32_l22 + 1), y32.2, ([x28.cs]), rows_l22, ef hs, ef hs, hO, h⟩ | exact cl
      · replace h := ite_ff h hf39
        apply awp_draw mix 25 2 1 [1, 2, 3, 30, 31, 32, 69] (by kernel_rfl)
        rw [evK_succ]; simp +decide only [go_sem, Nat.reduceAdd, ptr_of hla2, hb4, hb7, hb15, hb25, hx28d, hb34, hf37, hx38d, hf39]
        (repeat' apply And.intro) <;> first | refine callK_skip ?_ | exact cl
        rw [evK_succ]; simp +decide only [go_sem, Nat.reduceAdd, ptr_of hla2, hb4, hb7, hb15, hb25, hx28d, hb34, hf37, hx38d, hf39]
        (repeat' with_reducible apply And.intro) <;> first | (rw [evK_succ]; simp +decide only [go_sem, Nat.reduceAdd, ptr_of hla2, hb4, hb7, hb15, hb25, hx28d, hb34, hf37, hx38d, hf39]) | exact cl
        (repeat' apply And.intro) <;> first | refine hK36 _ _ ?_ | exact cl
        clear hK36
        have hs := And.intro hf37 hs
        have hs := And.intro hx38d hs
        have hs := And.intro hf39 hs
        refine awp_cond false ev (ef hs) (fun hb45 => by cases hb45) (fun hb45 => ?_)
        refine sk [1, 2, 3, 30, 31, 32] hs hK26 ?_
        clear hK26
        obtain ⟨hg46, h⟩ := guard_some h
        apply awp_region 1 [1, 2, 3, 30, 31, 32]
        rw [evK_succ]; simp +decide only [go_sem, Nat.reduceAdd, ptr_of hla2, hb4, hb7, hb15, hb25, hx28d, hb34, hf37, hx38d, hf39]
        (repeat' apply And.intro) <;> first | refine hKR_l22 m_l22 _ _ (Nat.lt_succ_self m_l22) ⟨(x32_l22 + 1), y32.2, ([x28.cs]), rows_l22, ef hs, ef hs, hO, h⟩ | exact cl
    · replace h := ite_ff h hf37
      apply awp_draw mix 25 2 1 [1, 2, 3, 30, 31, 32, 69] (by kernel_rfl)
      rw [evK_succ]; simp +decide only [go_sem, Nat.reduceAdd, ptr_of hla2, hb4, hb7, hb15, hb25, hx28d, hb34, hf37]
      (repeat' apply And.intro) <;> first | refine callK_skip ?_ | exact cl
      rw [evK_succ]; simp +decide only [go_sem, Nat.reduceAdd, ptr_of hla2, hb4, hb7, hb15, hb25, hx28d, hb34, hf37]
      (repeat' with_reducible apply And.intro) <;> first | (rw [evK_succ]; simp +decide only [go_sem, Nat.reduceAdd, ptr_of hla2, hb4, hb7, hb15, hb25, hx28d, hb34, hf37]) | exact cl
      (repeat' apply And.intro) <;> first | refine hK36 _ _ ?_ | exact cl
      clear hK36
      have hs := And.intro hf37 hs
      refine awp_cond false ev (ef hs) (fun hb47 => by cases hb47) (fun hb47 => ?_)
      refine sk [1, 2, 3, 30, 31, 32] hs hK26 ?_
      clear hK26
      obtain ⟨hg48, h⟩ := guard_some h
      apply awp_region 1 [1, 2, 3, 30, 31, 32]
      rw [evK_succ]; simp +decide only [go_sem, Nat.reduceAdd, ptr_of hla2, hb4, hb7, hb15, hb25, hx28d, hb34, hf37]
      (repeat' apply And.intro) <;> first | refine hKR_l22 m_l22 _ _ (Nat.lt_succ_self m_l22) ⟨(x32_l22 + 1), y32.2, ([x28.cs]), rows_l22, ef hs, ef hs, hO, h⟩ | exact cl
  · clear h; rintro e st ⟨pla2_k18, X_k18, rows_k18, rfl, rfl, hO, h⟩
    rw [s_check_k18] at h
    refine awp_tidy hN hNR hNL (by simp only [List.length_set]) (calm_set hcalm ev) hO (by (simp +decide only [go_sem, Nat.reduceAdd]) <;> (try (repeat' apply And.intro)) <;> first | omega | assumption) (by (simp +decide only [go_sem, Nat.reduceAdd, calmE]) <;> (try (repeat' apply And.intro)) <;> first | omega | assumption) ?_
    refine rg [6] hs ?_
    apply awp_ret; simp +decide only [go_sem, Nat.reduceAdd, ptr_of hla2, hb4, hb7, hb15]
    have hgt := Option.some.inj h; subst hgt
    first | refine fin_q0 (calm_set hcalm ev) (by simp only [List.length_set]) hO.pre ev ⟨?_, rfl⟩ | refine fin_q (calm_set hcalm ev) (by simp only [List.length_set]) hO.pre ev ⟨?_, rfl⟩
    first | rfl | (simp +decide only [go_sem, Nat.reduceAdd, ptr_of hla2, hb4, hb7, hb15]; done) | (simp +decide only [go_sem, Nat.reduceAdd, Vl.cs, Ty.cs, ptr_of hla2, hb4, hb7, hb15]; done)
theorem s_check_at (w0 : World) (hT : Lib.Utf8Tabs 0 1 w0) : ∀ (n : Nat) (B : List (List AV)) (Rw : List RowA) (L : List LoopA) (a0 : Ty) (a1 : Int) (la2 : Nat) (a2 : Int) (hla2 : B[la2]? = some ([.val (.int .i64 a2)])) (r : Int × Int) (h : s_check_F n a0 a1 a2 = some r), ACalls Tryz.prog w0 53 [.agg (a0.cs), .val (.int .i64 a1), .box la2 0] ⟨B, Rw, L⟩ fun x st => x = .val (.int .i64 r.1) ∧ st = ⟨(B.set la2 [.val (.int .i64 r.2)]), Rw, L⟩
  | 0, _, _, _, _, _, _, _, _, _, h => (nomatch h)
  | n + 1, B, Rw, L, a0, a1, la2, a2, hla2, r, h => s_check_step w0 hT (s_check_F n) (s_check_at w0 hT n) n B Rw L a0 a1 la2 a2 hla2 r (by rw [s_check_F] at h; exact h)
end Go.Proofs.YtggimoedcamonaaGreatDoor
namespace Go.Proofs.YtggimoedcamonaaGreatDoor
open Go Go.RowKit Go.Ev
set_option linter.unusedSimpArgs false
set_option linter.unusedVariables false
def v_Size_r6  : List (Nat × Vl) → Int → Option Int
  | [], b1_r6 =>
    some (b1_r6)
  | p_r6 :: rest, b1_r6 =>
    if I64 (b1_r6 + 1) then
      (v_Size_r6  rest) (b1_r6 + 1)
    else none
def v_Size_F (a0 : Vl) : Option Int :=
  if a0.size < 1048576 then
    v_Size_r6  (preV 1 a0) 0
  else none
set_option maxRecDepth 100000 in
set_option maxHeartbeats 4000000 in
theorem v_Size_at (w0 : World) (B : List (List AV)) (Rw : List RowA) (L : List LoopA) (a0 : Vl) (r : Int) (h : v_Size_F a0 = some r) :
    ACalls Tryz.prog w0 144 [.agg (a0.cs)] ⟨B, Rw, L⟩ fun x st => x = .val (.int .i64 r) ∧ st = ⟨B, Rw, L⟩ := by
  rw [v_Size_F] at h
  refine ACalls.finP (acalls_of (rs := [.tmp 2]) Tryz.func144 rfl rfl Tryz.ntmps144 (enters_some Tryz.func144 rfl (by decide)) (Nat.le_of_ble_eq_true rfl) ?_)
  intro M0 W0 hN hNR hNL hcalm hu
  dsimp only at hN hNR hNL hcalm hu
  simp only [argsE]
  have hO := Owns.none Rw
  have hs := fact0
  refine rg [1] hs ?_
  refine rg [1, 3] hs ?_
  apply awp_seq; intro K3 hK3
  refine rc 2 [3, 5] hs ?_; intro K4 hK4
  refine callK_pp _ (preorder_at w0 _ _ _ a0) (hv hs) ?_; rintro _ _ ⟨rfl, rfl⟩
  refine ne hs hK4 ?_
  clear hK4
  apply awp_block
  obtain ⟨hg5, h⟩ := guard_some h
  refine awp_range (itemsV a0) (fun st => st.boxes[(B.length + 2)]? = some a0.cs) (fun i st => ∃ (b1_r6 : Int) (rows_r6 : List RowA), st = ⟨B ++ ([a0.cs, [.val (.int .i64 b1_r6)], a0.cs]), rows_r6, L⟩ ∧ Owns Rw rows_r6 [] ∧ v_Size_r6  ((preV 1 a0).drop i) b1_r6 = some r) (fun _ _ => False) ev ev (preorder_iter w0 a0 hg5 _) (fun x hx => itemsV_two a0 x hx) (by decide) ?_ ⟨0, Rw, ef hs, hO, h⟩ (fun _ _ h => h.elim) ?_ ?_ ?_
  · rintro i st la ⟨b1_r6, rows_r6, rfl, hO, h⟩ _ _; simp +decide [St.push]
  · rintro i s1 ⟨XB, XR, XL⟩ x M1 W1 l la la' hX hI hlike hloops hx hra K hK
    obtain ⟨p_r6, hpi, rfl, hi⟩ := itemsV_get a0 i x hx
    (try simp only at hX)
    subst hX
    obtain ⟨b1_r6, rows_r6, rfl, hO, h⟩ := hI
    rw [drop_get hpi, v_Size_r6] at h
    have hra0_r6 := hO
    simp only [St.ext, St.push, List.append_assoc, List.append_nil]
    refine awp_sub (keepL [3] _) ?_ (sub_keepL _ _)
    apply awp_skip; simp +decide only [go_sem, Nat.reduceAdd]
    (repeat' apply And.intro) <;> first | refine hK _ _ (by simp [St.ext, St.push]) (fun KQ hKQ => ?_) | exact cl
    clear hK
    dsimp only [St.ext, St.push]
    apply awp_block
    obtain ⟨hg7, h⟩ := guard_some h
    apply awp_region 1 [3]
    rw [evK_succ]; simp +decide only [go_sem, Nat.reduceAdd]
    (repeat' apply And.intro) <;> first | refine hKQ _ _ _ ⟨⟨B ++ [a0.cs, [.val (.int .i64 (b1_r6 + 1))], a0.cs], rows_r6, L⟩, [], by first | rfl | (simp only [List.append_assoc, List.append_nil, List.cons_append, List.nil_append]; done), ⟨by simp, by first | exact Nat.le_refl _ | (have := hO.len; simp; omega), rfl⟩, rfl, ⟨(b1_r6 + 1), rows_r6, ef hs, hO, h⟩, ?_⟩ | exact cl
    exact .inl rfl
  · rintro s la ⟨XB, XR, XL⟩ hXR ⟨b1_r6, rows_r6, rfl, hO, h⟩ _ _
    simp only at hXR
    subst hXR
    rw [List.drop_eq_nil_of_le (by rw [itemsV_length]; exact Nat.le_refl _), v_Size_r6] at h
    simp only [St.ext, St.push, List.append_assoc, List.append_nil]
    (repeat' apply And.intro) <;> first | refine hK3 _ _ ?_ | exact cl
    clear hK3
    refine awp_tidyL (bs := [a0.cs, [.val (.int .i64 b1_r6)], a0.cs]) hN hNR hNL rfl hcalm hO (by (simp +decide only [go_sem, Nat.reduceAdd]) <;> (try (repeat' apply And.intro)) <;> first | omega | assumption) (by (simp +decide only [go_sem, Nat.reduceAdd, calmE]) <;> (try (repeat' apply And.intro)) <;> first | omega | assumption) ?_
    refine rg [2] hs ?_
    exact rt h hs hcalm hO
  · rintro ex s la X hX h; exact h.elim
end Go.Proofs.YtggimoedcamonaaGreatDoor
namespace Go.Proofs.YtggimoedcamonaaGreatDoor
open Go Go.RowKit Go.Ev
set_option linter.unusedSimpArgs false
set_option linter.unusedVariables false
def s_leastSize_k28 (rec : Ty → Option Int) (n : Nat) (again_l23 : Int → Int → Option Int) (x38_l23 : Int) (x3_k28 : Int) : Option Int :=
  if I64 (x38_l23 + 1) then
    again_l23 x3_k28 (x38_l23 + 1)
  else none
def s_leastSize_k4 (rec : Ty → Option Int) (n : Nat)  (x3_k4 : Int) : Option Int :=
  some ((if 4097 < x3_k4 then 4097 else x3_k4))
def s_leastSize_l23 (rec : Ty → Option Int) (n : Nat) (a0 : Ty) : Nat → Int → Int → Option Int
  | 0, _, _ => none
  | m + 1, x3_l23, x38_l23 =>
    if decide (x38_l23 < ((a0.fields.length : Int))) then
      (idx a0.fields x38_l23).bind fun x31 =>
      if decide (x31.2.2.1 = 1) then
        (rec x31.2.2.2.1).bind fun y35 =>
        if I64 (x3_l23 + y35) then
          s_leastSize_k28 rec n (s_leastSize_l23 rec n a0 m) x38_l23 (x3_l23 + y35)
        else none
      else
        if decide (x31.2.2.1 = 3) then
          (idx x31.2.2.2.2 0).bind fun x39 =>
          (v_Size_F x39).bind fun y40 =>
          if I64 (x3_l23 + y40) then
            s_leastSize_k28 rec n (s_leastSize_l23 rec n a0 m) x38_l23 (x3_l23 + y40)
          else none
        else
          s_leastSize_k28 rec n (s_leastSize_l23 rec n a0 m) x38_l23 x3_l23
    else
      s_leastSize_k4 rec n x3_l23
def s_leastSize_B (rec : Ty → Option Int) (n : Nat) (a0 : Ty) : Option Int :=
  if decide (a0.kind = 8) then
    if decide (0 < a0.min) then
      (idx a0.elem 0).bind fun x11 =>
      (rec x11).bind fun y12 =>
      if I64 (a0.min * y12) then
        if I64 (1 + (a0.min * y12)) then
          s_leastSize_k4 rec n (1 + (a0.min * y12))
        else none
      else none
    else
      s_leastSize_k4 rec n 1
  else
    if decide (a0.kind = 10) then
      (idx a0.fields 0).bind fun x17 =>
      (rec x17.2.2.2.1).bind fun y18 =>
      if I64 (1 + y18) then
        s_leastSize_k4 rec n (1 + y18)
      else none
    else
      if decide (a0.kind = 9) then
        s_leastSize_l23 rec n a0 n 1 0
      else
        s_leastSize_k4 rec n 1
def s_leastSize_F : Nat → Ty → Option Int
  | 0, _ => none
  | n + 1, a0 => s_leastSize_B (s_leastSize_F n) n a0
set_option maxRecDepth 100000 in
set_option maxHeartbeats 4000000 in
theorem s_leastSize_step (w0 : World) (rec : Ty → Option Int) (ih : ∀ (B : List (List AV)) (Rw : List RowA) (L : List LoopA) (a0 : Ty) (r : Int) (h : rec a0 = some r), ACalls Tryz.prog w0 98 [.agg (a0.cs)] ⟨B, Rw, L⟩ fun x st => x = .val (.int .i64 r) ∧ st = ⟨B, Rw, L⟩) (n : Nat) (B : List (List AV)) (Rw : List RowA) (L : List LoopA) (a0 : Ty) (r : Int) (h : s_leastSize_B rec n a0 = some r) :
    ACalls Tryz.prog w0 98 [.agg (a0.cs)] ⟨B, Rw, L⟩ fun x st => x = .val (.int .i64 r) ∧ st = ⟨B, Rw, L⟩ := by
  rw [s_leastSize_B] at h
  refine ACalls.finP (acalls_of (rs := [.tmp 2]) Tryz.func98 rfl rfl Tryz.ntmps98 (enters_some Tryz.func98 rfl (by decide)) (Nat.le_of_ble_eq_true rfl) ?_)
  intro M0 W0 hN hNR hNL hcalm hu
  dsimp only at hN hNR hNL hcalm hu
  simp only [argsE]
  have hO := Owns.none Rw
  have hs := fact0
  refine rg [1] hs ?_
  refine rg [1, 3] hs ?_
  refine awp_mid (fun e st => ∃ (x3_k4 : Int) (X_k4 : List (List AV)) (rows_k4 : List RowA), e = [(3, true, .val (.int .i64 x3_k4))] ∧ st = ⟨B ++ ([a0.cs] ++ X_k4), rows_k4, L⟩ ∧ Owns Rw rows_k4 [] ∧ s_leastSize_k4 rec n x3_k4 = some r) ?_ ?_
  · intro K5 hK5
    refine rg [1, 3, 7] hs ?_
    apply awp_block
    refine rg [1, 3, 7, 8] hs ?_
    refine cnd h hs (fun hs h => ?_) (fun hs h => ?_)
    · skip
      have hb8 := hs.1
      refine rg [1, 3, 12] hs ?_
      refine cnd h hs (fun hs h => ?_) (fun hs h => ?_)
      · skip
        have hb10 := hs.1
        obtain ⟨x11, hx11, h⟩ := bind_some h
        obtain ⟨hx11a, hx11b, hx11c⟩ := idx_some hx11
        have hx11d := getD_map (f := avT) hx11c
        have hx11e : (a0.elem.map avT).getD 0 .junk = _ := hx11d
        obtain ⟨y12, hy12, h⟩ := bind_some h
        obtain ⟨hg13, h⟩ := guard_some h
        obtain ⟨hg14, h⟩ := guard_some h
        apply awp_draw mix 10 2 1 [3] (by kernel_rfl)
        rw [evK_succ]; simp +decide only [go_sem, Nat.reduceAdd, hb8, hb10, hx11d, hx11e]
        have hs := And.intro hx11d hs
        have hs := And.intro hx11e hs
        (repeat' apply And.intro) <;> first | refine callK_p _ (ih _ _ _ x11 _ hy12) (hv hs) ?_ | exact cl
        rw [evK_succ]; simp +decide only [go_sem, Nat.reduceAdd, hb8, hb10, hx11d, hx11e]
        (repeat' with_reducible apply And.intro) <;> first | (rw [evK_succ]; simp +decide only [go_sem, Nat.reduceAdd, hb8, hb10, hx11d, hx11e]) | exact cl
        (repeat' apply And.intro) <;> first | refine hK5 _ _ ⟨(1 + (a0.min * y12)), ([]), Rw, ef hs, ef hs, hO, h⟩ | exact cl
      have hb10 := hs.1
      refine sk [3] hs hK5 ?_
      exact ⟨1, ([]), Rw, ef hs, ef hs, hO, h⟩
    have hb8 := hs.1
    refine rg [1, 3, 7, 23] hs ?_
    refine cnd h hs (fun hs h => ?_) (fun hs h => ?_)
    · skip
      have hb16 := hs.1
      obtain ⟨x17, hx17, h⟩ := bind_some h
      obtain ⟨hx17a, hx17b, hx17c⟩ := idx_some hx17
      have hx17d := getD_map (f := avTF) hx17c
      have hx17e : (a0.fields.map avTF).getD 0 .junk = _ := hx17d
      obtain ⟨y18, hy18, h⟩ := bind_some h
      obtain ⟨hg19, h⟩ := guard_some h
      apply awp_region 2 [3]
      rw [evK_succ]; simp +decide only [go_sem, Nat.reduceAdd, hb8, hb16, hx17d, hx17e]
      have hs := And.intro hx17d hs
      have hs := And.intro hx17e hs
      (repeat' apply And.intro) <;> first | refine callK_p _ (ih _ _ _ x17.2.2.2.1 _ hy18) (hv hs) ?_ | exact cl
      rw [evK_succ]; simp +decide only [go_sem, Nat.reduceAdd, hb8, hb16, hx17d, hx17e]
      (repeat' apply And.intro) <;> first | refine hK5 _ _ ⟨(1 + y18), ([]), Rw, ef hs, ef hs, hO, h⟩ | exact cl
    have hb16 := hs.1
    refine rg [1, 3, 33] hs ?_
    refine cnd h hs (fun hs h => ?_) (fun hs h => ?_)
    · skip
      have hb21 := hs.1
      refine rg [3, 36, 37, 38] hs ?_
      apply awp_block
      refine awp_loop (fun m e st => ∃ (x3_l23 : Int) (x38_l23 : Int) (X_l23 : List (List AV)) (rows_l23 : List RowA), e = [(3, true, .val (.int .i64 x3_l23)), (36, true, .list (a0.fields.map avTF) .none), (37, true, .val (.int .i64 ((a0.fields.length : Int)))), (38, true, .val (.int .i64 x38_l23))] ∧ st = ⟨B ++ ([a0.cs] ++ X_l23), rows_l23, L⟩ ∧ Owns Rw rows_l23 [] ∧ s_leastSize_l23 rec n a0 m x3_l23 x38_l23 = some r) n ⟨1, 0, ([]), Rw, ef hs, ef hs, hO, h⟩ ?_
      rintro m_l23 e st ⟨x3_l23, x38_l23, X_l23, rows_l23, rfl, rfl, hO, h⟩ KR_l23 hKR_l23
      cases m_l23 with
      | zero => cases h
      | succ m_l23 =>
      rw [s_leastSize_l23] at h
      refine td hN hNR hNL hcalm hO ?_
      refine rg [3, 36, 37, 38, 39] hs ?_
      apply awp_seq; intro K25 hK25
      refine cnd h hs (fun hs h => ?_) (fun hs h => ?_)
      rotate_left
      · skip
        have hb26 := hs.1
        refine sx [3] hs hK5 ?_
        exact ⟨x3_l23, ([]), rows_l23, ef hs, ef hs, hO, h⟩
      have hb26 := hs.1
      refine sk [3, 36, 37, 38] hs hK25 ?_
      clear hK25
      refine awp_mid (fun e st => ∃ (x3_k28 : Int) (X_k28 : List (List AV)) (rows_k28 : List RowA), e = [(3, true, .val (.int .i64 x3_k28)), (36, true, .list (a0.fields.map avTF) .none), (37, true, .val (.int .i64 ((a0.fields.length : Int)))), (38, true, .val (.int .i64 x38_l23))] ∧ st = ⟨B ++ ([a0.cs] ++ X_k28), rows_k28, L⟩ ∧ Owns Rw rows_k28 [] ∧ s_leastSize_k28 rec n (s_leastSize_l23 rec n a0 m_l23) x38_l23 x3_k28 = some r) ?_ ?_
      · intro K29 hK29
        apply awp_block
        obtain ⟨x31, hx31, h⟩ := bind_some h
        obtain ⟨hx31a, hx31b, hx31c⟩ := idx_some hx31
        have hx31d := getD_map (f := avTF) hx31c
        have hs := And.intro hx31d hs
        refine rg [3, 5, 36, 37, 38] hs ?_
        refine rg [3, 5, 36, 37, 38, 43] hs ?_
        apply awp_block
        refine rg [3, 5, 36, 37, 38, 43, 44] hs ?_
        refine cnd h hs (fun hs h => ?_) (fun hs h => ?_)
        · skip
          have hb34 := hs.1
          obtain ⟨y35, hy35, h⟩ := bind_some h
          obtain ⟨hg36, h⟩ := guard_some h
          apply awp_region 2 [3, 36, 37, 38]
          rw [evK_succ]; simp +decide only [go_sem, Nat.reduceAdd, hb8, hb16, hb21, hb26, hx31d, hb34]
          (repeat' apply And.intro) <;> first | refine callK_p _ (ih _ _ _ x31.2.2.2.1 _ hy35) (hv hs) ?_ | exact cl
          rw [evK_succ]; simp +decide only [go_sem, Nat.reduceAdd, hb8, hb16, hb21, hb26, hx31d, hb34]
          (repeat' apply And.intro) <;> first | refine hK29 _ _ ⟨(x3_l23 + y35), ([.val (.int .i64 x31.1) :: (.val (.string x31.2.1) :: (.val (.int .i64 x31.2.2.1) :: ((x31.2.2.2.1.cs) ++ ([.list (x31.2.2.2.2.map avV) .none]))))]), rows_l23, ef hs, ef hs, hO, h⟩ | exact cl
        have hb34 := hs.1
        refine rg [3, 5, 36, 37, 38, 51] hs ?_
        refine cnd h hs (fun hs h => ?_) (fun hs h => ?_)
        · skip
          have hb38 := hs.1
          obtain ⟨x39, hx39, h⟩ := bind_some h
          obtain ⟨hx39a, hx39b, hx39c⟩ := idx_some hx39
          have hx39d := getD_map (f := avV) hx39c
          have hx39e : (x31.2.2.2.2.map avV).getD 0 .junk = _ := hx39d
          obtain ⟨y40, hy40, h⟩ := bind_some h
          obtain ⟨hg41, h⟩ := guard_some h
          apply awp_region 2 [3, 36, 37, 38]
          rw [evK_succ]; simp +decide only [go_sem, Nat.reduceAdd, hb8, hb16, hb21, hb26, hx31d, hb34, hb38, hx39d, hx39e]
          have hs := And.intro hx39d hs
          have hs := And.intro hx39e hs
          (repeat' apply And.intro) <;> first | refine callK_p _ (v_Size_at w0 _ _ _ x39 _ hy40) (hv hs) ?_ | exact cl
          rw [evK_succ]; simp +decide only [go_sem, Nat.reduceAdd, hb8, hb16, hb21, hb26, hx31d, hb34, hb38, hx39d, hx39e]
          (repeat' apply And.intro) <;> first | refine hK29 _ _ ⟨(x3_l23 + y40), ([.val (.int .i64 x31.1) :: (.val (.string x31.2.1) :: (.val (.int .i64 x31.2.2.1) :: ((x31.2.2.2.1.cs) ++ ([.list (x31.2.2.2.2.map avV) .none]))))]), rows_l23, ef hs, ef hs, hO, h⟩ | exact cl
        have hb38 := hs.1
        refine sk [3, 36, 37, 38] hs hK29 ?_
        exact ⟨x3_l23, ([.val (.int .i64 x31.1) :: (.val (.string x31.2.1) :: (.val (.int .i64 x31.2.2.1) :: ((x31.2.2.2.1.cs) ++ ([.list (x31.2.2.2.2.map avV) .none]))))]), rows_l23, ef hs, ef hs, hO, h⟩
      · clear h; rintro e st ⟨x3_k28, X_k28, rows_k28, rfl, rfl, hO, h⟩
        rw [s_leastSize_k28] at h
        refine td hN hNR hNL hcalm hO ?_
        obtain ⟨hg42, h⟩ := guard_some h
        apply awp_region 1 [3, 36, 37, 38]
        rw [evK_succ]; simp +decide only [go_sem, Nat.reduceAdd, hb8, hb16, hb21, hb26]
        (repeat' apply And.intro) <;> first | refine hKR_l23 m_l23 _ _ (Nat.lt_succ_self m_l23) ⟨x3_k28, (x38_l23 + 1), ([]), rows_k28, ef hs, ef hs, hO, h⟩ | exact cl
    have hb21 := hs.1
    refine sk [3] hs hK5 ?_
    exact ⟨1, ([]), Rw, ef hs, ef hs, hO, h⟩
  · clear h; rintro e st ⟨x3_k4, X_k4, rows_k4, rfl, rfl, hO, h⟩
    rw [s_leastSize_k4] at h
    refine td hN hNR hNL hcalm hO ?_
    refine rg [2] hs ?_
    exact rt h hs hcalm hO
theorem s_leastSize_at (w0 : World) : ∀ (n : Nat) (B : List (List AV)) (Rw : List RowA) (L : List LoopA) (a0 : Ty) (r : Int) (h : s_leastSize_F n a0 = some r), ACalls Tryz.prog w0 98 [.agg (a0.cs)] ⟨B, Rw, L⟩ fun x st => x = .val (.int .i64 r) ∧ st = ⟨B, Rw, L⟩
  | 0, _, _, _, _, _, h => (nomatch h)
  | n + 1, B, Rw, L, a0, r, h => s_leastSize_step w0 (s_leastSize_F n) (s_leastSize_at w0 n) n B Rw L a0 r (by rw [s_leastSize_F] at h; exact h)
end Go.Proofs.YtggimoedcamonaaGreatDoor
namespace Go.Proofs.YtggimoedcamonaaGreatDoor
open Go Go.RowKit Go.Ev
set_option linter.unusedSimpArgs false
set_option linter.unusedVariables false
def s_greatestSize_k18 (rec : Ty → Option Int) (n : Nat)  (x3_k18 : Int) : Option Int :=
  some (x3_k18)
def s_greatestSize_l21 (rec : Ty → Option Int) (n : Nat) (a0 : Ty) : Nat → Int → Int → Option Int
  | 0, _, _ => none
  | m + 1, x3_l21, x25_l21 =>
    if decide (x25_l21 < ((a0.fields.length : Int))) then
      (idx a0.fields x25_l21).bind fun x27 =>
      (rec x27.2.2.2.1).bind fun y28 =>
      if I64 (x25_l21 + 1) then
        (s_greatestSize_l21 rec n a0 m) ((if x3_l21 < y28 then y28 else x3_l21)) (x25_l21 + 1)
      else none
    else
      s_greatestSize_k18 rec n x3_l21
def s_greatestSize_k5 (rec : Ty → Option Int) (n : Nat) (a0 : Ty) (x3_k5 : Int) : Option Int :=
  s_greatestSize_l21 rec n a0 n x3_k5 0
def s_greatestSize_l8 (rec : Ty → Option Int) (n : Nat) (a0 : Ty) : Nat → Int → Int → Option Int
  | 0, _, _ => none
  | m + 1, x3_l8, x13_l8 =>
    if decide (x13_l8 < ((a0.elem.length : Int))) then
      (idx a0.elem x13_l8).bind fun x14 =>
      (rec x14).bind fun y15 =>
      if I64 (x13_l8 + 1) then
        (s_greatestSize_l8 rec n a0 m) ((if x3_l8 < y15 then y15 else x3_l8)) (x13_l8 + 1)
      else none
    else
      s_greatestSize_k5 rec n a0 x3_l8
def s_greatestSize_B (rec : Ty → Option Int) (n : Nat) (a0 : Ty) : Option Int :=
  (s_leastSize_F n a0).bind fun y3 =>
  s_greatestSize_l8 rec n a0 n y3 0
def s_greatestSize_F : Nat → Ty → Option Int
  | 0, _ => none
  | n + 1, a0 => s_greatestSize_B (s_greatestSize_F n) n a0
set_option maxRecDepth 100000 in
set_option maxHeartbeats 4000000 in
theorem s_greatestSize_step (w0 : World) (rec : Ty → Option Int) (ih : ∀ (B : List (List AV)) (Rw : List RowA) (L : List LoopA) (a0 : Ty) (r : Int) (h : rec a0 = some r), ACalls Tryz.prog w0 54 [.agg (a0.cs)] ⟨B, Rw, L⟩ fun x st => x = .val (.int .i64 r) ∧ st = ⟨B, Rw, L⟩) (n : Nat) (B : List (List AV)) (Rw : List RowA) (L : List LoopA) (a0 : Ty) (r : Int) (h : s_greatestSize_B rec n a0 = some r) :
    ACalls Tryz.prog w0 54 [.agg (a0.cs)] ⟨B, Rw, L⟩ fun x st => x = .val (.int .i64 r) ∧ st = ⟨B, Rw, L⟩ := by
  rw [s_greatestSize_B] at h
  refine ACalls.finP (acalls_of (rs := [.tmp 2]) Tryz.func54 rfl rfl Tryz.ntmps54 (enters_some Tryz.func54 rfl (by decide)) (Nat.le_of_ble_eq_true rfl) ?_)
  intro M0 W0 hN hNR hNL hcalm hu
  dsimp only at hN hNR hNL hcalm hu
  simp only [argsE]
  have hO := Owns.none Rw
  have hs := fact0
  refine rg [1] hs ?_
  obtain ⟨y3, hy3, h⟩ := bind_some h
  refine rc 2 [1, 3] hs ?_; intro K2 hK2
  refine callK_p _ (s_leastSize_at w0 n _ _ _ a0 _ hy3) (hv hs) ?_
  refine ne hs hK2 ?_
  clear hK2
  refine awp_mid (fun e st => ∃ (x3_k5 : Int) (X_k5 : List (List AV)) (rows_k5 : List RowA), e = [(1, true, .box B.length 0), (3, true, .val (.int .i64 x3_k5))] ∧ st = ⟨B ++ ([a0.cs] ++ X_k5), rows_k5, L⟩ ∧ Owns Rw rows_k5 [] ∧ s_greatestSize_k5 rec n a0 x3_k5 = some r) ?_ ?_
  · intro K6 hK6
    refine rg [1, 3, 11, 12, 13] hs ?_
    apply awp_block
    refine awp_loop (fun m e st => ∃ (x3_l8 : Int) (x13_l8 : Int) (X_l8 : List (List AV)) (rows_l8 : List RowA), e = [(1, true, .box B.length 0), (3, true, .val (.int .i64 x3_l8)), (11, true, .list (a0.elem.map avT) .none), (12, true, .val (.int .i64 ((a0.elem.length : Int)))), (13, true, .val (.int .i64 x13_l8))] ∧ st = ⟨B ++ ([a0.cs] ++ X_l8), rows_l8, L⟩ ∧ Owns Rw rows_l8 [] ∧ s_greatestSize_l8 rec n a0 m x3_l8 x13_l8 = some r) n ⟨y3, 0, ([]), Rw, ef hs, ef hs, hO, h⟩ ?_
    rintro m_l8 e st ⟨x3_l8, x13_l8, X_l8, rows_l8, rfl, rfl, hO, h⟩ KR_l8 hKR_l8
    cases m_l8 with
    | zero => cases h
    | succ m_l8 =>
    rw [s_greatestSize_l8] at h
    refine td hN hNR hNL hcalm hO ?_
    refine rg [1, 3, 11, 12, 13, 14] hs ?_
    apply awp_seq; intro K10 hK10
    refine cnd h hs (fun hs h => ?_) (fun hs h => ?_)
    rotate_left
    · skip
      have hb11 := hs.1
      refine sx [1, 3] hs hK6 ?_
      exact ⟨x3_l8, ([]), rows_l8, ef hs, ef hs, hO, h⟩
    have hb11 := hs.1
    refine sk [1, 3, 11, 12, 13] hs hK10 ?_
    clear hK10
    apply awp_seq; intro K12 hK12
    apply awp_block
    obtain ⟨x14, hx14, h⟩ := bind_some h
    obtain ⟨hx14a, hx14b, hx14c⟩ := idx_some hx14
    have hx14d := getD_map (f := avT) hx14c
    have hs := And.intro hx14d hs
    refine rg [1, 3, 5, 11, 12, 13] hs ?_
    obtain ⟨y15, hy15, h⟩ := bind_some h
    apply awp_region 2 [1, 3, 11, 12, 13]
    rw [evK_succ]; simp +decide only [go_sem, Nat.reduceAdd, hb11, hx14d]
    (repeat' apply And.intro) <;> first | refine callK_p _ (ih _ _ _ x14 _ hy15) (hv hs) ?_ | exact cl
    rw [evK_succ]; simp +decide only [go_sem, Nat.reduceAdd, hb11, hx14d]
    (repeat' apply And.intro) <;> first | refine hK12 _ _ ?_ | exact cl
    clear hK12
    obtain ⟨hg16, h⟩ := guard_some h
    apply awp_region 1 [1, 3, 11, 12, 13]
    rw [evK_succ]; simp +decide only [go_sem, Nat.reduceAdd, hb11, hx14d]
    (repeat' apply And.intro) <;> first | refine hKR_l8 m_l8 _ _ (Nat.lt_succ_self m_l8) ⟨((if x3_l8 < y15 then y15 else x3_l8)), (x13_l8 + 1), ([x14.cs]), rows_l8, ef hs, ef hs, hO, h⟩ | exact cl
  · clear h; rintro e st ⟨x3_k5, X_k5, rows_k5, rfl, rfl, hO, h⟩
    rw [s_greatestSize_k5] at h
    refine td hN hNR hNL hcalm hO ?_
    refine awp_mid (fun e st => ∃ (x3_k18 : Int) (X_k18 : List (List AV)) (rows_k18 : List RowA), e = [(3, true, .val (.int .i64 x3_k18))] ∧ st = ⟨B ++ ([a0.cs] ++ X_k18), rows_k18, L⟩ ∧ Owns Rw rows_k18 [] ∧ s_greatestSize_k18 rec n x3_k18 = some r) ?_ ?_
    · intro K19 hK19
      refine rg [3, 23, 24, 25] hs ?_
      apply awp_block
      refine awp_loop (fun m e st => ∃ (x3_l21 : Int) (x25_l21 : Int) (X_l21 : List (List AV)) (rows_l21 : List RowA), e = [(3, true, .val (.int .i64 x3_l21)), (23, true, .list (a0.fields.map avTF) .none), (24, true, .val (.int .i64 ((a0.fields.length : Int)))), (25, true, .val (.int .i64 x25_l21))] ∧ st = ⟨B ++ ([a0.cs] ++ X_l21), rows_l21, L⟩ ∧ Owns Rw rows_l21 [] ∧ s_greatestSize_l21 rec n a0 m x3_l21 x25_l21 = some r) n ⟨x3_k5, 0, ([]), rows_k5, ef hs, ef hs, hO, h⟩ ?_
      rintro m_l21 e st ⟨x3_l21, x25_l21, X_l21, rows_l21, rfl, rfl, hO, h⟩ KR_l21 hKR_l21
      cases m_l21 with
      | zero => cases h
      | succ m_l21 =>
      rw [s_greatestSize_l21] at h
      refine td hN hNR hNL hcalm hO ?_
      refine rg [3, 23, 24, 25, 26] hs ?_
      apply awp_seq; intro K23 hK23
      refine cnd h hs (fun hs h => ?_) (fun hs h => ?_)
      rotate_left
      · skip
        have hb24 := hs.1
        refine sx [3] hs hK19 ?_
        exact ⟨x3_l21, ([]), rows_l21, ef hs, ef hs, hO, h⟩
      have hb24 := hs.1
      refine sk [3, 23, 24, 25] hs hK23 ?_
      clear hK23
      apply awp_seq; intro K25 hK25
      apply awp_block
      obtain ⟨x27, hx27, h⟩ := bind_some h
      obtain ⟨hx27a, hx27b, hx27c⟩ := idx_some hx27
      have hx27d := getD_map (f := avTF) hx27c
      have hs := And.intro hx27d hs
      refine rg [3, 7, 23, 24, 25] hs ?_
      obtain ⟨y28, hy28, h⟩ := bind_some h
      apply awp_region 2 [3, 23, 24, 25]
      rw [evK_succ]; simp +decide only [go_sem, Nat.reduceAdd, hb24, hx27d]
      (repeat' apply And.intro) <;> first | refine callK_p _ (ih _ _ _ x27.2.2.2.1 _ hy28) (hv hs) ?_ | exact cl
      rw [evK_succ]; simp +decide only [go_sem, Nat.reduceAdd, hb24, hx27d]
      (repeat' apply And.intro) <;> first | refine hK25 _ _ ?_ | exact cl
      clear hK25
      obtain ⟨hg29, h⟩ := guard_some h
      apply awp_region 1 [3, 23, 24, 25]
      rw [evK_succ]; simp +decide only [go_sem, Nat.reduceAdd, hb24, hx27d]
      (repeat' apply And.intro) <;> first | refine hKR_l21 m_l21 _ _ (Nat.lt_succ_self m_l21) ⟨((if x3_l21 < y28 then y28 else x3_l21)), (x25_l21 + 1), ([.val (.int .i64 x27.1) :: (.val (.string x27.2.1) :: (.val (.int .i64 x27.2.2.1) :: ((x27.2.2.2.1.cs) ++ ([.list (x27.2.2.2.2.map avV) .none]))))]), rows_l21, ef hs, ef hs, hO, h⟩ | exact cl
    · clear h; rintro e st ⟨x3_k18, X_k18, rows_k18, rfl, rfl, hO, h⟩
      rw [s_greatestSize_k18] at h
      refine td hN hNR hNL hcalm hO ?_
      refine rg [2] hs ?_
      exact rt h hs hcalm hO
theorem s_greatestSize_at (w0 : World) : ∀ (n : Nat) (B : List (List AV)) (Rw : List RowA) (L : List LoopA) (a0 : Ty) (r : Int) (h : s_greatestSize_F n a0 = some r), ACalls Tryz.prog w0 54 [.agg (a0.cs)] ⟨B, Rw, L⟩ fun x st => x = .val (.int .i64 r) ∧ st = ⟨B, Rw, L⟩
  | 0, _, _, _, _, _, h => (nomatch h)
  | n + 1, B, Rw, L, a0, r, h => s_greatestSize_step w0 (s_greatestSize_F n) (s_greatestSize_at w0 n) n B Rw L a0 r (by rw [s_greatestSize_F] at h; exact h)
end Go.Proofs.YtggimoedcamonaaGreatDoor
namespace Go.Proofs.YtggimoedcamonaaGreatDoor
open Go Go.RowKit Go.Ev
set_option linter.unusedSimpArgs false
set_option linter.unusedVariables false
def s_Check_F (n : Nat) (a0 : Ty) : Option Int :=
  (s_check_F n a0 1 4096).bind fun y5 =>
  if !(decide (y5.1 = 0)) then
    some (y5.1)
  else
    (s_greatestSize_F n a0).bind fun y11 =>
    if decide (4096 < y11) then
      some (9)
    else
      some (0)
set_option maxRecDepth 100000 in
set_option maxHeartbeats 4000000 in
theorem s_Check_at (w0 : World) (hT : Lib.Utf8Tabs 0 1 w0) (n : Nat) (B : List (List AV)) (Rw : List RowA) (L : List LoopA) (a0 : Ty) (r : Int) (h : s_Check_F n a0 = some r) :
    ACalls Tryz.prog w0 16 [.agg (a0.cs)] ⟨B, Rw, L⟩ fun x st => x = .val (.int .i64 r) ∧ st = ⟨B, Rw, L⟩ := by
  rw [s_Check_F] at h
  refine ACalls.finP (acalls_of (rs := [.tmp 2]) Tryz.func16 rfl rfl Tryz.ntmps16 (enters_some Tryz.func16 rfl (by decide)) (Nat.le_of_ble_eq_true rfl) ?_)
  intro M0 W0 hN hNR hNL hcalm hu
  dsimp only at hN hNR hNL hcalm hu
  simp only [argsE]
  have hO := Owns.none Rw
  have hs := fact0
  refine rg [1] hs ?_
  refine rg [1, 3] hs ?_
  apply awp_seq; intro K3 hK3
  obtain ⟨y5, hy5, h⟩ := bind_some h
  refine rc 2 [1, 4] hs ?_; intro K4 hK4
  refine callK_pp _ (s_check_at w0 hT n _ _ _ a0 1 (B.length + 1) 4096 ev _ hy5) (hv hs) ?_; rintro _ _ ⟨rfl, rfl⟩
  refine ne hs hK4 ?_
  clear hK4
  refine rg [1, 4, 8] hs ?_
  refine cnd h hs (fun hs h => ?_) (fun hs h => ?_)
  · skip
    refine rg [2] hs ?_
    exact rt h hs hcalm hO
  refine sk [1] hs hK3 ?_
  clear hK3
  apply awp_seq; intro K9 hK9
  obtain ⟨y11, hy11, h⟩ := bind_some h
  refine rc 2 [12] hs ?_; intro K10 hK10
  refine callK_p _ (s_greatestSize_at w0 n _ _ _ a0 _ hy11) (hv hs) ?_
  refine ne hs hK10 ?_
  clear hK10
  refine cnd h hs (fun hs h => ?_) (fun hs h => ?_)
  · skip
    refine rg [2] hs ?_
    exact rt h hs hcalm hO
  refine sk [] hs hK9 ?_
  clear hK9
  refine rg [2] hs ?_
  exact rt h hs hcalm hO
end Go.Proofs.YtggimoedcamonaaGreatDoor
namespace Go.Proofs.YtggimoedcamonaaGreatDoor
open Go Go.RowKit Go.Ev
set_option linter.unusedSimpArgs false
set_option linter.unusedVariables false
def s_Accepts_F (n : Nat) (a0 : Ty) (a1 : Vl) : Option Bool :=
  (s_Check_F n a0).bind fun y3 =>
  if decide (y3 = 0) then
    (s_accepts_F n a0 a1).bind fun y5 =>
    some (y5)
  else
    some (false)
set_option maxRecDepth 100000 in
set_option maxHeartbeats 4000000 in
theorem s_Accepts_at (w0 : World) (hT : Lib.Utf8Tabs 0 1 w0) (n : Nat) (B : List (List AV)) (Rw : List RowA) (L : List LoopA) (a0 : Ty) (a1 : Vl) (r : Bool) (h : s_Accepts_F n a0 a1 = some r) :
    ACalls Tryz.prog w0 19 [.agg (a0.cs), .agg (a1.cs)] ⟨B, Rw, L⟩ fun x st => x = .val (.bool r) ∧ st = ⟨B, Rw, L⟩ := by
  rw [s_Accepts_F] at h
  refine ACalls.finP (acalls_of (rs := [.tmp 4]) Tryz.func19 rfl rfl Tryz.ntmps19 (enters_some Tryz.func19 rfl (by decide)) (Nat.le_of_ble_eq_true rfl) ?_)
  intro M0 W0 hN hNR hNL hcalm hu
  dsimp only at hN hNR hNL hcalm hu
  simp only [argsE]
  have hO := Owns.none Rw
  have hs := fact0
  refine rg [2, 3] hs ?_
  apply awp_seq; intro K2 hK2
  obtain ⟨y3, hy3, h⟩ := bind_some h
  rcases Bool.eq_false_or_eq_true (decide (y3 = 0)) with hf4 | hf4
  · replace h := ite_tt h hf4
    obtain ⟨y5, hy5, h⟩ := bind_some h
    apply awp_region 3 [4]
    rw [evK_succ]; simp +decide only [go_sem, Nat.reduceAdd, hf4]
    have hs := And.intro hf4 hs
    (repeat' apply And.intro) <;> first | refine callK_p _ (s_Check_at w0 hT n _ _ _ a0 _ hy3) (hv hs) ?_ | exact cl
    rw [evK_succ]; simp +decide only [go_sem, Nat.reduceAdd, hf4]
    (repeat' apply And.intro) <;> first | refine callK_p _ (s_accepts_at w0 hT n _ _ _ a0 a1 _ hy5) (hv hs) ?_ | exact cl
    rw [evK_succ]; simp +decide only [go_sem, Nat.reduceAdd, hf4]
    (repeat' apply And.intro) <;> first | refine hK2 _ _ ?_ | exact cl
    clear hK2
    exact rt h hs hcalm hO
  · replace h := ite_ff h hf4
    apply awp_region 3 [4]
    rw [evK_succ]; simp +decide only [go_sem, Nat.reduceAdd, hf4]
    have hs := And.intro hf4 hs
    (repeat' apply And.intro) <;> first | refine callK_p _ (s_Check_at w0 hT n _ _ _ a0 _ hy3) (hv hs) ?_ | exact cl
    rw [evK_succ]; simp +decide only [go_sem, Nat.reduceAdd, hf4]
    (repeat' apply And.intro) <;> first | refine callK_skip ?_ | exact cl
    rw [evK_succ]; simp +decide only [go_sem, Nat.reduceAdd, hf4]
    (repeat' apply And.intro) <;> first | refine hK2 _ _ ?_ | exact cl
    clear hK2
    exact rt h hs hcalm hO
end Go.Proofs.YtggimoedcamonaaGreatDoor
namespace Go.Proofs.YtggimoedcamonaaGreatDoor
open Go Go.RowKit Go.Ev
set_option linter.unusedSimpArgs false
set_option linter.unusedVariables false
def p_Part_text_F (a0 : Part) : Option ByteArray :=
  if decide (a0.kind = 1) then
    if ((⟨#[46]⟩ : ByteArray)).size + a0.name.size ≤ 9223372036854775807 then
      some (((⟨#[46]⟩ : ByteArray)) ++ a0.name)
    else none
  else
    if decide (a0.kind = 2) then
      if I64 (a0.index) then
        if ((⟨#[91]⟩ : ByteArray)).size + ((⟨(Lib.itoa a0.index).toArray⟩ : ByteArray)).size ≤ 9223372036854775807 then
          if (((⟨#[91]⟩ : ByteArray)) ++ ((⟨(Lib.itoa a0.index).toArray⟩ : ByteArray))).size + ((⟨#[93]⟩ : ByteArray)).size ≤ 9223372036854775807 then
            some ((((⟨#[91]⟩ : ByteArray)) ++ ((⟨(Lib.itoa a0.index).toArray⟩ : ByteArray))) ++ ((⟨#[93]⟩ : ByteArray)))
          else none
        else none
      else none
    else
      if decide (a0.kind = 3) then
        some ((⟨#[91, 42, 93]⟩ : ByteArray))
      else
        if ((⟨#[63]⟩ : ByteArray)).size + a0.name.size ≤ 9223372036854775807 then
          some (((⟨#[63]⟩ : ByteArray)) ++ a0.name)
        else none
set_option maxRecDepth 100000 in
set_option maxHeartbeats 4000000 in
theorem p_Part_text_at (w0 : World) (hP : Pow10 w0) (B : List (List AV)) (Rw : List RowA) (L : List LoopA) (a0 : Part) (r : ByteArray) (h : p_Part_text_F a0 = some r) :
    ACalls Tryz.prog w0 115 [.agg (.val (.int .i64 a0.kind) :: (.val (.int .i64 a0.index) :: ([.val (.string a0.name)])))] ⟨B, Rw, L⟩ fun x st => x = .val (.string r) ∧ st = ⟨B, Rw, L⟩ := by
  rw [p_Part_text_F] at h
  refine ACalls.finP (acalls_of (rs := [.tmp 2]) Tryz.func115 rfl rfl Tryz.ntmps115 (enters_some Tryz.func115 rfl (by decide)) (Nat.le_of_ble_eq_true rfl) ?_)
  intro M0 W0 hN hNR hNL hcalm hu
  dsimp only at hN hNR hNL hcalm hu
  simp only [argsE]
  have hO := Owns.none Rw
  have hs := fact0
  refine rg [1] hs ?_
  apply awp_seq; intro K2 hK2
  refine rg [1, 4] hs ?_
  apply awp_block
  refine rg [1, 4, 5] hs ?_
  refine cnd h hs (fun hs h => ?_) (fun hs h => ?_)
  · skip
    obtain ⟨hg7, h⟩ := guard_some h
    have hg7s := hg7
    try simp +decide only [go_sem] at hg7s
    refine rg [2] hs ?_
    exact rt h hs hcalm hO
  refine rg [1, 4, 10] hs ?_
  refine cnd h hs (fun hs h => ?_) (fun hs h => ?_)
  · skip
    obtain ⟨hg11, h⟩ := guard_some h
    obtain ⟨hg12, h⟩ := guard_some h
    have hg12s := hg12
    try simp +decide only [go_sem] at hg12s
    obtain ⟨hg13, h⟩ := guard_some h
    have hg13s := hg13
    try simp +decide only [go_sem] at hg13s
    refine rc 2 [2] hs ?_; intro K10 hK10
    refine callK_p _ (sItoa_at w0 _ _ _ hP a0.index hg11) (hv hs) ?_
    refine ne hs hK10 ?_
    clear hK10
    exact rt h hs hcalm hO
  refine rg [1, 17] hs ?_
  refine cnd h hs (fun hs h => ?_) (fun hs h => ?_)
  · skip
    refine rg [2] hs ?_
    exact rt h hs hcalm hO
  refine sk [1] hs hK2 ?_
  clear hK2
  obtain ⟨hg18, h⟩ := guard_some h
  have hg18s := hg18
  try simp +decide only [go_sem] at hg18s
  refine rg [2] hs ?_
  exact rt h hs hcalm hO
end Go.Proofs.YtggimoedcamonaaGreatDoor
namespace Go.Proofs.YtggimoedcamonaaGreatDoor
open Go Go.RowKit Go.Ev
set_option linter.unusedSimpArgs false
set_option linter.unusedVariables false
def p_Part_valid_k5 (a0 : Part) (x5_k5 : Bool) : Option Bool :=
  if x5_k5 then
    if decide (a0.index = 0) then
      if a0.name.size ≤ maxLen then
        some (nameB a0.name)
      else none
    else
      some (false)
  else
    if decide (a0.kind = 2) then
      some (((sEq a0.name ((⟨#[]⟩ : ByteArray))) && (decide (0 ≤ a0.index))) && (decide (a0.index < 256)))
    else
      if decide (a0.kind = 3) then
        some ((sEq a0.name ((⟨#[]⟩ : ByteArray))) && (decide (a0.index = 0)))
      else
        some (false)
def p_Part_valid_F (a0 : Part) : Option Bool :=
  if decide (a0.kind = 1) then
    p_Part_valid_k5 a0 true
  else
    p_Part_valid_k5 a0 (decide (a0.kind = 4))
set_option maxRecDepth 100000 in
set_option maxHeartbeats 4000000 in
theorem p_Part_valid_at (w0 : World) (B : List (List AV)) (Rw : List RowA) (L : List LoopA) (a0 : Part) (r : Bool) (h : p_Part_valid_F a0 = some r) :
    ACalls Tryz.prog w0 114 [.agg (.val (.int .i64 a0.kind) :: (.val (.int .i64 a0.index) :: ([.val (.string a0.name)])))] ⟨B, Rw, L⟩ fun x st => x = .val (.bool r) ∧ st = ⟨B, Rw, L⟩ := by
  rw [p_Part_valid_F] at h
  refine ACalls.finP (acalls_of (rs := [.tmp 2]) Tryz.func114 rfl rfl Tryz.ntmps114 (enters_some Tryz.func114 rfl (by decide)) (Nat.le_of_ble_eq_true rfl) ?_)
  intro M0 W0 hN hNR hNL hcalm hu
  dsimp only at hN hNR hNL hcalm hu
  simp only [argsE]
  have hO := Owns.none Rw
  have hs := fact0
  refine rg [1] hs ?_
  apply awp_seq; intro K2 hK2
  refine rg [1, 4] hs ?_
  apply awp_block
  refine awp_mid (fun e st => ∃ (x5_k5 : Bool) (X_k5 : List (List AV)) (rows_k5 : List RowA), e = [(1, true, .box B.length 0), (4, true, .val (.int .i64 a0.kind)), (5, true, .val (.bool x5_k5))] ∧ st = ⟨B ++ ([.val (.int .i64 a0.kind) :: (.val (.int .i64 a0.index) :: ([.val (.string a0.name)]))] ++ X_k5), rows_k5, L⟩ ∧ Owns Rw rows_k5 [] ∧ p_Part_valid_k5 a0 x5_k5 = some r) ?_ ?_
  · intro K6 hK6
    refine rg [1, 4, 5] hs ?_
    refine cnd h hs (fun hs h => ?_) (fun hs h => ?_)
    · skip
      have hb8 := hs.1
      refine sk [1, 4, 5] hs hK6 ?_
      exact ⟨true, ([]), Rw, ef hs, ef hs, hO, h⟩
    have hb8 := hs.1
    apply awp_region 1 [1, 4, 5]
    rw [evK_succ]; simp +decide only [go_sem, Nat.reduceAdd, hb8]
    (repeat' apply And.intro) <;> first | refine hK6 _ _ ⟨(decide (a0.kind = 4)), ([]), Rw, ef hs, ef hs, hO, h⟩ | exact cl
  · clear h; rintro e st ⟨x5_k5, X_k5, rows_k5, rfl, rfl, hO, h⟩
    rw [p_Part_valid_k5] at h
    refine td hN hNR hNL hcalm hO ?_
    refine cnd h hs (fun hs h => ?_) (fun hs h => ?_)
    · skip
      have hb9 := hs.1
      apply awp_seq; intro K10 hK10
      rcases Bool.eq_false_or_eq_true (decide (a0.index = 0)) with hf11 | hf11
      · replace h := ite_tt h hf11
        obtain ⟨hg12, h⟩ := guard_some h
        apply awp_region 2 [2]
        rw [evK_succ]; simp +decide only [go_sem, Nat.reduceAdd, hb9, hf11]
        have hs := And.intro hf11 hs
        (repeat' apply And.intro) <;> first | refine callK_p _ (IsName_at w0 _ _ _ a0.name hg12) (hv hs) ?_ | exact cl
        rw [evK_succ]; simp +decide only [go_sem, Nat.reduceAdd, hb9, hf11]
        (repeat' apply And.intro) <;> first | refine hK10 _ _ ?_ | exact cl
        clear hK10
        exact rt h hs hcalm hO
      · replace h := ite_ff h hf11
        apply awp_region 2 [2]
        rw [evK_succ]; simp +decide only [go_sem, Nat.reduceAdd, hb9, hf11]
        (repeat' apply And.intro) <;> first | refine callK_skip ?_ | exact cl
        rw [evK_succ]; simp +decide only [go_sem, Nat.reduceAdd, hb9, hf11]
        (repeat' apply And.intro) <;> first | refine hK10 _ _ ?_ | exact cl
        clear hK10
        have hs := And.intro hf11 hs
        exact rt h hs hcalm hO
    have hb9 := hs.1
    refine rg [1, 4, 16] hs ?_
    refine cnd h hs (fun hs h => ?_) (fun hs h => ?_)
    · skip
      refine rg [2] hs ?_
      exact rt h hs hcalm hO
    refine rg [1, 31] hs ?_
    refine cnd h hs (fun hs h => ?_) (fun hs h => ?_)
    · skip
      refine rg [2] hs ?_
      exact rt h hs hcalm hO
    refine sk [] hs hK2 ?_
    clear hK2
    refine rg [2] hs ?_
    exact rt h hs hcalm hO
end Go.Proofs.YtggimoedcamonaaGreatDoor
namespace Go.Proofs.YtggimoedcamonaaGreatDoor
open Go Go.RowKit Go.Ev
set_option linter.unusedSimpArgs false
set_option linter.unusedVariables false
def p_Check_k12 (n : Nat)  (x3_k12 : Int) : Option Int :=
  if decide (200 < x3_k12) then
    some (3)
  else
    some (0)
def p_Check_l15 (n : Nat) (a0 : List Part) : Nat → Int → Int → Option Int
  | 0, _, _ => none
  | m + 1, x3_l15, x23_l15 =>
    if decide (x23_l15 < ((a0.length : Int))) then
      (idx a0 x23_l15).bind fun x21 =>
      (p_Part_valid_F x21).bind fun y24 =>
      if !y24 then
        some (3)
      else
        (p_Part_text_F x21).bind fun y27 =>
        if I64 (x3_l15 + ((y27.size : Int))) then
          if I64 (x23_l15 + 1) then
            (p_Check_l15 n a0 m) (x3_l15 + ((y27.size : Int))) (x23_l15 + 1)
          else none
        else none
    else
      p_Check_k12 n x3_l15
def p_Check_F (n : Nat) (a0 : List Part) : Option Int :=
  if (decide (((a0.length : Int)) < 1)) || (decide (16 < ((a0.length : Int)))) then
    some (3)
  else
    (idx a0 0).bind fun x7 =>
    if !(decide (x7.kind = 1)) then
      some (3)
    else
      p_Check_l15 n a0 n ((-1)) 0
set_option maxRecDepth 100000 in
set_option maxHeartbeats 4000000 in
theorem p_Check_at (w0 : World) (hP : Pow10 w0) (n : Nat) (B : List (List AV)) (Rw : List RowA) (L : List LoopA) (a0 : List Part) (r : Int) (h : p_Check_F n a0 = some r) :
    ACalls Tryz.prog w0 64 [.list (a0.map avPt) .none] ⟨B, Rw, L⟩ fun x st => x = .val (.int .i64 r) ∧ st = ⟨B, Rw, L⟩ := by
  rw [p_Check_F] at h
  refine ACalls.finP (acalls_of (rs := [.tmp 2]) Tryz.func64 rfl rfl Tryz.ntmps64 (enters_some Tryz.func64 rfl (by decide)) (Nat.le_of_ble_eq_true rfl) ?_)
  intro M0 W0 hN hNR hNL hcalm hu
  dsimp only at hN hNR hNL hcalm hu
  simp only [argsE]
  have hO := Owns.none Rw
  have hs := fact0
  refine rg [0] hs ?_
  apply awp_seq; intro K2 hK2
  apply awp_seq; intro K3 hK3
  rcases Bool.eq_false_or_eq_true ((decide (((a0.length : Int)) < 1)) || (decide (16 < ((a0.length : Int))))) with hf4 | hf4
  · replace h := ite_tt h hf4
    apply awp_region 1 [0, 20]
    rw [evK_succ]; simp +decide only [go_sem, Nat.reduceAdd, hf4]
    (repeat' apply And.intro) <;> first | refine hK3 _ _ ?_ | exact cl
    clear hK3
    have hs := And.intro hf4 hs
    refine awp_cond true ev (ef hs) (fun hb5 => ?_) (fun hb5 => by cases hb5)
    refine rg [2] hs ?_
    exact rt h hs hcalm hO
  · replace h := ite_ff h hf4
    obtain ⟨x7, hx7, h⟩ := bind_some h
    obtain ⟨hx7a, hx7b, hx7c⟩ := idx_some hx7
    have hx7d := getD_map (f := avPt) hx7c
    have hx7e : (a0.map avPt).getD 0 .junk = _ := hx7d
    apply awp_region 1 [0, 20]
    rw [evK_succ]; simp +decide only [go_sem, Nat.reduceAdd, hf4, hx7d, hx7e]
    (repeat' apply And.intro) <;> first | refine hK3 _ _ ?_ | exact cl
    clear hK3
    have hs := And.intro hf4 hs
    have hs := And.intro hx7d hs
    have hs := And.intro hx7e hs
    refine cnd h hs (fun hs h => ?_) (fun hs h => ?_)
    · skip
      have hb8 := hs.1
      refine rg [2] hs ?_
      exact rt h hs hcalm hO
    have hb8 := hs.1
    refine sk [0] hs hK2 ?_
    clear hK2
    refine rg [0, 3] hs ?_
    refine awp_mid (fun e st => ∃ (x3_k12 : Int) (X_k12 : List (List AV)) (rows_k12 : List RowA), e = [(3, true, .val (.int .i64 x3_k12))] ∧ st = ⟨B ++ ([] ++ X_k12), rows_k12, L⟩ ∧ Owns Rw rows_k12 [] ∧ p_Check_k12 n x3_k12 = some r) ?_ ?_
    · intro K13 hK13
      refine rg [3, 21, 22, 23] hs ?_
      apply awp_block
      refine awp_loop (fun m e st => ∃ (x3_l15 : Int) (x23_l15 : Int) (X_l15 : List (List AV)) (rows_l15 : List RowA), e = [(3, true, .val (.int .i64 x3_l15)), (21, true, .list (a0.map avPt) .none), (22, true, .val (.int .i64 ((a0.length : Int)))), (23, true, .val (.int .i64 x23_l15))] ∧ st = ⟨B ++ ([] ++ X_l15), rows_l15, L⟩ ∧ Owns Rw rows_l15 [] ∧ p_Check_l15 n a0 m x3_l15 x23_l15 = some r) n ⟨((-1)), 0, ([]), Rw, ef hs, ef hs, hO, h⟩ ?_
      rintro m_l15 e st ⟨x3_l15, x23_l15, X_l15, rows_l15, rfl, rfl, hO, h⟩ KR_l15 hKR_l15
      cases m_l15 with
      | zero => cases h
      | succ m_l15 =>
      rw [p_Check_l15] at h
      refine td hN hNR hNL hcalm hO ?_
      refine rg [3, 21, 22, 23, 24] hs ?_
      apply awp_seq; intro K17 hK17
      refine cnd h hs (fun hs h => ?_) (fun hs h => ?_)
      rotate_left
      · skip
        have hb18 := hs.1
        refine sx [3] hs hK13 ?_
        exact ⟨x3_l15, ([]), rows_l15, ef hs, ef hs, hO, h⟩
      have hb18 := hs.1
      refine sk [3, 21, 22, 23] hs hK17 ?_
      clear hK17
      apply awp_seq; intro K19 hK19
      apply awp_block
      obtain ⟨x21, hx21, h⟩ := bind_some h
      obtain ⟨hx21a, hx21b, hx21c⟩ := idx_some hx21
      have hx21d := getD_map (f := avPt) hx21c
      have hs := And.intro hx21d hs
      refine rg [3, 5, 21, 22, 23] hs ?_
      apply awp_seq; intro K22 hK22
      obtain ⟨y24, hy24, h⟩ := bind_some h
      refine rc 2 [3, 5, 21, 22, 23, 29] hs ?_; intro K23 hK23
      refine callK_p _ (p_Part_valid_at w0 _ _ _ x21 _ hy24) (hv hs) ?_
      refine ne hs hK23 ?_
      clear hK23
      refine cnd h hs (fun hs h => ?_) (fun hs h => ?_)
      · skip
        have hb25 := hs.1
        refine rg [2] hs ?_
        exact rt h hs hcalm hO
      have hb25 := hs.1
      refine sk [3, 5, 21, 22, 23] hs hK22 ?_
      clear hK22
      obtain ⟨y27, hy27, h⟩ := bind_some h
      obtain ⟨hg28, h⟩ := guard_some h
      apply awp_region 2 [3, 21, 22, 23]
      rw [evK_succ]; simp +decide only [go_sem, Nat.reduceAdd, hf4, hx7d, hx7e, hb8, hb18, hx21d, hb25]
      (repeat' apply And.intro) <;> first | refine callK_p _ (p_Part_text_at w0 hP _ _ _ x21 _ hy27) (hv hs) ?_ | exact cl
      rw [evK_succ]; simp +decide only [go_sem, Nat.reduceAdd, hf4, hx7d, hx7e, hb8, hb18, hx21d, hb25]
      (repeat' apply And.intro) <;> first | refine hK19 _ _ ?_ | exact cl
      clear hK19
      obtain ⟨hg29, h⟩ := guard_some h
      apply awp_region 1 [3, 21, 22, 23]
      rw [evK_succ]; simp +decide only [go_sem, Nat.reduceAdd, hf4, hx7d, hx7e, hb8, hb18, hx21d, hb25]
      (repeat' apply And.intro) <;> first | refine hKR_l15 m_l15 _ _ (Nat.lt_succ_self m_l15) ⟨(x3_l15 + ((y27.size : Int))), (x23_l15 + 1), ([.val (.int .i64 x21.kind) :: (.val (.int .i64 x21.index) :: ([.val (.string x21.name)]))]), rows_l15, ef hs, ef hs, hO, h⟩ | exact cl
    · clear h; rintro e st ⟨x3_k12, X_k12, rows_k12, rfl, rfl, hO, h⟩
      rw [p_Check_k12] at h
      refine td hN hNR hNL hcalm hO ?_
      apply awp_seq; intro K30 hK30
      refine rg [37] hs ?_
      refine cnd h hs (fun hs h => ?_) (fun hs h => ?_)
      · skip
        refine rg [2] hs ?_
        exact rt h hs hcalm hO
      refine sk [] hs hK30 ?_
      clear hK30
      refine rg [2] hs ?_
      exact rt h hs hcalm hO
end Go.Proofs.YtggimoedcamonaaGreatDoor
namespace Go.Proofs.YtggimoedcamonaaGreatDoor
open Go Go.RowKit Go.Ev
set_option linter.unusedSimpArgs false
set_option linter.unusedVariables false
def s_step_F (n : Nat) (a0 : Ty) (a1 : Part) : Option (Ty × Bool × Int) :=
  (idx ([0, 9, 8, 8, 10]) a1.kind).bind fun x3 =>
  if !(decide (a0.kind = x3)) then
    some ((Ty.mk 0 0 0 0 ([]) ([]) ([]), false, 11))
  else
    if decide (a1.kind = 3) then
      (idx a0.elem 0).bind fun x13 =>
      some ((x13, decide (a0.min = 0), 0))
    else
      if decide (a1.kind = 2) then
        if decide (a0.max ≤ a1.index) then
          some ((Ty.mk 0 0 0 0 ([]) ([]) ([]), false, 2))
        else
          (idx a0.elem 0).bind fun x21 =>
          some ((x21, decide (a0.min ≤ a1.index), 0))
      else
        (s_Field_F n a0 a1.name).bind fun y23 =>
        if !y23.2 then
          some ((Ty.mk 0 0 0 0 ([]) ([]) ([]), false, 21))
        else
          if decide (a1.kind = 4) then
            some ((y23.1.2.2.2.1, decide (1 < ((a0.fields.length : Int))), 0))
          else
            some ((y23.1.2.2.2.1, decide (y23.1.2.2.1 = 2), 0))
set_option maxRecDepth 100000 in
set_option maxHeartbeats 4000000 in
theorem s_step_at (w0 : World) (n : Nat) (B : List (List AV)) (Rw : List RowA) (L : List LoopA) (a0 : Ty) (a1 : Part) (r : Ty × Bool × Int) (h : s_step_F n a0 a1 = some r) :
    ACalls Tryz.prog w0 65 [.agg (a0.cs), .agg (.val (.int .i64 a1.kind) :: (.val (.int .i64 a1.index) :: ([.val (.string a1.name)])))] ⟨B, Rw, L⟩ fun x st => x = .tup [.agg (r.1.cs), .val (.bool r.2.1), .val (.int .i64 r.2.2)] ∧ st = ⟨B, Rw, L⟩ := by
  rw [s_step_F] at h
  refine ACalls.finP (acalls_of (rs := [.cell 4 26, .tmp 5, .tmp 6]) Tryz.func65 rfl rfl Tryz.ntmps65 (enters_some Tryz.func65 rfl (by decide)) (Nat.le_of_ble_eq_true rfl) ?_)
  intro M0 W0 hN hNR hNL hcalm hu
  dsimp only at hN hNR hNL hcalm hu
  simp only [argsE]
  have hO := Owns.none Rw
  have hs := fact0
  refine rg [2, 3, 4] hs ?_
  apply awp_seq; intro K2 hK2
  obtain ⟨x3, hx3, h⟩ := bind_some h
  obtain ⟨hx3a, hx3b, hx3c⟩ := idx_some hx3
  have hx3d := getD_map (f := avI) hx3c
  simp only [List.map_cons, List.map_nil, avI_eq] at hx3d
  have hx3n : ([0, 9, 8, 8, 10]).length = 5 := rfl
  first | rw [hx3n] at hx3b | simp only [List.length_cons, List.length_nil, Nat.reduceAdd, Nat.zero_add] at hx3b
  apply awp_region 1 [2, 3, 4, 7]
  rw [evK_succ]; simp +decide only [go_sem, Nat.reduceAdd, hx3d, fillA, fillOk, placeT, List.getElem?_cons_zero, List.getElem?_cons_succ, List.nil_append, List.cons_append, Nat.mul_one]
  (repeat' apply And.intro) <;> first | refine hK2 _ _ ?_ | exact cl
  clear hK2
  apply awp_seq; intro K4 hK4
  have hs := And.intro hx3d hs
  refine rg [2, 3, 4, 17] hs ?_
  refine cnd h hs (fun hs h => ?_) (fun hs h => ?_)
  · skip
    have hb6 := hs.1
    apply awp_seq; intro K7 hK7
    apply awp_region 1 [4, 5, 6]
    rw [evK_succ]; simp +decide only [go_sem, Nat.reduceAdd, hx3d, hb6, fillA, fillOk, placeT]
    (repeat' apply And.intro) <;> first | refine hK7 _ _ ?_ | exact cl
    clear hK7
    exact rt h hs hcalm hO
  have hb6 := hs.1
  refine sk [2, 3, 4] hs hK4 ?_
  clear hK4
  apply awp_seq; intro K8 hK8
  refine rg [2, 3, 4, 20] hs ?_
  apply awp_block
  refine rg [2, 3, 4, 20, 21] hs ?_
  refine cnd h hs (fun hs h => ?_) (fun hs h => ?_)
  · skip
    have hb11 := hs.1
    apply awp_seq; intro K12 hK12
    obtain ⟨x13, hx13, h⟩ := bind_some h
    obtain ⟨hx13a, hx13b, hx13c⟩ := idx_some hx13
    have hx13d := getD_map (f := avT) hx13c
    have hx13e : (a0.elem.map avT).getD 0 .junk = _ := hx13d
    apply awp_any mix [7] [4, 5, 6] (by kernel_rfl) (fun s => ∃ (X : List (List AV)) (rows : List RowA) (c2 : List AV), s = ⟨B ++ ([a0.cs, .val (.int .i64 a1.kind) :: (.val (.int .i64 a1.index) :: ([.val (.string a1.name)])), c2] ++ X), rows, L⟩) 2 (B.length + 3)
    · simp +decide only [go_sem, Nat.reduceAdd]
    · rintro s ⟨X, rows, c2, rfl⟩
      refine ⟨1, ?_⟩
      rw [evK_succ]; simp +decide only [go_sem, Nat.reduceAdd, skipE, hx3d, hb6, hb11, hx13d, hx13e]
      (repeat' apply And.intro) <;> first | rfl | exact cl
    · skip
      refine Good.mk [7] (by kernel_rfl) ⟨[], _, _, by first | rfl | simp only [List.append_nil, List.nil_append]⟩ ?_ ?_
      · intro h; exact absurd h (by decide)
      · intro i hi; simp only [List.mem_cons, List.not_mem_nil, or_false] at hi
        subst hi
        · apply good_step rfl rfl ev
          · simp +decide only [go_sem, Nat.reduceAdd, StepOk, hx3d, hb6, hb11, hx13d, hx13e]
            (repeat' apply And.intro) <;> first | rfl | exact cl
          · simp +decide only [go_sem, Nat.reduceAdd, hx3d, hb6, hb11, hx13d, hx13e]
            refine Good.mk [] (by kernel_rfl) ⟨[], _, _, by first | rfl | simp only [List.append_nil, List.nil_append]⟩ ?_ ?_
            · intro _; apply conv_keep [4, 5, 6]; first | (simp +decide only [go_sem, Nat.reduceAdd, hx3d, hb6, hb11, hx13d, hx13e]; done) | (simp +decide only [go_sem, Nat.reduceAdd, hx3d, hb6, hb11, hx13d, hx13e]; rfl)
            · intro i hi; cases hi
    simp +decide only [go_sem, Nat.reduceAdd, hx3d, hb6, hb11, hx13d, hx13e]
    (repeat' apply And.intro) <;> first | refine hK12 _ _ ?_ | exact cl
    clear hK12
    have hs := And.intro hx13d hs
    have hs := And.intro hx13e hs
    exact rt h hs hcalm hO
  have hb11 := hs.1
  refine rg [2, 3, 4, 30] hs ?_
  refine cnd h hs (fun hs h => ?_) (fun hs h => ?_)
  · skip
    have hb15 := hs.1
    apply awp_seq; intro K16 hK16
    refine rg [2, 3, 4, 36] hs ?_
    refine cnd h hs (fun hs h => ?_) (fun hs h => ?_)
    · skip
      have hb18 := hs.1
      apply awp_seq; intro K19 hK19
      apply awp_region 1 [4, 5, 6]
      rw [evK_succ]; simp +decide only [go_sem, Nat.reduceAdd, hx3d, hb6, hb11, hb15, hb18, fillA, fillOk, placeT]
      (repeat' apply And.intro) <;> first | refine hK19 _ _ ?_ | exact cl
      clear hK19
      exact rt h hs hcalm hO
    have hb18 := hs.1
    refine sk [2, 3, 4] hs hK16 ?_
    clear hK16
    apply awp_seq; intro K20 hK20
    obtain ⟨x21, hx21, h⟩ := bind_some h
    obtain ⟨hx21a, hx21b, hx21c⟩ := idx_some hx21
    have hx21d := getD_map (f := avT) hx21c
    have hx21e : (a0.elem.map avT).getD 0 .junk = _ := hx21d
    apply awp_any mix [9] [4, 5, 6] (by kernel_rfl) (fun s => ∃ (X : List (List AV)) (rows : List RowA) (c2 : List AV), s = ⟨B ++ ([a0.cs, .val (.int .i64 a1.kind) :: (.val (.int .i64 a1.index) :: ([.val (.string a1.name)])), c2] ++ X), rows, L⟩) 2 (B.length + 3)
    · simp +decide only [go_sem, Nat.reduceAdd]
    · rintro s ⟨X, rows, c2, rfl⟩
      refine ⟨1, ?_⟩
      rw [evK_succ]; simp +decide only [go_sem, Nat.reduceAdd, skipE, hx3d, hb6, hb11, hb15, hb18, hx21d, hx21e]
      (repeat' apply And.intro) <;> first | rfl | exact cl
    · skip
      refine Good.mk [9] (by kernel_rfl) ⟨[], _, _, by first | rfl | simp only [List.append_nil, List.nil_append]⟩ ?_ ?_
      · intro h; exact absurd h (by decide)
      · intro i hi; simp only [List.mem_cons, List.not_mem_nil, or_false] at hi
        subst hi
        · apply good_step rfl rfl ev
          · simp +decide only [go_sem, Nat.reduceAdd, StepOk, hx3d, hb6, hb11, hb15, hb18, hx21d, hx21e]
            (repeat' apply And.intro) <;> first | rfl | exact cl
          · simp +decide only [go_sem, Nat.reduceAdd, hx3d, hb6, hb11, hb15, hb18, hx21d, hx21e]
            refine Good.mk [] (by kernel_rfl) ⟨[], _, _, by first | rfl | simp only [List.append_nil, List.nil_append]⟩ ?_ ?_
            · intro _; apply conv_keep [4, 5, 6]; first | (simp +decide only [go_sem, Nat.reduceAdd, hx3d, hb6, hb11, hb15, hb18, hx21d, hx21e]; done) | (simp +decide only [go_sem, Nat.reduceAdd, hx3d, hb6, hb11, hb15, hb18, hx21d, hx21e]; rfl)
            · intro i hi; cases hi
    simp +decide only [go_sem, Nat.reduceAdd, hx3d, hb6, hb11, hb15, hb18, hx21d, hx21e]
    (repeat' apply And.intro) <;> first | refine hK20 _ _ ?_ | exact cl
    clear hK20
    have hs := And.intro hx21d hs
    have hs := And.intro hx21e hs
    exact rt h hs hcalm hO
  have hb15 := hs.1
  refine sk [2, 3, 4] hs hK8 ?_
  clear hK8
  obtain ⟨y23, hy23, h⟩ := bind_some h
  refine rc 2 [2, 3, 4, 8, 9] hs ?_; intro K22 hK22
  refine callK_p _ (s_Field_at w0 n _ _ _ a0 a1.name _ hy23) (hv hs) ?_
  refine ne hs hK22 ?_
  clear hK22
  apply awp_seq; intro K24 hK24
  refine rg [2, 3, 4, 8, 55] hs ?_
  refine cnd h hs (fun hs h => ?_) (fun hs h => ?_)
  · skip
    have hb26 := hs.1
    apply awp_seq; intro K27 hK27
    apply awp_region 1 [4, 5, 6]
    rw [evK_succ]; simp +decide only [go_sem, Nat.reduceAdd, hx3d, hb6, hb11, hb15, hb26, fillA, fillOk, placeT]
    (repeat' apply And.intro) <;> first | refine hK27 _ _ ?_ | exact cl
    clear hK27
    exact rt h hs hcalm hO
  have hb26 := hs.1
  refine sk [2, 3, 4, 8] hs hK24 ?_
  clear hK24
  apply awp_seq; intro K28 hK28
  refine rg [2, 4, 8, 59] hs ?_
  refine cnd h hs (fun hs h => ?_) (fun hs h => ?_)
  · skip
    have hb30 := hs.1
    apply awp_seq; intro K31 hK31
    apply awp_any mix [6] [4, 5, 6] (by kernel_rfl) (fun s => ∃ (X : List (List AV)) (rows : List RowA) (c2 : List AV), s = ⟨B ++ ([a0.cs, .val (.int .i64 a1.kind) :: (.val (.int .i64 a1.index) :: ([.val (.string a1.name)])), c2, .val (.int .i64 y23.1.1) :: (.val (.string y23.1.2.1) :: (.val (.int .i64 y23.1.2.2.1) :: ((y23.1.2.2.2.1.cs) ++ ([.list (y23.1.2.2.2.2.map avV) .none]))))] ++ X), rows, L⟩) 2 (B.length + 4)
    · simp +decide only [go_sem, Nat.reduceAdd]
    · rintro s ⟨X, rows, c2, rfl⟩
      refine ⟨1, ?_⟩
      rw [evK_succ]; simp +decide only [go_sem, Nat.reduceAdd, skipE, hx3d, hb6, hb11, hb15, hb26, hb30]
      (repeat' apply And.intro) <;> first | rfl | exact cl
    · skip
      refine Good.mk [6] (by kernel_rfl) ⟨[], _, _, by first | rfl | simp only [List.append_nil, List.nil_append]⟩ ?_ ?_
      · intro h; exact absurd h (by decide)
      · intro i hi; simp only [List.mem_cons, List.not_mem_nil, or_false] at hi
        subst hi
        · apply good_step rfl rfl ev
          · simp +decide only [go_sem, Nat.reduceAdd, StepOk, hx3d, hb6, hb11, hb15, hb26, hb30]
            (repeat' apply And.intro) <;> first | rfl | exact cl
          · simp +decide only [go_sem, Nat.reduceAdd, hx3d, hb6, hb11, hb15, hb26, hb30]
            refine Good.mk [] (by kernel_rfl) ⟨[], _, _, by first | rfl | simp only [List.append_nil, List.nil_append]⟩ ?_ ?_
            · intro _; apply conv_keep [4, 5, 6]; first | (simp +decide only [go_sem, Nat.reduceAdd, hx3d, hb6, hb11, hb15, hb26, hb30]; done) | (simp +decide only [go_sem, Nat.reduceAdd, hx3d, hb6, hb11, hb15, hb26, hb30]; rfl)
            · intro i hi; cases hi
    simp +decide only [go_sem, Nat.reduceAdd, hx3d, hb6, hb11, hb15, hb26, hb30]
    (repeat' apply And.intro) <;> first | refine hK31 _ _ ?_ | exact cl
    clear hK31
    exact rt h hs hcalm hO
  have hb30 := hs.1
  refine sk [4, 8] hs hK28 ?_
  clear hK28
  apply awp_seq; intro K32 hK32
  apply awp_any mix [5] [4, 5, 6] (by kernel_rfl) (fun s => ∃ (X : List (List AV)) (rows : List RowA) (c2 : List AV), s = ⟨B ++ ([a0.cs, .val (.int .i64 a1.kind) :: (.val (.int .i64 a1.index) :: ([.val (.string a1.name)])), c2, .val (.int .i64 y23.1.1) :: (.val (.string y23.1.2.1) :: (.val (.int .i64 y23.1.2.2.1) :: ((y23.1.2.2.2.1.cs) ++ ([.list (y23.1.2.2.2.2.map avV) .none]))))] ++ X), rows, L⟩) 2 (B.length + 4)
  · simp +decide only [go_sem, Nat.reduceAdd]
  · rintro s ⟨X, rows, c2, rfl⟩
    refine ⟨1, ?_⟩
    rw [evK_succ]; simp +decide only [go_sem, Nat.reduceAdd, skipE, hx3d, hb6, hb11, hb15, hb26, hb30]
    (repeat' apply And.intro) <;> first | rfl | exact cl
  · skip
    refine Good.mk [5] (by kernel_rfl) ⟨[], _, _, by first | rfl | simp only [List.append_nil, List.nil_append]⟩ ?_ ?_
    · intro h; exact absurd h (by decide)
    · intro i hi; simp only [List.mem_cons, List.not_mem_nil, or_false] at hi
      subst hi
      · apply good_step rfl rfl ev
        · simp +decide only [go_sem, Nat.reduceAdd, StepOk, hx3d, hb6, hb11, hb15, hb26, hb30]
          (repeat' apply And.intro) <;> first | rfl | exact cl
        · simp +decide only [go_sem, Nat.reduceAdd, hx3d, hb6, hb11, hb15, hb26, hb30]
          refine Good.mk [] (by kernel_rfl) ⟨[], _, _, by first | rfl | simp only [List.append_nil, List.nil_append]⟩ ?_ ?_
          · intro _; apply conv_keep [4, 5, 6]; first | (simp +decide only [go_sem, Nat.reduceAdd, hx3d, hb6, hb11, hb15, hb26, hb30]; done) | (simp +decide only [go_sem, Nat.reduceAdd, hx3d, hb6, hb11, hb15, hb26, hb30]; rfl)
          · intro i hi; cases hi
  simp +decide only [go_sem, Nat.reduceAdd, hx3d, hb6, hb11, hb15, hb26, hb30]
  (repeat' apply And.intro) <;> first | refine hK32 _ _ ?_ | exact cl
  clear hK32
  exact rt h hs hcalm hO
end Go.Proofs.YtggimoedcamonaaGreatDoor
namespace Go.Proofs.YtggimoedcamonaaGreatDoor
open Go Go.RowKit Go.Ev
set_option linter.unusedSimpArgs false
set_option linter.unusedVariables false
def s_At_k16 (n : Nat)  (x5_k16 : Bool) (b1_k16 : Ty) : Option (Ty × Bool × Int) :=
  (s_Clone_F n b1_k16).bind fun y34 =>
  some ((y34, x5_k16, 0))
def s_At_l19 (n : Nat) (a1 : List Part) : Nat → Bool → Int → Ty → Option (Ty × Bool × Int)
  | 0, _, _, _ => none
  | m + 1, x5_l19, x29_l19, b1_l19 =>
    if decide (x29_l19 < ((a1.length : Int))) then
      (idx a1 x29_l19).bind fun x25 =>
      (s_step_F n b1_l19 x25).bind fun y27 =>
      if !(decide (y27.2.2 = 0)) then
        some ((Ty.mk 0 0 0 0 ([]) ([]) ([]), false, y27.2.2))
      else
        if I64 (x29_l19 + 1) then
          (s_At_l19 n a1 m) (x5_l19 || y27.2.1) (x29_l19 + 1) y27.1
        else none
    else
      s_At_k16 n x5_l19 b1_l19
def s_At_F (n : Nat) (a0 : Ty) (a1 : List Part) : Option (Ty × Bool × Int) :=
  (s_Check_F n a0).bind fun y4 =>
  if !(decide (y4 = 0)) then
    some ((Ty.mk 0 0 0 0 ([]) ([]) ([]), false, y4))
  else
    (p_Check_F n a1).bind fun y10 =>
    if !(decide (y10 = 0)) then
      some ((Ty.mk 0 0 0 0 ([]) ([]) ([]), false, y10))
    else
      s_At_l19 n a1 n false 0 a0
set_option maxRecDepth 100000 in
set_option maxHeartbeats 4000000 in
theorem s_At_at (w0 : World) (hP : Pow10 w0) (hT : Lib.Utf8Tabs 0 1 w0) (n : Nat) (B : List (List AV)) (Rw : List RowA) (L : List LoopA) (a0 : Ty) (a1 : List Part) (r : Ty × Bool × Int) (h : s_At_F n a0 a1 = some r) :
    ACalls Tryz.prog w0 26 [.agg (a0.cs), .list (a1.map avPt) .none] ⟨B, Rw, L⟩ fun x st => x = .tup [.agg (r.1.cs), .val (.bool r.2.1), .val (.int .i64 r.2.2)] ∧ st = ⟨B, Rw, L⟩ := by
  rw [s_At_F] at h
  refine ACalls.finP (acalls_of (rs := [.cell 4 26, .tmp 5, .tmp 6]) Tryz.func26 rfl rfl Tryz.ntmps26 (enters_some Tryz.func26 rfl (by decide)) (Nat.le_of_ble_eq_true rfl) ?_)
  intro M0 W0 hN hNR hNL hcalm hu
  dsimp only at hN hNR hNL hcalm hu
  simp only [argsE]
  have hO := Owns.none Rw
  have hs := fact0
  refine rg [1, 2, 4, 5] hs ?_
  apply awp_seq; intro K2 hK2
  obtain ⟨y4, hy4, h⟩ := bind_some h
  refine rc 2 [1, 2, 4, 5, 7] hs ?_; intro K3 hK3
  refine callK_p _ (s_Check_at w0 hT n _ _ _ a0 _ hy4) (hv hs) ?_
  refine ne hs hK3 ?_
  clear hK3
  refine rg [1, 2, 4, 5, 7, 17] hs ?_
  refine cnd h hs (fun hs h => ?_) (fun hs h => ?_)
  · skip
    have hb6 := hs.1
    apply awp_seq; intro K7 hK7
    apply awp_region 1 [4, 5, 6]
    rw [evK_succ]; simp +decide only [go_sem, Nat.reduceAdd, hb6, fillA, fillOk, placeT]
    (repeat' apply And.intro) <;> first | refine hK7 _ _ ?_ | exact cl
    clear hK7
    exact rt h hs hcalm hO
  have hb6 := hs.1
  refine sk [1, 2, 4, 5] hs hK2 ?_
  clear hK2
  apply awp_seq; intro K8 hK8
  obtain ⟨y10, hy10, h⟩ := bind_some h
  refine rc 2 [1, 2, 4, 5, 8] hs ?_; intro K9 hK9
  refine callK_p _ (p_Check_at w0 hP n _ _ _ a1 _ hy10) (hv hs) ?_
  refine ne hs hK9 ?_
  clear hK9
  refine rg [1, 2, 4, 5, 8, 23] hs ?_
  refine cnd h hs (fun hs h => ?_) (fun hs h => ?_)
  · skip
    have hb12 := hs.1
    apply awp_seq; intro K13 hK13
    apply awp_region 1 [4, 5, 6]
    rw [evK_succ]; simp +decide only [go_sem, Nat.reduceAdd, hb6, hb12, fillA, fillOk, placeT]
    (repeat' apply And.intro) <;> first | refine hK13 _ _ ?_ | exact cl
    clear hK13
    exact rt h hs hcalm hO
  have hb12 := hs.1
  refine sk [1, 2, 4, 5] hs hK8 ?_
  clear hK8
  refine rg [1, 4, 5] hs ?_
  refine awp_mid (fun e st => ∃ (x5_k16 : Bool) (b1_k16 : Ty) (cb1_k16 : List AV) (X_k16 : List (List AV)) (rows_k16 : List RowA), e = [(4, true, .box (B.length + 1) 0), (5, true, .val (.bool x5_k16))] ∧ st = ⟨B ++ ([a0.cs, cb1_k16] ++ X_k16), rows_k16, L⟩ ∧ Owns Rw rows_k16 [] ∧ cb1_k16.map AV.pubCell = b1_k16.cs ∧ s_At_k16 n x5_k16 b1_k16 = some r) ?_ ?_
  · intro K17 hK17
    refine rg [4, 5, 27, 28, 29] hs ?_
    apply awp_block
    refine awp_loop (fun m e st => ∃ (x5_l19 : Bool) (x29_l19 : Int) (b1_l19 : Ty) (cb1_l19 : List AV) (X_l19 : List (List AV)) (rows_l19 : List RowA), e = [(4, true, .box (B.length + 1) 0), (5, true, .val (.bool x5_l19)), (27, true, .list (a1.map avPt) .none), (28, true, .val (.int .i64 ((a1.length : Int)))), (29, true, .val (.int .i64 x29_l19))] ∧ st = ⟨B ++ ([a0.cs, cb1_l19] ++ X_l19), rows_l19, L⟩ ∧ Owns Rw rows_l19 [] ∧ cb1_l19.map AV.pubCell = b1_l19.cs ∧ s_At_l19 n a1 m x5_l19 x29_l19 b1_l19 = some r) n ⟨false, 0, a0, _, ([]), Rw, ef hs, ef hs, hO, ef hs, h⟩ ?_
    rintro m_l19 e st ⟨x5_l19, x29_l19, b1_l19, cb1_l19, X_l19, rows_l19, rfl, rfl, hO, hr0, h⟩ KR_l19 hKR_l19
    cases m_l19 with
    | zero => cases h
    | succ m_l19 =>
    rw [s_At_l19] at h
    refine awp_pub_cells (B.length + 1) (by first | rfl | (simp only [box_own, box_own0, box_sown, box_sown0]; rfl)) hr0 ?_; simp +decide only [go_sem, Nat.reduceAdd]
    show awp _ _ _ _ _ _ _ _ [(4, true, .box (B.length + 1) 0), (5, true, .val (.bool x5_l19)), (27, true, .list (a1.map avPt) .none), (28, true, .val (.int .i64 ((a1.length : Int)))), (29, true, .val (.int .i64 x29_l19))] ⟨B ++ ([a0.cs, b1_l19.cs] ++ X_l19), rows_l19, L⟩
    refine td hN hNR hNL hcalm hO ?_
    refine rg [4, 5, 27, 28, 29, 30] hs ?_
    apply awp_seq; intro K21 hK21
    refine cnd h hs (fun hs h => ?_) (fun hs h => ?_)
    rotate_left
    · skip
      have hb22 := hs.1
      refine sx [4, 5] hs hK17 ?_
      exact ⟨x5_l19, b1_l19, _, ([]), rows_l19, ef hs, ef hs, hO, ef hs, h⟩
    have hb22 := hs.1
    refine sk [4, 5, 27, 28, 29] hs hK21 ?_
    clear hK21
    apply awp_seq; intro K23 hK23
    apply awp_block
    obtain ⟨x25, hx25, h⟩ := bind_some h
    obtain ⟨hx25a, hx25b, hx25c⟩ := idx_some hx25
    have hx25d := getD_map (f := avPt) hx25c
    have hs := And.intro hx25d hs
    refine rg [4, 5, 10, 27, 28, 29] hs ?_
    obtain ⟨y27, hy27, h⟩ := bind_some h
    refine rc 2 [4, 5, 11, 12, 13, 27, 28, 29] hs ?_; intro K26 hK26
    refine callK_p _ (s_step_at w0 n _ _ _ b1_l19 x25 _ hy27) (hv hs) ?_
    refine ne hs hK26 ?_
    clear hK26
    apply awp_seq; intro K28 hK28
    refine rg [4, 5, 11, 12, 13, 27, 28, 29, 41] hs ?_
    refine cnd h hs (fun hs h => ?_) (fun hs h => ?_)
    · skip
      have hb30 := hs.1
      apply awp_seq; intro K31 hK31
      apply awp_region 1 [4, 5, 6]
      rw [evK_succ]; simp +decide only [go_sem, Nat.reduceAdd, hb6, hb12, hb22, hx25d, hb30, fillA, fillOk, placeT]
      (repeat' apply And.intro) <;> first | refine hK31 _ _ ?_ | exact cl
      clear hK31
      exact rt h hs hcalm hO
    have hb30 := hs.1
    refine sk [4, 5, 11, 12, 27, 28, 29] hs hK28 ?_
    clear hK28
    apply awp_region 1 [4, 5, 27, 28, 29]
    rw [evK_succ]; simp +decide only [go_sem, Nat.reduceAdd, hb6, hb12, hb22, hx25d, hb30]
    (repeat' apply And.intro) <;> first | refine hK23 _ _ ?_ | exact cl
    clear hK23
    obtain ⟨hg32, h⟩ := guard_some h
    apply awp_region 1 [4, 5, 27, 28, 29]
    rw [evK_succ]; simp +decide only [go_sem, Nat.reduceAdd, hb6, hb12, hb22, hx25d, hb30]
    (repeat' apply And.intro) <;> first | refine hKR_l19 m_l19 _ _ (Nat.lt_succ_self m_l19) ⟨(x5_l19 || y27.2.1), (x29_l19 + 1), y27.1, _, ([.val (.int .i64 x25.kind) :: (.val (.int .i64 x25.index) :: ([.val (.string x25.name)])), y27.1.cs]), rows_l19, ef hs, ef hs, hO, ef hs, h⟩ | exact cl
  · clear h; rintro e st ⟨x5_k16, b1_k16, cb1_k16, X_k16, rows_k16, rfl, rfl, hO, hr0, h⟩
    rw [s_At_k16] at h
    refine awp_pub_cells (B.length + 1) (by first | rfl | (simp only [box_own, box_own0, box_sown, box_sown0]; rfl)) hr0 ?_; simp +decide only [go_sem, Nat.reduceAdd]
    show awp _ _ _ _ _ _ _ _ [(4, true, .box (B.length + 1) 0), (5, true, .val (.bool x5_k16))] ⟨B ++ ([a0.cs, b1_k16.cs] ++ X_k16), rows_k16, L⟩
    refine td hN hNR hNL hcalm hO ?_
    obtain ⟨y34, hy34, h⟩ := bind_some h
    refine rc 2 [4, 5, 6] hs ?_; intro K33 hK33
    refine callK_p _ (s_Clone_at w0 n _ _ _ b1_k16 _ hy34) (hv hs) ?_
    refine ne hs hK33 ?_
    clear hK33
    exact rt h hs hcalm hO
end Go.Proofs.YtggimoedcamonaaGreatDoor
namespace Go.Proofs.YtggimoedcamonaaGreatDoor
open Go Go.RowKit Go.Ev
set_option linter.unusedSimpArgs false
set_option linter.unusedVariables false
def v_Bytes_F (a0 : ByteArray) : Vl :=
  Vl.mk 5 0 0 a0 ([]) ([])
set_option maxRecDepth 100000 in
set_option maxHeartbeats 4000000 in
theorem v_Bytes_at (w0 : World) (B : List (List AV)) (Rw : List RowA) (L : List LoopA) (a0 : ByteArray) (r : Vl) (h : v_Bytes_F a0 = r) :
    ACalls Tryz.prog w0 107 [.val (.string a0)] ⟨B, Rw, L⟩ fun x st => x = .agg (r.cs) ∧ st = ⟨B, Rw, L⟩ := by
  rw [v_Bytes_F] at h
  refine ACalls.finP (acalls_of (rs := [.cell 2 34]) Tryz.func107 rfl rfl Tryz.ntmps107 (enters_some Tryz.func107 rfl (by decide)) (Nat.le_of_ble_eq_true rfl) ?_)
  intro M0 W0 hN hNR hNL hcalm hu
  dsimp only at hN hNR hNL hcalm hu
  simp only [argsE]
  have hO := Owns.none Rw
  have hs := fact0
  refine rg [0, 2] hs ?_
  apply awp_seq; intro K2 hK2
  apply awp_region 1 [2]
  rw [evK_succ]; simp +decide only [go_sem, Nat.reduceAdd, fillA, fillOk, placeT]
  (repeat' apply And.intro) <;> first | refine hK2 _ _ ?_ | exact cl
  clear hK2
  apply awp_ret; simp +decide only [go_sem, Nat.reduceAdd]
  subst h
  first | refine fin_q0 hcalm rfl hO.pre ev ⟨?_, rfl⟩ | refine fin_q hcalm rfl hO.pre ev ⟨?_, rfl⟩
  first | rfl | (simp +decide only [go_sem, Nat.reduceAdd]; done) | (simp +decide only [go_sem, Nat.reduceAdd, Vl.cs, Ty.cs]; done)
theorem v_Bytes_at' (w0 : World) (B : List (List AV)) (Rw : List RowA) (L : List LoopA) (a0 : ByteArray) :
    ACalls Tryz.prog w0 107 [.val (.string a0)] ⟨B, Rw, L⟩ fun x st => x = .agg ((v_Bytes_F a0).cs) ∧ st = ⟨B, Rw, L⟩ := v_Bytes_at w0 B Rw L a0 _ rfl
end Go.Proofs.YtggimoedcamonaaGreatDoor
namespace Go.Proofs.YtggimoedcamonaaGreatDoor
open Go Go.RowKit Go.Ev
set_option linter.unusedSimpArgs false
set_option linter.unusedVariables false
def v_List_F (n : Nat) (a0 : List Vl) : Option Vl :=
  (v_Clone_F n (Vl.mk 8 0 0 ((⟨#[]⟩ : ByteArray)) a0 ([]))).bind fun y3 =>
  some (y3)
set_option maxRecDepth 100000 in
set_option maxHeartbeats 4000000 in
theorem v_List_at (w0 : World) (n : Nat) (B : List (List AV)) (Rw : List RowA) (L : List LoopA) (a0 : List Vl) (r : Vl) (h : v_List_F n a0 = some r) :
    ACalls Tryz.prog w0 108 [.list (a0.map avV) .none] ⟨B, Rw, L⟩ fun x st => x = .agg (r.cs) ∧ st = ⟨B, Rw, L⟩ := by
  rw [v_List_F] at h
  refine ACalls.finP (acalls_of (rs := [.cell 2 34]) Tryz.func108 rfl rfl Tryz.ntmps108 (enters_some Tryz.func108 rfl (by decide)) (Nat.le_of_ble_eq_true rfl) ?_)
  intro M0 W0 hN hNR hNL hcalm hu
  dsimp only at hN hNR hNL hcalm hu
  simp only [argsE]
  have hO := Owns.none Rw
  have hs := fact0
  refine rg [0, 2] hs ?_
  apply awp_seq; intro K2 hK2
  obtain ⟨y3, hy3, h⟩ := bind_some h
  apply awp_region 2 [2]
  rw [evK_succ]; simp +decide only [go_sem, Nat.reduceAdd, fillA, fillOk, placeT]
  (repeat' apply And.intro) <;> first | refine callK_p _ (v_Clone_at w0 n _ _ _ (Vl.mk 8 0 0 ((⟨#[]⟩ : ByteArray)) a0 ([])) _ hy3) (by first | rfl | (simp +decide only [go_sem, Nat.reduceAdd, fillA, fillOk, placeT]; done) | (simp +decide only [go_sem, Nat.reduceAdd, Vl.cs, Ty.cs, fillA, fillOk, placeT]; done)) ?_ | exact cl
  rw [evK_succ]; simp +decide only [go_sem, Nat.reduceAdd, fillA, fillOk, placeT]
  (repeat' apply And.intro) <;> first | refine hK2 _ _ ?_ | exact cl
  clear hK2
  exact rt h hs hcalm hO
end Go.Proofs.YtggimoedcamonaaGreatDoor
namespace Go.Proofs.YtggimoedcamonaaGreatDoor
open Go Go.RowKit Go.Ev
set_option linter.unusedSimpArgs false
set_option linter.unusedVariables false
def sl_ContainsFunc_Field_F (n : Nat) (a0 : List (ByteArray × Vl)) (a1 : (ByteArray × Vl) → Option Bool) : Option Bool :=
  (sl_IndexFunc_Field_F n a0 a1).bind fun y3 =>
  some (decide (0 ≤ y3))
set_option maxRecDepth 100000 in
set_option maxHeartbeats 4000000 in
theorem sl_ContainsFunc_Field_at (w0 : World) (n : Nat) (B : List (List AV)) (Rw : List RowA) (L : List LoopA) (a0 : List (ByteArray × Vl)) (fa1 : FuncId) (ca1 : List AV) (a1 : (ByteArray × Vl) → Option Bool) (ha1 : ∀ (x0 : ByteArray × Vl) r, a1 x0 = some r → ∀ B' rows, B <+: B' → Rw <+: rows → ACalls Tryz.prog w0 fa1 ([.agg (.val (.string x0.1) :: (x0.2.cs))] ++ ca1) ⟨B', rows, L⟩ fun v s => v = .val (.bool r) ∧ s = ⟨B', rows, L⟩) (r : Bool) (h : sl_ContainsFunc_Field_F n a0 a1 = some r) :
    ACalls Tryz.prog w0 166 [.list (a0.map avF) .none, .clo fa1 ca1] ⟨B, Rw, L⟩ fun x st => x = .val (.bool r) ∧ st = ⟨B, Rw, L⟩ := by
  rw [sl_ContainsFunc_Field_F] at h
  refine ACalls.finP (acalls_of (rs := [.tmp 4]) Tryz.func166 rfl rfl Tryz.ntmps166 (enters_some Tryz.func166 rfl (by decide)) (Nat.le_of_ble_eq_true rfl) ?_)
  intro M0 W0 hN hNR hNL hcalm hu
  dsimp only at hN hNR hNL hcalm hu
  simp only [argsE]
  have hO := Owns.none Rw
  have hs := fact0
  have hU_a1 := under_caps (hu (.clo fa1 ca1) (by simp))
  refine rg [0, 1] hs ?_
  obtain ⟨y3, hy3, h⟩ := bind_some h
  refine rc 2 [4] hs ?_; intro K2 hK2
  refine callK_p _ (sl_IndexFunc_Field_at w0 n _ _ _ a0 fa1 ca1 a1 (fun x0 r hx B'' rows'' q1 q2 => ha1 x0 r hx B'' rows'' (List.IsPrefix.trans (by first | exact List.prefix_append _ _ | exact List.prefix_refl _) q1) (hO.pre.trans q2)) _ hy3) (hv hs) ?_
  refine ne hs hK2 ?_
  clear hK2
  exact rt h hs hcalm hO
end Go.Proofs.YtggimoedcamonaaGreatDoor
namespace Go.Proofs.YtggimoedcamonaaGreatDoor
open Go Go.RowKit Go.Ev
set_option linter.unusedSimpArgs false
set_option linter.unusedVariables false
def v_Record_1_F (a0 : ByteArray × Vl) (a1 : ByteArray × Vl) : Bool :=
  (sEq a0.1 a1.1) && (!(v_IsNull_F a0.2))
set_option maxRecDepth 100000 in
set_option maxHeartbeats 4000000 in
theorem v_Record_1_at (w0 : World) (B : List (List AV)) (Rw : List RowA) (L : List LoopA) (a0 : ByteArray × Vl) (la1 : Nat) (a1 : ByteArray × Vl) (hla1 : B[la1]? = some (.val (.string a1.1) :: (a1.2.cs))) (r : Bool) (h : v_Record_1_F a0 a1 = r) :
    ACalls Tryz.prog w0 167 [.agg (.val (.string a0.1) :: (a0.2.cs)), .box la1 0] ⟨B, Rw, L⟩ fun x st => x = .val (.bool r) ∧ st = ⟨B, Rw, L⟩ := by
  rw [v_Record_1_F] at h
  refine ACalls.finP (acalls_of (rs := [.tmp 3]) Tryz.func167 rfl rfl Tryz.ntmps167 (enters_some Tryz.func167 rfl (by decide)) (Nat.le_of_ble_eq_true rfl) ?_)
  intro M0 W0 hN hNR hNL hcalm hu
  dsimp only at hN hNR hNL hcalm hu
  simp only [argsE]
  have hO := Owns.none Rw
  have hs := fact0
  have hltla1 := (List.getElem?_eq_some_iff.1 hla1).1
  have hs := And.intro (ptr_of hla1) hs
  refine rg [1, 2] hs ?_
  refine rc 2 [3] hs ?_; intro K2 hK2
  refine callK_p_if _ (fun _ => v_IsNull_at' w0 _ _ _ a0.2) (hv hs) ?_
  refine ne hs hK2 ?_
  clear hK2
  apply awp_ret; simp +decide only [go_sem, Nat.reduceAdd, ptr_of hla1]
  subst h
  first | refine fin_q0 hcalm rfl hO.pre ev ⟨?_, rfl⟩ | refine fin_q hcalm rfl hO.pre ev ⟨?_, rfl⟩
  first | rfl | (simp +decide only [go_sem, Nat.reduceAdd, ptr_of hla1]; done) | (simp +decide only [go_sem, Nat.reduceAdd, Vl.cs, Ty.cs, ptr_of hla1]; done)
theorem v_Record_1_at' (w0 : World) (B : List (List AV)) (Rw : List RowA) (L : List LoopA) (a0 : ByteArray × Vl) (la1 : Nat) (a1 : ByteArray × Vl) (hla1 : B[la1]? = some (.val (.string a1.1) :: (a1.2.cs))) :
    ACalls Tryz.prog w0 167 [.agg (.val (.string a0.1) :: (a0.2.cs)), .box la1 0] ⟨B, Rw, L⟩ fun x st => x = .val (.bool (v_Record_1_F a0 a1)) ∧ st = ⟨B, Rw, L⟩ := v_Record_1_at w0 B Rw L a0 la1 a1 hla1 _ rfl
end Go.Proofs.YtggimoedcamonaaGreatDoor
namespace Go.Proofs.YtggimoedcamonaaGreatDoor
open Go Go.RowKit Go.Ev
set_option linter.unusedSimpArgs false
set_option linter.unusedVariables false
structure VPre (Rw rows : List RowA) : Prop where
  pre : Rw <+: rows
def dflF : ByteArray × Vl := (⟨#[]⟩, Vl.mk 0 0 0 ⟨#[]⟩ [] [])
def sortF (l : List (ByteArray × Vl)) : List (ByteArray × Vl) := sortL Prod.fst dflF l
theorem sortF_length (l : List (ByteArray × Vl)) : (sortF l).length = l.length := by simp only [sortF, sortL, List.length_map]; exact sortI_length _ _
theorem avF_cellsOne (x : ByteArray × Vl) : (avF x).cells.length = 7 ∧ notTup (avF x) = true := by simp +decide only [go_sem, and_self]
theorem avF_pubOne (x : ByteArray × Vl) : (avF x).pub = avF x := by simp +decide only [go_sem]
theorem avF_underOne (x : ByteArray × Vl) : ∀ c ∈ (avF x).cells, ∀ a b d, Under a b d c := by
  intro c hc a b d
  simp only [avF, AV.cells, List.mem_cons] at hc
  rcases hc with rfl | hc
  · exact .val _
  · exact x.2.under a b d c hc
theorem sortF_nil (w0 : World) (st : St) : ACalls Tryz.prog w0 168 [.list [] .none, .clo 169 []] st fun r s => r = .tup [] ∧ s = st := by
  refine ⟨enters_some Tryz.func168 rfl (by decide), fun M w vals hst hrow => ?_⟩
  obtain ⟨v0, v1, rfl⟩ : ∃ v0 v1, vals = #[v0, v1] := by
    have hs := hrow.1
    simp only [List.length_cons, List.length_nil] at hs
    match vals, hs with
    | ⟨[a, b]⟩, _ => exact ⟨a, b, rfl⟩
  have h0 : R w0 M w v0 (.list [] .none) := hrow.2 0 (by simp) (by simp)
  obtain ⟨p, cap, rfl⟩ : ∃ p cap, v0 = .slice p 0 cap := by
    generalize hx : AV.list [] Ev.Own.none = x at h0
    cases h0 with
    | nil ho => exact ⟨_, _, rfl⟩
    | emp ho => exact ⟨_, _, rfl⟩
    | list sz us hc hm hcell hu ho => cases hx; exact ⟨_, _, rfl⟩
    | _ => cases hx
  have h := AnyF.slices_SortFunc_none (P := Tryz.prog) (ρ := Tryz.laysSort_ren) Tryz.laysSort p cap v1 w
  refine h.mono ?_
  rintro en w' ⟨rfl, rfl⟩
  exact ⟨.tuple #[], M, .tup [], st, rfl, ⟨rfl, rfl⟩, .refl _ _ _, hst, .tup rfl (fun i h1 _ => absurd h1 (by simp))⟩
theorem sortF_vec (w0 : World) {st : St} {id ver : Nat} (l : List (ByteArray × Vl)) (hid : st.rows[id]? = some (.vec ver 7 (l.flatMap fun x => (avF x).cells))) (hn : 0 < l.length) (hz : l.length < 4611686018427387904) :
    ACalls Tryz.prog w0 168 [.vec id ver 0 l.length, .clo 169 []] st fun r s => r = .tup [] ∧ s = { st with rows := st.rows.set id (.vec ver 7 ((sortF l).flatMap fun x => (avF x).cells)) } :=
  sort_lift (ρ := Tryz.laysSort_ren) Tryz.laysSort (enters_some Tryz.func168 rfl (by decide)) 6 Tryz.isAgg83 Tryz.sizeOf83 169 (enters_some Tryz.func169 rfl (by decide))
    (fun s s' r r' W h1 h2 h3 h4 => cmpF_calls s s' r r' W h1 h2 h3 h4) avF Prod.fst dflF l (fun x => ⟨x.2.cs, rfl, Vl.cs_length _⟩) hid hn hz
def v_Record_k12 (n : Nat) (again_l7 : Int → (List (ByteArray × Vl)) → Option Vl) (x10_l7 : Int) (b1_k12_5 : List (ByteArray × Vl)) : Option Vl :=
  if I64 (x10_l7 + 1) then
    again_l7 (x10_l7 + 1) b1_k12_5
  else none
def v_Record_k4 (n : Nat)  (b1_k4_5 : List (ByteArray × Vl)) : Option Vl :=
  if b1_k4_5.length < 4611686018427387904 then
    (v_Clone_F n (Vl.mk 9 0 0 ((⟨#[]⟩ : ByteArray)) ([]) (sortF b1_k4_5))).bind fun y29 =>
    some (y29)
  else none
def v_Record_l7 (n : Nat) (a0 : List (ByteArray × Vl)) : Nat → Int → (List (ByteArray × Vl)) → Option Vl
  | 0, _, _ => none
  | m + 1, x10_l7, b1_l7_5 =>
    if decide (x10_l7 < ((a0.length : Int))) then
      (idx a0 x10_l7).bind fun x15 =>
      if I64 (x10_l7 + 1) then
        if 0 ≤ x10_l7 + 1 ∧ x10_l7 + 1 ≤ (a0.length : Int) ∧ (a0.length : Int) ≤ (a0.length : Int) then
          (sl_ContainsFunc_Field_F n (a0.drop (x10_l7 + 1).toNat) (fun (x0 : ByteArray × Vl) => some (v_Record_1_F x0 x15))).bind fun y19 =>
          if (!(v_IsNull_F x15.2)) && (!y19) then
            if (b1_l7_5.length + 1) * 104 ≤ 140737488355328 ∧ b1_l7_5.length + 1 ≤ 4611686018427387904 then
              v_Record_k12 n (v_Record_l7 n a0 m) x10_l7 (b1_l7_5 ++ ([x15]))
            else none
          else
            v_Record_k12 n (v_Record_l7 n a0 m) x10_l7 b1_l7_5
        else none
      else none
    else
      v_Record_k4 n b1_l7_5
def v_Record_F (n : Nat) (a0 : List (ByteArray × Vl)) : Option Vl :=
  v_Record_l7 n a0 n 0 ([])
set_option maxRecDepth 100000 in
set_option maxHeartbeats 4000000 in
theorem v_Record_at (w0 : World) (n : Nat) (B : List (List AV)) (Rw : List RowA) (L : List LoopA) (a0 : List (ByteArray × Vl)) (r : Vl) (h : v_Record_F n a0 = some r) :
    ACalls Tryz.prog w0 110 [.list (a0.map avF) .none] ⟨B, Rw, L⟩ fun x st => x = .agg (r.cs) ∧ st = ⟨B, Rw, L⟩ := by
  rw [v_Record_F] at h
  refine ACalls.finP (acalls_of (rs := [.cell 2 34]) Tryz.func110 rfl rfl Tryz.ntmps110 (enters_some Tryz.func110 rfl (by decide)) (Nat.le_of_ble_eq_true rfl) ?_)
  intro M0 W0 hN hNR hNL hcalm hu
  dsimp only at hN hNR hNL hcalm hu
  simp only [argsE]
  have hO := Owns.none Rw
  have hs := fact0
  refine rg [0, 2] hs ?_
  apply awp_seq; intro K2 hK2
  apply awp_region 1 [0, 2, 3]
  rw [evK_succ]; simp +decide only [go_sem, Nat.reduceAdd, fillA, fillOk, placeT]
  (repeat' apply And.intro) <;> first | refine hK2 _ _ ?_ | exact cl
  clear hK2
  refine awp_mid (fun e st => ∃ (b1_k4_5 : List (ByteArray × Vl)) (ob1_k4_5 : AV) (X_k4 : List (List AV)) (rows_k4 : List RowA), e = [(2, true, .box B.length 0), (3, true, .box (B.length + 1) 0)] ∧ st = ⟨B ++ ([[.val (.int .i64 0), .val (.int .i64 0), .val (.int .i64 0), .val (.string ((⟨#[]⟩ : ByteArray))), .list ([]) .full, .list ([]) .full], [.val (.int .i64 9), .val (.int .i64 0), .val (.int .i64 0), .val (.string ((⟨#[]⟩ : ByteArray))), .list ([]) .full, ob1_k4_5]] ++ X_k4), rows_k4, L⟩ ∧ VOne Rw rows_k4 7 (b1_k4_5.map avF) ob1_k4_5 ∧ v_Record_k4 n b1_k4_5 = some r) ?_ ?_
  · intro K5 hK5
    refine awp_seed_box (B.length + 1) 5 (by first | rfl | (simp only [box_own, box_own0]; rfl)) rfl ?_; simp +decide only [go_sem, Nat.reduceAdd, List.set_cons_succ, List.set_cons_zero]
    refine rg [0, 2, 3, 8, 9, 10] hs ?_
    apply awp_block
    refine awp_loop (fun m e st => ∃ (x10_l7 : Int) (b1_l7_5 : List (ByteArray × Vl)) (ob1_l7_5 : AV) (X_l7 : List (List AV)) (rows_l7 : List RowA), e = [(0, true, .list (a0.map avF) .none), (2, true, .box B.length 0), (3, true, .box (B.length + 1) 0), (8, true, .list (a0.map avF) .none), (9, true, .val (.int .i64 ((a0.length : Int)))), (10, true, .val (.int .i64 x10_l7))] ∧ st = ⟨B ++ ([[.val (.int .i64 0), .val (.int .i64 0), .val (.int .i64 0), .val (.string ((⟨#[]⟩ : ByteArray))), .list ([]) .full, .list ([]) .full], [.val (.int .i64 9), .val (.int .i64 0), .val (.int .i64 0), .val (.string ((⟨#[]⟩ : ByteArray))), .list ([]) .full, ob1_l7_5]] ++ X_l7), rows_l7, L⟩ ∧ VOne Rw rows_l7 7 (b1_l7_5.map avF) ob1_l7_5 ∧ v_Record_l7 n a0 m x10_l7 b1_l7_5 = some r) n ⟨0, [], .list [] .seed, [], Rw, ef hs, ef hs, VOne.none Rw 7, h⟩ ?_
    rintro m_l7 e st ⟨x10_l7, b1_l7_5, ob1_l7_5, X_l7, rows_l7, rfl, rfl, hO, h⟩ KR_l7 hKR_l7
    cases m_l7 with
    | zero => cases h
    | succ m_l7 =>
    rw [v_Record_l7] at h
    have hU := hO.under (B.length + 2) L.length
    refine tdV hN hNR hNL hcalm hO ?_
    refine rg [0, 2, 3, 8, 9, 10, 11] hs ?_
    apply awp_seq; intro K9 hK9
    refine cnd h hs (fun hs h => ?_) (fun hs h => ?_)
    rotate_left
    · skip
      have hb10 := hs.1
      refine sx [2, 3] hs hK5 ?_
      exact ⟨b1_l7_5, ob1_l7_5, ([]), rows_l7, ef hs, ef hs, VOne.of_eq hO (by simp only [List.map_append, List.map_cons, List.map_nil]), h⟩
    have hb10 := hs.1
    refine sk [0, 2, 3, 8, 9, 10] hs hK9 ?_
    clear hK9
    refine awp_mid (fun e st => ∃ (b1_k12_5 : List (ByteArray × Vl)) (ob1_k12_5 : AV) (X_k12 : List (List AV)) (rows_k12 : List RowA), e = [(0, true, .list (a0.map avF) .none), (2, true, .box B.length 0), (3, true, .box (B.length + 1) 0), (8, true, .list (a0.map avF) .none), (9, true, .val (.int .i64 ((a0.length : Int)))), (10, true, .val (.int .i64 x10_l7))] ∧ st = ⟨B ++ ([[.val (.int .i64 0), .val (.int .i64 0), .val (.int .i64 0), .val (.string ((⟨#[]⟩ : ByteArray))), .list ([]) .full, .list ([]) .full], [.val (.int .i64 9), .val (.int .i64 0), .val (.int .i64 0), .val (.string ((⟨#[]⟩ : ByteArray))), .list ([]) .full, ob1_k12_5]] ++ X_k12), rows_k12, L⟩ ∧ VOne Rw rows_k12 7 (b1_k12_5.map avF) ob1_k12_5 ∧ v_Record_k12 n (v_Record_l7 n a0 m_l7) x10_l7 b1_k12_5 = some r) ?_ ?_
    · intro K13 hK13
      apply awp_block
      obtain ⟨x15, hx15, h⟩ := bind_some h
      obtain ⟨hx15a, hx15b, hx15c⟩ := idx_some hx15
      have hx15d := getD_map (f := avF) hx15c
      have hs := And.intro hx15d hs
      refine rg [0, 2, 3, 4, 5, 8, 9, 10] hs ?_
      obtain ⟨hg17, h⟩ := guard_some h
      obtain ⟨hg18, h⟩ := guard_some h
      obtain ⟨y19, hy19, h⟩ := bind_some h
      refine rc 2 [0, 2, 3, 5, 6, 8, 9, 10] hs ?_; intro K16 hK16
      refine callK_p _ (sl_ContainsFunc_Field_at w0 n _ _ _ (a0.drop (x10_l7 + 1).toNat) 167 [.box (B.length + 2) 0] (fun (x0 : ByteArray × Vl) => some (v_Record_1_F x0 x15)) (fun x0 r hx B' rows' hB' hR' => by cases hx; exact v_Record_1_at' w0 _ _ _ x0 _ x15 (prefix_get hB' (ef hs))) _ hy19) (hv hs) ?_
      refine ne hs hK16 ?_
      clear hK16
      refine rc 2 [0, 2, 3, 5, 8, 9, 10, 28] hs ?_; intro K20 hK20
      refine callK_p _ (v_IsNull_at' w0 _ _ _ x15.2) (hv hs) ?_
      refine ne hs hK20 ?_
      clear hK20
      refine cnd h hs (fun hs h => ?_) (fun hs h => ?_)
      · skip
        have hb21 := hs.1
        obtain ⟨hg22, h⟩ := guard_some h
        obtain ⟨o23, rows24, hO, hap25⟩ := hO.append (P := Tryz.prog) (y := avF x15) elT_32 (by rw [zeroT_83]; rfl) (by decide) (by rw [List.length_map]; exact hg22.1) (by rw [List.length_map]; exact hg22.2) (avF_cellsOne x15) (avF_pubOne x15) (avF_underOne x15) (fun z hz => by obtain ⟨y, _, rfl⟩ := List.mem_map.1 hz; exact (avF_cellsOne y).1)
        simp only [avF_eq] at hap25
        replace hap25 := And.intro hap25 hO.cell
        apply awp_region 1 [0, 2, 3, 8, 9, 10]
        rw [evK_succ]; simp +decide only [go_sem, Nat.reduceAdd, hb10, hx15d, hb21, hap25]
        have hs := And.intro hap25 hs
        (repeat' apply And.intro) <;> first | refine hK13 _ _ ⟨(b1_l7_5 ++ ([x15])), o23, ([.val (.string x15.1) :: (x15.2.cs)]), rows24, ef hs, ef hs, VOne.of_eq hO (by simp only [List.map_append, List.map_cons, List.map_nil]), h⟩ | exact cl
      have hb21 := hs.1
      refine sk [0, 2, 3, 8, 9, 10] hs hK13 ?_
      exact ⟨b1_l7_5, ob1_l7_5, ([.val (.string x15.1) :: (x15.2.cs)]), rows_l7, ef hs, ef hs, VOne.of_eq hO (by simp only [List.map_append, List.map_cons, List.map_nil]), h⟩
    · clear h; rintro e st ⟨b1_k12_5, ob1_k12_5, X_k12, rows_k12, rfl, rfl, hO, h⟩
      rw [v_Record_k12] at h
      have hU := hO.under (B.length + 2) L.length
      refine tdV hN hNR hNL hcalm hO ?_
      obtain ⟨hg26, h⟩ := guard_some h
      apply awp_region 1 [0, 2, 3, 8, 9, 10]
      rw [evK_succ]; simp +decide only [go_sem, Nat.reduceAdd, hb10]
      (repeat' apply And.intro) <;> first | refine hKR_l7 m_l7 _ _ (Nat.lt_succ_self m_l7) ⟨(x10_l7 + 1), b1_k12_5, ob1_k12_5, ([]), rows_k12, ef hs, ef hs, VOne.of_eq hO (by simp only [List.map_append, List.map_cons, List.map_nil]), h⟩ | exact cl
  · clear h; rintro e st ⟨b1_k4_5, ob1_k4_5, X_k4, rows_k4, rfl, rfl, hO, h⟩
    rw [v_Record_k4] at h
    have hU := hO.under (B.length + 2) L.length
    refine tdV hN hNR hNL hcalm hO ?_
    obtain ⟨hgL, h⟩ := guard_some h
    rcases hO.at_ with ⟨hnil, rfl⟩ | ⟨id, ver, rfl, hpos, hid, hrow⟩
    · have hb0 : b1_k4_5 = [] := List.map_eq_nil_iff.1 hnil
      subst hb0
      refine rc 2 [2, 3] hs ?_; intro K27 hK27
      refine callK_p _ (sortF_nil w0 _) (hv hs) ?_
      refine ne hs hK27 ?_
      clear hK27
      obtain ⟨y29, hy29, h⟩ := bind_some h
      rw [show sortF [] = [] from List.eq_nil_of_length_eq_zero (sortF_length [])] at hy29
      refine rc 2 [2] hs ?_; intro K28 hK28
      refine callK_p _ (v_Clone_at w0 n _ _ _ (Vl.mk 9 0 0 ((⟨#[]⟩ : ByteArray)) ([]) []) _ hy29) (hv hs) ?_
      refine ne hs hK28 ?_
      clear hK28
      exact rt h hs hcalm hO
    · rw [List.length_map] at hpos
      rw [List.length_map]
      rw [show ((b1_k4_5.map avF).flatMap AV.cells) = b1_k4_5.flatMap fun x => (avF x).cells from List.flatMap_map ..] at hrow
      refine rc 2 [2, 3] hs ?_; intro K27 hK27
      refine callK_pp _ (sortF_vec w0 (st := ⟨_, _, _⟩) b1_k4_5 hrow hpos hgL) (hv hs) ?_; rintro _ _ ⟨rfl, rfl⟩
      refine ne hs hK27 ?_
      clear hK27
      have hlt := (List.getElem?_eq_some_iff.1 hrow).1
      have hvr : vecR (rows_k4.set id (.vec ver 7 ((sortF b1_k4_5).flatMap fun x => (avF x).cells))) id ver = some (7, (sortF b1_k4_5).flatMap fun x => (avF x).cells) := by simp [vecR, hlt]
      have hsl : (sortF b1_k4_5).length = b1_k4_5.length := sortF_length _
      refine awp_freeze_box (B.length + 1) 5 true (by first | rfl | (simp only [box_own, box_own0]; rfl)) rfl hvr (.inl rfl) (by rw [Nat.zero_add, fm_len2 (fun x _ => (avF_cellsOne x).1), hsl]; exact Nat.le_refl _) ?_
      have hfz : frzL 7 true ((sortF b1_k4_5).flatMap fun x => (avF x).cells) 0 b1_k4_5.length = (sortF b1_k4_5).map avF := by
        have := frzL_flat (ys := (sortF b1_k4_5).map avF) (sz := 7) (fun y hy => by obtain ⟨x, _, rfl⟩ := List.mem_map.1 hy; exact ⟨_, rfl, (avF_cellsOne x).1⟩)
        rw [List.length_map, hsl, List.flatMap_map] at this
        exact this
      rw [hfz]
      simp +decide only [go_sem, Nat.reduceAdd, List.set_cons_succ, List.set_cons_zero]
      obtain ⟨y29, hy29, h⟩ := bind_some h
      have hO : VPre Rw ((rows_k4.set id (.vec ver 7 ((sortF b1_k4_5).flatMap fun x => (avF x).cells))).set id (.dead (ver + 1))) := ⟨set_grow_pre (set_grow_pre hO.pre hid _) hid _⟩
      refine rc 2 [2] hs ?_; intro K28 hK28
      refine callK_p _ (v_Clone_at w0 n _ _ _ (Vl.mk 9 0 0 ((⟨#[]⟩ : ByteArray)) ([]) (sortF b1_k4_5)) _ hy29) (hv hs) ?_
      refine ne hs hK28 ?_
      clear hK28
      exact rt h hs hcalm hO
end Go.Proofs.YtggimoedcamonaaGreatDoor
namespace Go.Proofs.YtggimoedcamonaaGreatDoor
open Go Go.RowKit Go.Ev
set_option linter.unusedSimpArgs false
set_option linter.unusedVariables false
def v_Variant_F (n : Nat) (a0 : ByteArray) (a1 : Vl) : Option Vl :=
  (v_Clone_F n (Vl.mk 10 0 0 a0 ([a1]) ([]))).bind fun y3 =>
  some (y3)
set_option maxRecDepth 100000 in
set_option maxHeartbeats 4000000 in
theorem v_Variant_at (w0 : World) (n : Nat) (B : List (List AV)) (Rw : List RowA) (L : List LoopA) (a0 : ByteArray) (a1 : Vl) (r : Vl) (h : v_Variant_F n a0 a1 = some r) :
    ACalls Tryz.prog w0 109 [.val (.string a0), .agg (a1.cs)] ⟨B, Rw, L⟩ fun x st => x = .agg (r.cs) ∧ st = ⟨B, Rw, L⟩ := by
  rw [v_Variant_F] at h
  refine ACalls.finP (acalls_of (rs := [.cell 4 34]) Tryz.func109 rfl rfl Tryz.ntmps109 (enters_some Tryz.func109 rfl (by decide)) (Nat.le_of_ble_eq_true rfl) ?_)
  intro M0 W0 hN hNR hNL hcalm hu
  dsimp only at hN hNR hNL hcalm hu
  simp only [argsE]
  have hO := Owns.none Rw
  have hs := fact0
  refine rg [0, 3, 4] hs ?_
  apply awp_seq; intro K2 hK2
  obtain ⟨y3, hy3, h⟩ := bind_some h
  apply awp_region 2 [4]
  rw [evK_succ]; simp +decide only [go_sem, Nat.reduceAdd, fillA, fillOk, placeT]
  (repeat' apply And.intro) <;> first | refine callK_p _ (v_Clone_at w0 n _ _ _ (Vl.mk 10 0 0 a0 ([a1]) ([])) _ hy3) (by first | rfl | (simp +decide only [go_sem, Nat.reduceAdd, fillA, fillOk, placeT]; done) | (simp +decide only [go_sem, Nat.reduceAdd, Vl.cs, Ty.cs, fillA, fillOk, placeT]; done)) ?_ | exact cl
  rw [evK_succ]; simp +decide only [go_sem, Nat.reduceAdd, fillA, fillOk, placeT]
  (repeat' apply And.intro) <;> first | refine hK2 _ _ ?_ | exact cl
  clear hK2
  exact rt h hs hcalm hO
end Go.Proofs.YtggimoedcamonaaGreatDoor
