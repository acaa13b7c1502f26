/-
  Part 3 of the proof: rules and walks that the claim's last text uses.
-/
import Derived.Lib.AppendZeros
import Derived.Lib.Bytealg
import Derived.Shelf.SlSortCmp.NoneTotal
import Derived.Shelf.SlSortCmp.WholeK
import Derived.Shelf.SlicesE.Clone
import Derived.Sort.Lot0
import Derived.Test.YtgpmlelfkjfbiaaGreatDoorProg
import Derived.Test.YtgpmlelfkjfbiaaGreatDoorRows
import Derived.Test.YtgpmlelfkjfbiaaGreatDoorSx2
set_option linter.unusedSimpArgs false
set_option linter.unusedVariables false
set_option maxRecDepth 100000
set_option maxHeartbeats 4000000
namespace Go.Proofs.YtgpmlelfkjfbiaaGreatDoor
open Go Go.RowKit Go.Ev
mutual
def Zge (lv : Nat) : Vl → List (Nat × Vl)
 | .mk k i s t l f => (lv, .mk k i s t l f) :: (if k = 8 ∨ k = 10 then ZsB (lv + 1) l else if k = 9 then Zsl (lv + 1) f else [])
def ZsB (lv : Nat) : List Vl → List (Nat × Vl)
 | [] => []
 | v :: r => Zge lv v ++ ZsB lv r
def Zsl (lv : Nat) : List (ByteArray × Vl) → List (Nat × Vl)
 | [] => []
 | (_, v) :: r => Zge lv v ++ Zsl lv r
end
theorem Zoz (lv : Nat) : ∀ l, ZsB lv l = l.flatMap (Zge lv)
 | [] => rfl
 | v :: r => by simp [ZsB, Zoz lv r]
theorem Zoy (lv : Nat) : ∀ l, Zsl lv l = (l.map (·.2)).flatMap (Zge lv)
 | [] => rfl
 | (_, v) :: r => by simp [Zsl, Zoy lv r]
theorem Zht (lv : Nat) (v : Vl) : Zge lv v = (lv, v) :: (Zbi v).flatMap (Zge (lv + 1)) := by
 obtain ⟨k, i, s, t, l, f⟩ := v
 simp only [Zge, Zbi, Vl.kind, Vl.list, Vl.fields, Zoz, Zoy]
 by_cases h1 : k = 8 ∨ k = 10
 ·
  simp only [h1, if_true]
 ·
  by_cases h2 : k = 9
  ·
   subst h2; simp
  ·
   simp only [h1, h2, if_false, List.flatMap_nil]
theorem Zm4 {α β : Type} (f : α → List β) (l : List α) (q : Nat) (h : q < l.length) : ((l.take (q + 1)).flatMap f).length = ((l.take q).flatMap f).length + (f l[q]).length := by
 rw [List.take_succ_eq_append_getElem h, List.flatMap_append, List.length_append]; simp
theorem Znw {α β : Type} (f : α → List β) (l : List α) (q : Nat) (h : q < l.length) (j : Nat) (x : β) (hx : (f l[q])[j]? = some x) : (l.flatMap f)[((l.take q).flatMap f).length + j]? = some x := by
 have e : l = l.take q ++ l[q] :: l.drop (q + 1) := by rw [← List.drop_eq_getElem_cons h, List.take_append_drop]
 have e2 : l.flatMap f = (l.take q).flatMap f ++ (f l[q] ++ (l.drop (q + 1)).flatMap f) := by
  conv => lhs; rw [e]
  rw [List.flatMap_append, List.flatMap_cons]
 rw [e2, List.getElem?_append_right (by omega), Nat.add_sub_cancel_left, List.getElem?_append_left (List.getElem?_eq_some_iff.1 hx).1, hx]
theorem Zim : ∀ (l : List Vl) (v : Vl), v ∈ l → v.size ≤ Zet l
 | [], _, h => by simp at h
 | a :: r, v, h => by
  rcases List.mem_cons.1 h with rfl | h
  ·
   simp [Zet]
  ·
   have := Zim r v h
   simp [Zet]; omega
theorem ZiE : ∀ (l : List (ByteArray × Vl)) (p : ByteArray × Vl), p ∈ l → p.2.size ≤ Zei l
 | [], _, h => by simp at h
 | (n, a) :: r, p, h => by
  rcases List.mem_cons.1 h with rfl | h
  ·
   simp [Zei]
  ·
   have := ZiE r p h
   simp [Zei]; omega
theorem Vl.size_pos (v : Vl) : 0 < v.size := by cases v; simp [Vl.size]; omega
theorem Zis : ∀ l : List Vl, l.length ≤ Zet l
 | [] => Nat.le_refl _
 | v :: r => by have := Zis r; have := v.size_pos; simp [Zet]; omega
theorem Zg6 : ∀ l : List (ByteArray × Vl), l.length ≤ Zei l
 | [] => Nat.le_refl _
 | (n, v) :: r => by have := Zg6 r; have := v.size_pos; simp [Zei]; omega
theorem Vl.size_eq (v : Vl) : v.size = 1 + Zet v.list + Zei v.fields := by cases v; simp [Vl.size, Vl.list, Vl.fields]
theorem Zmh (v x : Vl) (h : x ∈ Zbi v) : x.size < v.size := by
 have e := v.size_eq
 unfold Zbi at h
 split at h
 ·
  have := Zim _ _ h; omega
 ·
  split at h
  ·
   obtain ⟨p, hp, rfl⟩ := List.mem_map.1 h
   have := ZiE _ _ hp; omega
  ·
   simp at h
theorem Zgx (v : Vl) : v.list.length < v.size ∧ v.fields.length < v.size ∧ (Zbi v).length < v.size := by
 have e := v.size_eq
 have h1 := Zis v.list
 have h2 := Zg6 v.fields
 refine ⟨by omega, by omega, ?_⟩
 unfold Zbi
 split
 ·
  omega
 ·
  split
  ·
   simp; omega
  ·
   simp; omega
def Zso (p : Nat × Vl) : List AV := [.val (.int .i64 p.1), .agg p.2.cs]
def Zrl (w0 : World) (items : List (List AV)) (k : Nat) (J : Nat → St → Prop) (Jx : St → Prop) : Prop :=
 ∀ i SB SR SL x XB XL, J i ⟨SB, SR, SL⟩ → items[i]? = some x → ZmH Tryz.prog w0 k x ⟨SB ++ XB, SR, SL ++ XL⟩ fun r s' => ∃ TB TR TL b, r = .val (.bool b) ∧ s' = ⟨TB ++ XB, TR, TL ++ XL⟩ ∧ TB.length = SB.length ∧ SR.length ≤ TR.length ∧ TL.length = SL.length ∧ (b = true → J (i + 1) ⟨TB, TR, TL⟩) ∧ (b = false → Jx ⟨TB, TR, TL⟩)
def Zqg (w0 : World) (items : List (List AV)) (k : Nat) (J : Nat → St → Prop) (Jx : St → Prop) (v : Vl) : Prop :=
 ∀ (lv i : Nat) (lvi : Int) SB SR SL XB XL, lv + v.size ≤ 1048576 → J i ⟨SB, SR, SL⟩ → lvi = lv → (∀ j x, (Zge lv v)[j]? = some x → items[i + j]? = some (Zso x)) →
  ACalls Tryz.prog w0 123 [.agg v.cs, .val (.int .i64 lvi), .yld k] ⟨SB ++ XB, SR, SL ++ XL⟩ fun r s' => ∃ TB TR TL XB' b, r = .val (.bool b) ∧ s' = ⟨TB ++ (XB ++ XB'), TR, TL ++ XL⟩ ∧ TB.length = SB.length ∧ SR.length ≤ TR.length ∧ TL.length = SL.length ∧ (b = true → J (i + (Zge lv v).length) ⟨TB, TR, TL⟩) ∧ (b = false → Jx ⟨TB, TR, TL⟩)
theorem Zo3 (w0 : World) (items : List (List AV)) (k : Nat) (J : Nat → St → Prop) (Jx : St → Prop) (hY : Zrl w0 items k J Jx) (v : Vl) (ih : ∀ x, x.size < v.size → Zqg w0 items k J Jx x) : Zqg w0 items k J Jx v := by
 intro lv i lvi SB SR SL XB XL hlv h0 hle hit
 subst hle
 refine Zcv (rs := [.tmp 6]) Tryz.func123 rfl rfl Tryz.ntmps123 (ZaH Tryz.func123 rfl (by decide)) (Nat.le_of_ble_eq_true rfl) ?_
 intro M0 W0 hN hNR hNL hcalm hu
 obtain ⟨pl1, pl2, pl3⟩ := Zgx v
 have hpre := Zht lv v
 have hps := ZiT (Zbi v)
 obtain ⟨ps, hpe⟩ : ∃ ps, Zbi v = ps := ⟨_, rfl⟩
 have hit0 : items[i]? = some (Zso (lv, v)) := by
  have := hit 0 (lv, v) (by rw [hpre]; rfl)
  simpa using this
 simp only [Zav]
 apply Zab; intro K1 hK1
 apply Zae 1 [1, 2, 3]
 rw [Zaa]; simp +decide only [go_sem]
 (repeat' apply And.intro) <;> first | refine hK1 _ _ ?_ | (intros; omega) | (intros; simp_all; done) | (intros; simp only [Bool.or_eq_false_iff, Bool.or_eq_true, Bool.and_eq_true, Bool.and_eq_false_iff, decide_eq_true_eq, decide_eq_false_iff_not, bne_iff_ne] at *; omega)
 clear hK1
 apply Zab; intro K2 hK2
 apply Zab; intro K3 hK3
 apply Zae 2 [1, 2, 3, 13]
 rw [Zaa]; simp +decide only [go_sem]
 (repeat' apply And.intro) <;> first | refine ZnG _ (fun _ => hY i SB SR SL _ (XB ++ [v.cs]) XL h0 hit0) (fun r s' hp _ => ?_) | (intros; omega) | (intros; simp_all; done) | (intros; simp only [Bool.or_eq_false_iff, Bool.or_eq_true, Bool.and_eq_true, Bool.and_eq_false_iff, decide_eq_true_eq, decide_eq_false_iff_not, bne_iff_ne] at *; omega)
 obtain ⟨TB, TR, TL, b, rfl, rfl, l1, l2, l3, hp1, hp2⟩ := hp rfl
 rw [← l1]
 rw [Zaa]; simp +decide only [go_sem]
 (repeat' apply And.intro) <;> first | refine hK3 _ _ ?_ | (intros; omega) | (intros; simp_all; done) | (intros; simp only [Bool.or_eq_false_iff, Bool.or_eq_true, Bool.and_eq_true, Bool.and_eq_false_iff, decide_eq_true_eq, decide_eq_false_iff_not, bne_iff_ne] at *; omega)
 clear hK3
 refine Zaz _ (by simp +decide only [go_sem]) (by simp +decide only [go_sem]; rfl) (fun hb => ?_) (fun hb => ?_)
 ·
  simp only [Bool.not_eq_true'] at hb
  apply Zab; intro K4 hK4
  apply Zae 1 [6]
  rw [Zaa]; simp +decide only [go_sem]
  (repeat' apply And.intro) <;> first | refine hK4 _ _ ?_ | (intros; omega) | (intros; simp_all; done) | (intros; simp only [Bool.or_eq_false_iff, Bool.or_eq_true, Bool.and_eq_true, Bool.and_eq_false_iff, decide_eq_true_eq, decide_eq_false_iff_not, bne_iff_ne] at *; omega)
  clear hK4
  apply Zah; simp +decide only [go_sem]
  exact ⟨TB, TR, TL, [v.cs], false, rfl, rfl, l1, l2, l3, fun h => (by cases h), fun _ => hp2 hb⟩
 simp only [Bool.not_eq_false'] at hb
 apply Zba; simp only [go_sem]
 (repeat' apply And.intro) <;> first | refine hK2 _ _ ?_ | (intros; omega) | (intros; simp_all; done) | (intros; simp only [Bool.or_eq_false_iff, Bool.or_eq_true, Bool.and_eq_true, Bool.and_eq_false_iff, decide_eq_true_eq, decide_eq_false_iff_not, bne_iff_ne] at *; omega)
 clear hK2
 apply Zab; intro K5 hK5
 apply Zab; intro K6 hK6
 apply Zae 2 [1, 2, 15, 16, 17]
 rw [Zaa]; simp +decide only [go_sem]
 (repeat' apply And.intro) <;> first | refine ZnV _ (ZsF w0 _ TR _ v (by omega) (by omega)) ?_ | (intros; omega) | (intros; simp_all; done) | (intros; simp only [Bool.or_eq_false_iff, Bool.or_eq_true, Bool.and_eq_true, Bool.and_eq_false_iff, decide_eq_true_eq, decide_eq_false_iff_not, bne_iff_ne] at *; omega)
 rw [hpe] at hps pl3 hpre ⊢
 rw [Zaa]; simp +decide only [go_sem]
 (repeat' apply And.intro) <;> first | refine hK6 _ _ ?_ | (intros; omega) | (intros; simp_all; done) | (intros; simp only [Bool.or_eq_false_iff, Bool.or_eq_true, Bool.and_eq_true, Bool.and_eq_false_iff, decide_eq_true_eq, decide_eq_false_iff_not, bne_iff_ne] at *; omega)
 clear hK6
 apply Zad
 refine Zal (fun m e st => ∃ (q : Nat) (UB : List (List AV)) (UR : List RowA) (UL : List LoopA) (XB' : List (List AV)), q ≤ ps.length ∧ m = ps.length - q ∧ J (i + 1 + ((ps.take q).flatMap (Zge (lv + 1))).length) ⟨UB, UR, UL⟩ ∧ UB.length = SB.length ∧ SR.length ≤ UR.length ∧ UL.length = SL.length ∧ e = [(1, true, .val (.int .i64 lv)), (2, true, .yld k), (15, true, .list (ZdO ps) .none), (16, true, .val (.int .i64 ps.length)), (17, true, .val (.int .i64 q))] ∧ st = ⟨UB ++ (XB ++ XB'), UR, UL ++ XL⟩) ps.length ⟨0, TB, TR, TL, [v.cs], by omega, rfl, by simpa using hp1 hb, l1, l2, l3, rfl, by simp⟩ ?_
 rintro m e st ⟨q, UB, UR, UL, XB', hq, rfl, hj, m1, m2, m3, rfl, rfl⟩ KR hKR
 obtain ⟨x, hx⟩ : ∃ x, (ZdO ps).getD q .junk = x := ⟨_, rfl⟩
 apply Zab; intro K7 hK7
 apply Zae 1 [1, 2, 15, 16, 17, 18]
 rw [Zaa]; simp +decide only [go_sem, hx, hps]
 (repeat' apply And.intro) <;> first | refine hK7 _ _ ?_ | (intros; omega) | (intros; simp_all; done) | (intros; simp only [Bool.or_eq_false_iff, Bool.or_eq_true, Bool.and_eq_true, Bool.and_eq_false_iff, decide_eq_true_eq, decide_eq_false_iff_not, bne_iff_ne] at *; omega)
 clear hK7
 apply Zab; intro K8 hK8
 refine Zaz _ (by simp +decide only [go_sem]) (by simp +decide only [go_sem]; rfl) (fun hb => ?_) (fun hb => ?_)
 rotate_left
 ·
  simp only [Bool.or_eq_true, Bool.or_eq_false_iff, Bool.and_eq_true, Bool.and_eq_false_iff, decide_eq_true_eq, decide_eq_false_iff_not, Bool.not_eq_true', Bool.not_eq_false', Bool.not_eq_eq_eq_not, Bool.not_true, Bool.not_false] at hb
  apply Zg0; simp +decide only [go_sem, hx, hps]
  (repeat' apply And.intro) <;> first | refine hK5 _ _ ?_ | (intros; omega) | (intros; simp_all; done) | (intros; simp only [Bool.or_eq_false_iff, Bool.or_eq_true, Bool.and_eq_true, Bool.and_eq_false_iff, decide_eq_true_eq, decide_eq_false_iff_not, bne_iff_ne] at *; omega)
  clear hK5
  apply Zab; intro K9 hK9
  apply Zae 1 [6]
  rw [Zaa]; simp +decide only [go_sem, hx, hps]
  (repeat' apply And.intro) <;> first | refine hK9 _ _ ?_ | (intros; omega) | (intros; simp_all; done) | (intros; simp only [Bool.or_eq_false_iff, Bool.or_eq_true, Bool.and_eq_true, Bool.and_eq_false_iff, decide_eq_true_eq, decide_eq_false_iff_not, bne_iff_ne] at *; omega)
  clear hK9
  apply Zah; simp +decide only [go_sem]
  refine ⟨UB, UR, UL, XB', true, rfl, rfl, m1, m2, m3, fun _ => ?_, fun h => (by cases h)⟩
  rw [List.take_of_length_le (by omega)] at hj
  rw [hpre, List.length_cons, show i + ((ps.flatMap (Zge (lv + 1))).length + 1) = i + 1 + (ps.flatMap (Zge (lv + 1))).length by omega]
  exact hj
 simp only [Bool.or_eq_true, Bool.or_eq_false_iff, Bool.and_eq_true, Bool.and_eq_false_iff, decide_eq_true_eq, decide_eq_false_iff_not, Bool.not_eq_true', Bool.not_eq_false', Bool.not_eq_eq_eq_not, Bool.not_true, Bool.not_false] at hb
 have hql : q < ps.length := by omega
 have hx2 := ZpT ps q hql
 rw [hx] at hx2
 subst hx2
 have hfs := Zm4 (Zge (lv + 1)) ps q hql
 have hitq : ∀ j x, (Zge (lv + 1) (ps[q]'hql))[j]? = some x → items[i + 1 + ((ps.take q).flatMap (Zge (lv + 1))).length + j]? = some (Zso x) := fun j x hjx => by
  have h1 := Znw (Zge (lv + 1)) ps q hql j x hjx
  have h2 := hit (((ps.take q).flatMap (Zge (lv + 1))).length + j + 1) x (by rw [hpre, List.getElem?_cons_succ, h1])
  rw [show i + 1 + ((ps.take q).flatMap (Zge (lv + 1))).length + j = i + (((ps.take q).flatMap (Zge (lv + 1))).length + j + 1) by omega]
  exact h2
 apply Zba; simp only [go_sem]
 (repeat' apply And.intro) <;> first | refine hK8 _ _ ?_ | (intros; omega) | (intros; simp_all; done) | (intros; simp only [Bool.or_eq_false_iff, Bool.or_eq_true, Bool.and_eq_true, Bool.and_eq_false_iff, decide_eq_true_eq, decide_eq_false_iff_not, bne_iff_ne] at *; omega)
 clear hK8
 apply Zab; intro K10 hK10
 apply Zad
 apply Zab; intro K11 hK11
 apply Zae 1 [1, 2, 8, 15, 16, 17]
 rw [Zaa]; simp +decide only [go_sem, hx, hps]
 (repeat' apply And.intro) <;> first | refine hK11 _ _ ?_ | (intros; omega) | (intros; simp_all; done) | (intros; simp only [Bool.or_eq_false_iff, Bool.or_eq_true, Bool.and_eq_true, Bool.and_eq_false_iff, decide_eq_true_eq, decide_eq_false_iff_not, bne_iff_ne] at *; omega)
 clear hK11
 apply Zab; intro K12 hK12
 apply Zae 2 [1, 2, 15, 16, 17, 26]
 rw [Zaa]; simp +decide only [go_sem, hx, hps]
 (repeat' apply And.intro) <;> first | refine ZkJ _ (ih (ps[q]'hql) (Zmh v _ (by rw [hpe]; exact List.getElem_mem hql)) (lv + 1) _ _ UB UR UL (XB ++ (XB' ++ [(ps[q]'hql).cs])) XL (by have := Zmh v (ps[q]'hql) (by rw [hpe]; exact List.getElem_mem hql); omega) hj (by omega) hitq) ?_ | (intros; omega) | (intros; simp_all; done) | (intros; simp only [Bool.or_eq_false_iff, Bool.or_eq_true, Bool.and_eq_true, Bool.and_eq_false_iff, decide_eq_true_eq, decide_eq_false_iff_not, bne_iff_ne] at *; omega)
 rintro r s' ⟨VB, VR, VL, XB2, b2, rfl, rfl, n1, n2, n3, np1, np2⟩
 rw [Zaa]; simp +decide only [go_sem, hx, hps]
 (repeat' apply And.intro) <;> first | refine hK12 _ _ ?_ | (intros; omega) | (intros; simp_all; done) | (intros; simp only [Bool.or_eq_false_iff, Bool.or_eq_true, Bool.and_eq_true, Bool.and_eq_false_iff, decide_eq_true_eq, decide_eq_false_iff_not, bne_iff_ne] at *; omega)
 clear hK12
 refine Zaz _ (by simp +decide only [go_sem]) (by simp +decide only [go_sem]; rfl) (fun hb => ?_) (fun hb => ?_)
 ·
  simp only [Bool.not_eq_true'] at hb
  apply Zab; intro K13 hK13
  apply Zae 1 [6]
  rw [Zaa]; simp +decide only [go_sem, hx, hps]
  (repeat' apply And.intro) <;> first | refine hK13 _ _ ?_ | (intros; omega) | (intros; simp_all; done) | (intros; simp only [Bool.or_eq_false_iff, Bool.or_eq_true, Bool.and_eq_true, Bool.and_eq_false_iff, decide_eq_true_eq, decide_eq_false_iff_not, bne_iff_ne] at *; omega)
  clear hK13
  apply Zah; simp +decide only [go_sem]
  exact ⟨VB, VR, VL, XB' ++ ([(ps[q]'hql).cs] ++ XB2), false, rfl, by simp, by omega, by omega, by omega, fun h => (by cases h), fun _ => np2 hb⟩
 simp only [Bool.not_eq_false'] at hb
 apply Zba; simp only [go_sem]
 (repeat' apply And.intro) <;> first | refine hK10 _ _ ?_ | (intros; omega) | (intros; simp_all; done) | (intros; simp only [Bool.or_eq_false_iff, Bool.or_eq_true, Bool.and_eq_true, Bool.and_eq_false_iff, decide_eq_true_eq, decide_eq_false_iff_not, bne_iff_ne] at *; omega)
 clear hK10
 apply Zae 1 [1, 2, 15, 16, 17]
 rw [Zaa]; simp +decide only [go_sem, hx, hps]
 (repeat' apply And.intro) <;> first | refine hKR (ps.length - (q + 1)) _ _ ?_ ⟨q + 1, VB, VR, VL, XB' ++ ([(ps[q]'hql).cs] ++ XB2), ?_, rfl, ?_, ?_, ?_, ?_, ?_, ?_⟩ | (intros; omega) | (intros; simp_all; done)
 ·
  omega
 ·
  omega
 ·
  rw [hfs]; have := np1 hb; rwa [Nat.add_assoc (i + 1)] at this
 ·
  omega
 ·
  omega
 ·
  omega
 ·
  simp
 ·
  simp
theorem Zos (w0 : World) (items : List (List AV)) (k : Nat) (J : Nat → St → Prop) (Jx : St → Prop) (hY : Zrl w0 items k J Jx) : ∀ (n : Nat) (v : Vl), v.size ≤ n → Zqg w0 items k J Jx v
 | 0, v, h => by have := v.size_pos; omega
 | n + 1, v, h => Zo3 w0 items k J Jx hY v fun x hx => Zos w0 items k J Jx hY n x (by omega)
def Zgh (v : Vl) : List (List AV) := (Zge 1 v).map Zso
theorem Zh8 (w0 : World) (v : Vl) (hv : v.size < 1048576) (l : Nat) : Zx1 Tryz.prog w0 122 [.box l 0] (Zgh v) (fun st => st.boxes[l]? = some v.cs) := by
 intro k J Jx hJ hY s0 h0
 have hR : Zrl w0 (Zgh v) k J (fun s => Jx s) := by
  intro i SB SR SL x XB XL hj hx
  have := hY i ⟨SB, SR, SL⟩ x ⟨XB, [], XL⟩ rfl hj hx
  simp only [St.ext, List.append_nil] at this
  intro M w vals h1 h2
  obtain ⟨fn, tmps, asg, body, e1, e2⟩ := this M w vals h1 h2
  refine ⟨fn, tmps, asg, body, e1, fun n => (e2 n).mono ?_⟩
  intro en w' hc
  refine hc.mono ?_
  rintro r s ⟨⟨TB, TR, TL⟩, rfl, ⟨q1, q2, q3⟩, hp⟩
  rcases hp with ⟨rfl, hp⟩ | ⟨rfl, hp⟩
  ·
   exact ⟨TB, TR, TL, true, rfl, rfl, q1, q2, q3, fun _ => hp, fun h => (by cases h)⟩
  ·
   exact ⟨TB, TR, TL, false, rfl, rfl, q1, q2, q3, fun h => (by cases h), fun _ => hp⟩
 obtain ⟨hbox, hkl⟩ := hJ _ _ h0
 obtain ⟨SB, SR, SL⟩ := s0
 have hl : l < SB.length := (List.getElem?_eq_some_iff.1 hbox).1
 have e1 : Zc6 ⟨SB, SR, SL⟩ (.box l 0) = true := by simp [Zc6, hl]
 have e2 : Za1 ⟨SB, SR, SL⟩ (.box l 0) = v.cs := by
  simp only at hbox
  simp [Za1, List.getD, hbox]
 have hvis := Zos w0 (Zgh v) k J Jx hR v.size v (Nat.le_refl _) 1 0 1 SB SR SL [] [] (by omega) h0 rfl (fun j x hx => by simp [Zgh, hx])
 simp only [List.append_nil, List.nil_append, Nat.zero_add] at hvis
 refine Zcv (rs := []) Tryz.func122 rfl rfl Tryz.ntmps122 (ZaH Tryz.func122 rfl (by decide)) (Nat.le_of_ble_eq_true rfl) ?_
 intro M0 W0 hN hNR hNL hcalm hu
 simp only [Zav]
 apply Zae 2 []
 rw [Zaa]; simp +decide only [go_sem, e1, e2]
 (repeat' apply And.intro) <;> first | refine ZkJ _ hvis ?_ | (intros; omega) | (intros; simp_all; done)
 rintro r s ⟨TB, TR, TL, XB', b, rfl, rfl, q1, q2, q3, hp1, hp2⟩
 rw [Zaa]; simp +decide only [go_sem]
 refine ⟨⟨TB, TR, TL⟩, ⟨XB', [], []⟩, rfl, by simp [St.ext], ?_⟩
 cases b with
 | true => exact .inl (by have := hp1 rfl; simpa [Zgh] using this)
 | false => exact .inr (hp2 rfl)
theorem ZhP (v : Vl) : (Zgh v).length = (Zge 1 v).length := by simp [Zgh]
theorem ZkN (v : Vl) (i : Nat) (x : List AV) (h : (Zgh v)[i]? = some x) : ∃ p, (Zge 1 v)[i]? = some p ∧ x = [.val (.int .i64 p.1), .agg p.2.cs] ∧ i < (Zge 1 v).length := by
 simp only [Zgh, List.getElem?_map, Option.map_eq_some_iff] at h
 obtain ⟨p, h1, rfl⟩ := h
 exact ⟨p, h1, rfl, (List.getElem?_eq_some_iff.1 h1).1⟩
theorem ZkY (v : Vl) (x : List AV) (h : x ∈ Zgh v) : x.length = 2 := by
 obtain ⟨p, _, rfl⟩ := List.mem_map.1 h
 rfl
theorem ZjD (w0 : World) (B : List (List AV)) (Rw : List RowA) (L : List LoopA) (v : Vl) :
  ACalls Tryz.prog w0 61 [.agg v.cs] ⟨B, Rw, L⟩ fun r st => r = .clo 122 [.box B.length 0] ∧ st = ⟨B ++ [v.cs], Rw, L⟩ := by
 refine Zcv (rs := [.tmp 2]) Tryz.func61 rfl rfl Tryz.ntmps61 (ZaH Tryz.func61 rfl (by decide)) (Nat.le_of_ble_eq_true rfl) ?_
 intro M0 W0 hN hNR hNL hcalm hu
 simp only [Zav]
 apply Zab; intro K1 hK1
 apply Zae 1 [1]
 rw [Zaa]; simp +decide only [go_sem]
 (repeat' apply And.intro) <;> first | refine hK1 _ _ ?_ | (intros; omega) | (intros; simp_all; done) | (intros; simp only [Bool.or_eq_false_iff, Bool.or_eq_true, Bool.and_eq_true, Bool.and_eq_false_iff, decide_eq_true_eq, decide_eq_false_iff_not, bne_iff_ne] at *; omega)
 clear hK1
 apply Zab; intro K2 hK2
 apply Zae 1 [2]
 rw [Zaa]; simp +decide only [go_sem]
 (repeat' apply And.intro) <;> first | refine hK2 _ _ ?_ | (intros; omega) | (intros; simp_all; done) | (intros; simp only [Bool.or_eq_false_iff, Bool.or_eq_true, Bool.and_eq_true, Bool.and_eq_false_iff, decide_eq_true_eq, decide_eq_false_iff_not, bne_iff_ne] at *; omega)
 clear hK2
 apply Zah; simp +decide only [go_sem]
 skip
def Zni : List AV := [.val .nilFunc, .clo 108 [], .clo 110 [], .clo 111 [], .clo 113 [], .clo 116 [], .clo 117 [], .clo 118 [], .clo 119 [], .clo 120 [], .clo 121 []]
theorem ZsK (w0 : World) (B : List (List AV)) (Rw : List RowA) (L : List LoopA)  :
  ACalls Tryz.prog w0 60 [] ⟨B, Rw, L⟩ fun r st => r = .agg Zni ∧ st = ⟨B, Rw, L⟩ := by
 refine ACalls.finP (Zcv (rs := [.cell 0 92]) Tryz.func60 rfl rfl Tryz.ntmps60 (ZaH Tryz.func60 rfl (by decide)) (Nat.le_of_ble_eq_true rfl) ?_)
 intro M0 W0 hN hNR hNL hcalm hu
 simp only [Zav]
 apply Zab; intro K1 hK1
 apply Zae 1 [0]
 rw [Zaa]; simp +decide only [go_sem, ZaF, Zan, Zam, ZbO, List.getElem?_cons_zero, List.getElem?_cons_succ, List.nil_append, List.cons_append]
 (repeat' apply And.intro) <;> first | refine hK1 _ _ ?_ | (intros; omega) | (intros; simp_all; done) | (intros; simp only [Bool.or_eq_false_iff, Bool.or_eq_true, Bool.and_eq_true, Bool.and_eq_false_iff, decide_eq_true_eq, decide_eq_false_iff_not, bne_iff_ne] at *; omega)
 clear hK1
 apply Zab; intro K2 hK2
 apply Zae 1 [0]
 rw [Zaa]; simp +decide only [go_sem, ZaF, Zan, Zam, ZbO, List.getElem?_cons_zero, List.getElem?_cons_succ, List.nil_append, List.cons_append]
 (repeat' apply And.intro) <;> first | refine hK2 _ _ ?_ | (intros; omega) | (intros; simp_all; done) | (intros; simp only [Bool.or_eq_false_iff, Bool.or_eq_true, Bool.and_eq_true, Bool.and_eq_false_iff, decide_eq_true_eq, decide_eq_false_iff_not, bne_iff_ne] at *; omega)
 clear hK2
 apply Zah; simp +decide only [go_sem]
 refine Ziu hcalm (by first | exact List.prefix_append _ _ | exact List.prefix_refl _ | (rw [List.append_assoc]; exact List.prefix_append _ _)) (by first | exact List.prefix_append _ _ | exact List.prefix_refl _ | (rw [List.append_assoc]; exact List.prefix_append _ _)) (by first | exact List.prefix_append _ _ | exact List.prefix_refl _ | (rw [List.append_assoc]; exact List.prefix_append _ _)) (by simp +decide only [go_sem]) ⟨?_, rfl⟩
 rfl
end Go.Proofs.YtgpmlelfkjfbiaaGreatDoor
namespace Go.Ev
open Go Go.RowKit
section
universe u v
variable {α : Type u} {β : Type v} {r : β}
theorem Zac {c : Prop} [Decidable c] {x : Option β} (h : (if c then x else none) = some r) : c ∧ x = some r := by
 by_cases q : c
 ·
  rw [if_pos q] at h; exact ⟨q, h⟩
 ·
  rw [if_neg q] at h; cases h
theorem bind_some {o : Option α} {f : α → Option β} (h : o.bind f = some r) : ∃ x, o = some x ∧ f x = some r := by
 cases o with
 | none => cases h
 | some x => exact ⟨x, rfl, h⟩
theorem Za2 {b : Bool} {x y : β} (h : (if b = true then x else y) = r) (hb : b = true) : x = r := by rwa [if_pos hb] at h
theorem ZaZ {b : Bool} {x y : β} (h : (if b = true then x else y) = r) (hb : b = false) : y = r := by rwa [if_neg (by simp [hb])] at h
def idx (xs : List α) (i : Int) : Option α := if 0 ≤ i then xs[i.toNat]? else none
theorem Zar {xs : List α} {i : Int} {x : α} (h : idx xs i = some x) : 0 ≤ i ∧ i < xs.length ∧ xs[i.toNat]? = some x := by
 unfold idx at h
 obtain ⟨h1, h2⟩ := Zac h
 have := (List.getElem?_eq_some_iff.1 h2).1
 exact ⟨h1, by omega, h2⟩
theorem Zwx {xs : List α} {i : Nat} (h : i < xs.length) : idx xs (i : Int) = some xs[i] := by simp [idx, h]
theorem Zay {f : α → AV} {xs : List α} {i : Nat} {x : α} (h : xs[i]? = some x) : (xs.map f).getD i .junk = f x := by simp [List.getD, h]
end
abbrev I64 (n : Int) : Prop := -9223372036854775808 ≤ n ∧ n ≤ 9223372036854775807
theorem Zbh {nb nr nl nb' nr' nl' : Nat} {x : AV} (h1 : nb ≤ nb') (h2 : nr ≤ nr') (h3 : nl ≤ nl') (h : Under nb nr nl x) : Under nb' nr' nl' x := by
 induction h with
 | val v => exact .val v
 | list h ho ih => exact .list ih (by rename_i o; cases o <;> first | trivial | exact Nat.lt_of_lt_of_le ho h2)
 | elem h ih => exact .elem ih
 | box h => exact .box (by omega)
 | clo h ih => exact .clo ih
 | agg h ih => exact .agg ih
 | tup h ih => exact .tup ih
 | yld h => exact .yld (by omega)
 | vec h => exact .vec (by omega)
 | vel h => exact .vel (by omega)
def ZwG (lo : Nat) (ho : Own) (rows : List RowA) (x : Nat × Nat × Own) : Prop := x.2.2 = .full ∨ ∃ id, x.2.2 = .row id ∧ (lo ≤ id ∨ ho = .row id) ∧ rows[id]? = some (.grow x.2.1 x.1)
inductive VO where
 | nil
 | row (id ver : Nat)
abbrev VE := VO × Nat × List AV
def VAt (lo : Nat) (rows : List RowA) (x : VE) : Prop := (x.1 = .nil ∧ x.2.2 = []) ∨ ∃ id ver, x.1 = .row id ver ∧ lo ≤ id ∧ rows[id]? = some (.vec ver x.2.1 x.2.2)
def Zvg (v : List VE) (i : Nat) : Prop := ∀ x ∈ v, ∀ ver, x.1 ≠ .row i ver
theorem Zja (i : Nat) : Zvg [] i := fun _ h => (nomatch h)
structure Owns (Rw rows : List RowA) (l : List (Nat × Nat × Own)) (ho : Own := .none) (v : List VE := []) : Prop where
 len : Rw.length ≤ rows.length
 keep : ∀ i, i < Rw.length → ho ≠ .row i → rows[i]? = Rw[i]?
 calm : ∀ i r, rows[i]? = some r → (Rw.length ≤ i ∨ ho = .row i) → Zvg v i → r.cells = []
 each : ∀ x ∈ l, ZwG Rw.length ho rows x
 apart : l.Pairwise fun x y => ∀ id, x.2.2 = .row id → y.2.2 ≠ .row id
 veach : ∀ x ∈ v, VAt Rw.length rows x
 vapart : v.Pairwise fun x y => ∀ id a b, x.1 = .row id a → y.1 ≠ .row id b
section
variable {Rw rows : List RowA} {l : List (Nat × Nat × Own)} {ho : Own} {v : List VE}
theorem Owns.none (Rw : List RowA) : Owns Rw Rw [] := by
 refine ⟨Nat.le_refl _, fun _ _ _ => rfl, fun i r h q _ => ?_, by simp, .nil, by simp, .nil⟩
 have := (List.getElem?_eq_some_iff.1 h).1
 rcases q with q | q
 ·
  omega
 ·
  cases q
theorem Owns.pre (h : Owns Rw rows l .none v) : Rw <+: rows := by
 rw [List.prefix_iff_getElem?]
 intro i hi
 rw [h.keep i hi (fun q => by cases q), List.getElem?_eq_getElem hi]
theorem Owns.sub {l' : List (Nat × Nat × Own)} (h : Owns Rw rows l ho v) (hs : l'.Sublist l) : Owns Rw rows l' ho v :=
 ⟨h.len, h.keep, h.calm, fun x hx => h.each x (hs.subset hx), h.apart.sublist hs, h.veach, h.vapart⟩
theorem Owns.full (h : Owns Rw rows l ho v) (sz n : Nat) : Owns Rw rows ((sz, n, .full) :: l) ho v :=
 ⟨h.len, h.keep, h.calm, fun x hx => by
  rcases List.mem_cons.1 hx with rfl | hx
  ·
   exact .inl rfl
  ·
   exact h.each x hx, List.pairwise_cons.2 ⟨fun _ _ id q => (nomatch q), h.apart⟩, h.veach, h.vapart⟩
theorem VAt.up {lo : Nat} {x : VE} (h : VAt lo rows x) (r : List RowA) : VAt lo (rows ++ r) x := by
 rcases h with h | ⟨id, ver, h1, h2, h3⟩
 ·
  exact .inl h
 ·
  exact .inr ⟨id, ver, h1, h2, by rw [List.getElem?_append_left (List.getElem?_eq_some_iff.1 h3).1]; exact h3⟩
theorem VAt.set {lo : Nat} {x : VE} (h : VAt lo rows x) {i : Nat} (hi : ∀ ver, x.1 ≠ .row i ver) (r : RowA) : VAt lo (rows.set i r) x := by
 rcases h with h | ⟨id, ver, h1, h2, h3⟩
 ·
  exact .inl h
 ·
  exact .inr ⟨id, ver, h1, h2, by rw [List.getElem?_set_ne (fun (e : i = id) => hi ver (by rw [e]; exact h1))]; exact h3⟩
theorem Owns.make (h : Owns Rw rows l ho v) (sz n : Nat) : Owns Rw (rows ++ [.grow n sz]) ((sz, n, .row rows.length) :: l) ho v := by
 have hl := h.len
 refine ⟨by simp; omega, fun i hi hn => ?_, fun i r hr q qv => ?_, fun x hx => ?_, List.pairwise_cons.2 ⟨fun y hy id q k => ?_, h.apart⟩, fun x hx => (h.veach x hx).up _, h.vapart⟩
 ·
  rw [List.getElem?_append_left (by omega)]; exact h.keep i hi hn
 ·
  by_cases hi : i < rows.length
  ·
   rw [List.getElem?_append_left hi] at hr; exact h.calm i r hr q qv
  ·
   rw [List.getElem?_append_right (by omega)] at hr
   have := List.mem_of_getElem? hr
   simp only [List.mem_singleton] at this; subst this; rfl
 ·
  rcases List.mem_cons.1 hx with rfl | hx
  ·
   exact .inr ⟨_, rfl, .inl hl, by simp⟩
  ·
   rcases h.each x hx with q | ⟨id, q1, q2, q3⟩
   ·
    exact .inl q
   ·
    exact .inr ⟨id, q1, q2, by rw [List.getElem?_append_left (List.getElem?_eq_some_iff.1 q3).1]; exact q3⟩
 ·
  rcases h.each y hy with q' | ⟨id', q1, q2, q3⟩
  ·
   rw [q'] at k; cases k
  ·
   rw [q1] at k; cases k; cases q
   exact absurd (List.getElem?_eq_some_iff.1 q3).1 (Nat.lt_irrefl _)
theorem Owns.unders (h : Owns Rw rows l ho v) : ∀ x ∈ l, x.2.2.under rows.length := fun x hx => by
 rcases h.each x hx with q | ⟨id, q1, q2, q3⟩
 ·
  rw [q]; trivial
 ·
  rw [q1]; exact (List.getElem?_eq_some_iff.1 q3).1
theorem Owns.of_eq {l' : List (Nat × Nat × Own)} (h : Owns Rw rows l ho v) (he : l = l') : Owns Rw rows l' ho v := he ▸ h
theorem Owns.swap {l' : List (Nat × Nat × Own)} (h : Owns Rw rows l ho v) (hp : l.Perm l') : Owns Rw rows l' ho v :=
 ⟨h.len, h.keep, h.calm, fun x hx => h.each x (hp.mem_iff.2 hx), (hp.pairwise_iff (R := fun x y : Nat × Nat × Own => ∀ id, x.2.2 = .row id → y.2.2 ≠ .row id) (fun q id a b => q id b a)).1 h.apart, h.veach, h.vapart⟩
theorem Owns.grow_off (h : Owns Rw rows l ho v) {sz n id : Nat} (hx : (sz, n, Own.row id) ∈ l) : Zvg v id := by
 intro x hv ver e
 rcases h.each _ hx with q | ⟨id', q1, q2, q3⟩
 ·
  cases q
 ·
  cases q1
  rcases h.veach x hv with w | ⟨id2, ver2, w1, w2, w3⟩
  ·
   rw [w.1] at e; cases e
  ·
   rw [w1] at e; cases e
   rw [w3] at q3; cases q3
end
theorem Zfe {Rw rows : List RowA} (h : Rw <+: rows) {id : Nat} (hi : Rw.length ≤ id) (x : RowA) : Rw <+: rows.set id x := by
 obtain ⟨t, rfl⟩ := h
 rw [List.set_append_right _ _ hi]
 exact List.prefix_append _ _
theorem Owns.more {Rw rows : List RowA} {l : List (Nat × Nat × Own)} {ho : Own} {v : List VE} {sz n id : Nat} (h : Owns Rw rows ((sz, n, .row id) :: l) ho v) (m : Nat) : Owns Rw (rows.set id (.grow m sz)) ((sz, m, .row id) :: l) ho v := by
 have hoff := h.grow_off (List.mem_cons_self ..)
 obtain ⟨h0, h1, h2, h3, h4, h5, h6⟩ := h
 obtain ⟨hid, hrow⟩ : (Rw.length ≤ id ∨ ho = .row id) ∧ rows[id]? = some (.grow n sz) := by
  rcases h3 _ (List.mem_cons_self ..) with q | ⟨id', q1, q2, q3⟩
  ·
   cases q
  ·
   cases q1; exact ⟨q2, q3⟩
 have hlt := (List.getElem?_eq_some_iff.1 hrow).1
 obtain ⟨p1, p2⟩ := List.pairwise_cons.1 h4
 refine ⟨by simpa using h0, fun i hi hn => ?_, fun i r hr q qv => ?_, fun x hx => ?_, List.pairwise_cons.2 ⟨fun y hy => p1 y hy, p2⟩, fun x hx => (h5 x hx).set (hoff x hx) _, h6⟩
 ·
  have : id ≠ i := by
   rintro rfl
   rcases hid with q | q
   ·
    omega
   ·
    exact hn q
  rw [List.getElem?_set_ne this]; exact h1 i hi hn
 ·
  by_cases e : id = i
  ·
   subst e
   rw [List.getElem?_set_self hlt] at hr
   cases hr; rfl
  ·
   rw [List.getElem?_set_ne e] at hr; exact h2 i r hr q qv
 ·
  rcases List.mem_cons.1 hx with rfl | hx
  ·
   exact .inr ⟨id, rfl, hid, by simp [hlt]⟩
  ·
   rcases h3 x (List.mem_cons_of_mem _ hx) with q | ⟨id', q1, q2, q3⟩
   ·
    exact .inl q
   ·
    have : id' ≠ id := fun e => p1 x hx id rfl (e ▸ q1)
    exact .inr ⟨id', q1, q2, by rw [List.getElem?_set_ne (Ne.symm this)]; exact q3⟩
theorem Owns.inV {Rw rows : List RowA} {l : List (Nat × Nat × Own)} {ho : Own} {v : List VE} (h : Owns Rw rows l ho v) {i : Nat} {r : RowA} (hr : rows[i]? = some r) (hi : ¬ Zvg v i) : ∃ x ∈ v, r.cells = x.2.2 ∧ Rw.length ≤ i := by
 simp only [Zvg, ne_eq, Classical.not_forall, Classical.not_not] at hi
 obtain ⟨x, hx, ver, e⟩ := hi
 rcases h.veach x hx with w | ⟨id, ver', w1, w2, w3⟩
 ·
  rw [w.1] at e; cases e
 ·
  rw [w1] at e; cases e
  rw [w3] at hr; cases hr
  exact ⟨x, hx, rfl, w2⟩
theorem Owns.rowsCalm {Rw rows : List RowA} {l : List (Nat × Nat × Own)} {ho : Own} {v : List VE} (h : Owns Rw rows l ho v) {nb nb' nl : Nat} (hb : nb ≤ nb') (hc : ∀ r ∈ Rw, ∀ x ∈ r.cells, Under nb Rw.length nl x) (hv : ∀ x ∈ v, ∀ y ∈ x.2.2, Under nb' rows.length nl y := by intro x hx; cases hx) : ∀ r ∈ rows, ∀ x ∈ r.cells, Under nb' rows.length nl x := fun r hr x hx => by
 obtain ⟨i, hi, rfl⟩ := List.mem_iff_getElem.1 hr
 have hg : rows[i]? = some rows[i] := List.getElem?_eq_getElem hi
 by_cases qv : Zvg v i
 case neg =>
  obtain ⟨y, hy, e, _⟩ := h.inV hg qv
  rw [e] at hx
  exact hv y hy x hx
 by_cases q : Rw.length ≤ i ∨ ho = .row i
 ·
  rw [h.calm i _ hg q qv] at hx; cases hx
 ·
  have hlt : i < Rw.length := by omega
  have := h.keep i hlt (fun e => q (.inr e))
  rw [hg, List.getElem?_eq_getElem hlt] at this
  rw [Option.some.inj this] at hx
  exact Zbh hb h.len (Nat.le_refl _) (hc _ (List.getElem_mem hlt) x hx)
theorem Owns.call {Rw rows rows' : List RowA} {l : List (Nat × Nat × Own)} {ho o o' : Own} {v : List VE} {sz n n' : Nat} (h : Owns Rw rows ((sz, n, o) :: l) ho v) (hc : Owns rows rows' [(sz, n', o')] o) : Owns Rw rows' ((sz, n', o') :: l) ho v := by
 have hx := h.each _ (List.mem_cons_self ..)
 have hoff : ∀ i, o = .row i → Zvg v i := fun i e => h.grow_off (sz := sz) (n := n) (by rw [← e]; exact List.mem_cons_self ..)
 obtain ⟨p1, p2⟩ := List.pairwise_cons.1 h.apart
 have own : ∀ i, o = .row i → (Rw.length ≤ i ∨ ho = .row i) ∧ i < rows.length := fun i e => by
  rcases hx with q | ⟨id, q1, q2, q3⟩
  ·
   simp only at q; rw [e] at q; cases q
  ·
   simp only at q1; rw [e] at q1; cases q1
   exact ⟨q2, (List.getElem?_eq_some_iff.1 q3).1⟩
 have l1 := h.len
 have l2 := hc.len
 have ho' := hc.each _ (List.mem_cons_self ..)
 refine ⟨by omega, fun i hi hn => ?_, fun i r hr q qv => ?_, fun x hxm => ?_, List.pairwise_cons.2 ⟨fun y hy id e => ?_, p2⟩, fun x hx => ?_, h.vapart⟩
 ·
  have : o ≠ .row i := fun e => by
   rcases (own i e).1 with q | q
   ·
    omega
   ·
    exact hn q
  rw [hc.keep i (by omega) this]; exact h.keep i hi hn
 ·
  by_cases e : rows.length ≤ i ∨ o = .row i
  ·
   exact hc.calm i r hr e (Zja i)
  ·
   rw [hc.keep i (by omega) (fun k => e (.inr k))] at hr
   exact h.calm i r hr q qv
 ·
  rcases List.mem_cons.1 hxm with rfl | hxm
  ·
   rcases ho' with q | ⟨id, q1, q2, q3⟩
   ·
    exact .inl q
   ·
    refine .inr ⟨id, q1, ?_, q3⟩
    rcases q2 with q2 | q2
    ·
     exact .inl (by omega)
    ·
     exact (own id q2).1
  ·
   rcases h.each x (List.mem_cons_of_mem _ hxm) with q | ⟨id, q1, q2, q3⟩
   ·
    exact .inl q
   ·
    refine .inr ⟨id, q1, q2, ?_⟩
    rw [hc.keep id (List.getElem?_eq_some_iff.1 q3).1 (fun e => p1 x hxm id e q1)]
    exact q3
 ·
  intro k
  rcases ho' with q | ⟨id', q1, q2, q3⟩
  ·
   simp only at q e; rw [q] at e; cases e
  ·
   simp only at q1 e
   rw [q1] at e; cases e
   rcases q2 with q2 | q2
   ·
    rcases h.each y (List.mem_cons_of_mem _ hy) with w | ⟨id, w1, w2, w3⟩
    ·
     rw [w] at k; cases k
    ·
     rw [w1] at k; cases k
     have := (List.getElem?_eq_some_iff.1 w3).1
     omega
   ·
    exact p1 y hy _ q2 k
 ·
  rcases h.veach x hx with w | ⟨id, ver, w1, w2, w3⟩
  ·
   exact .inl w
  ·
   refine .inr ⟨id, ver, w1, w2, ?_⟩
   rw [hc.keep id (List.getElem?_eq_some_iff.1 w3).1 (fun e => hoff id e x hx ver w1)]
   exact w3
theorem Owns.append {P : Program} {t el : TypeId} {sz by8 n : Nat} {ag : Bool} {Rw rows : List RowA} {l : List (Nat × Nat × Own)} {o ho : Own} {v : List VE} (h : Owns Rw rows ((sz, n, o) :: l) ho v) (he : elT P t = some (el, sz, ag, by8)) (hz : (Zcj P el).isSome = true) (hs : 0 < sz) (m : Nat)
  (hb : (n + m) * by8 ≤ 140737488355328) (hb2 : n + m ≤ 4611686018427387904) : ∃ o' rows', Owns Rw rows' ((sz, n + m, o') :: l) ho v ∧
   ∀ (xs ys : List AV) (B : List (List AV)) (L : List LoopA) (o2 : Own), xs.length = n → ys.length = m → (∀ y ∈ xs, y.cells.length = sz) →
    Zbo P ⟨B, rows, L⟩ t (.list xs o) (.list ys o2) = ((∀ y ∈ ys, y.cells.length = sz ∧ ZaN y = true), .list (xs ++ ys.map AV.pub) o', ⟨B, rows', L⟩) := by
 have key : ∀ (ys : List AV), ys.length = m → ZbM P el sz by8 n ys = (∀ y ∈ ys, y.cells.length = sz ∧ ZaN y = true) := by
  intro ys hy
  simp only [ZbM, hs, hz, hy, hb, hb2, true_and]
 rcases h.each _ (List.mem_cons_self ..) with q | ⟨id, q1, q2, q3⟩
 ·
  simp only at q; subst q
  have h' := h.sub (List.sublist_cons_self _ _)
  by_cases hm : m = 0
  ·
   subst hm
   refine ⟨.full, rows, h'.full _ _, fun xs ys B L o2 h1 h2 h3 => ?_⟩
   have : ys = [] := List.length_eq_zero_iff.1 h2
   subst this
   simp [Zbo, he, ZaI, Zbw, hs]
  ·
   refine ⟨.row rows.length, rows ++ [.grow (n + m) sz], h'.make _ _, fun xs ys B L o2 h1 h2 h3 => ?_⟩
   simp only [Zbo, he, ZaI, Zbw]
   rw [if_neg (by omega), h1, key ys h2, h2]
   simp only [true_and, Prod.mk.injEq, eq_iff_iff, and_true]
   exact ⟨fun q => q.1, fun q => ⟨q, h3⟩⟩
 ·
  simp only at q1; subst q1
  refine ⟨.row id, _, h.more (n + m), fun xs ys B L o2 h1 h2 h3 => ?_⟩
  simp only [Zbo, he, ZaI, Zbw]
  rw [h1, key ys h2, h2]
  simp only [true_and, Prod.mk.injEq, eq_iff_iff, and_true]
  exact ⟨fun q => q.1, fun q => ⟨q, h3, q3⟩⟩
theorem Zoq {α : Type} {xs : List α} {i : Nat} {x : α} (h : xs[i]? = some x) : xs.drop i = x :: xs.drop (i + 1) := by
 obtain ⟨h1, rfl⟩ := List.getElem?_eq_some_iff.1 h
 exact List.drop_eq_getElem_cons h1
theorem ZaE {M1 : Mem} {B bs bs' XB : List (List AV)} {Rw rows rows' : List RowA} {L XL lp : List LoopA} {la : LoopA} {l l' : List (Nat × Nat × Own)} {oh : Own} (hra : RoundAt M1 ((St.push ⟨B ++ bs, rows, L⟩ la).ext ⟨XB, [], XL⟩)) (ho : Owns Rw rows l oh) (ho' : Owns Rw rows' l' oh) (hlen : bs'.length = bs.length) (hr : rows.length ≤ rows'.length)
  (hlp : lp = (L ++ [la]) ++ XL) (hbs : ∀ cs ∈ bs', ∀ x ∈ cs, Under (B.length + bs.length + XB.length) rows'.length lp.length x) : Calm ((B ++ bs).length + XB.length) rows'.length lp.length ⟨(B ++ bs') ++ XB, rows', lp⟩ := by
 subst hlp
 have hc := hra.calm
 simp only [St.ext, St.push, List.append_nil] at hc
 have e : ((B ++ bs) ++ XB).length = (B ++ bs).length + XB.length := List.length_append
 rw [e] at hc
 refine ⟨fun r h x hx => ?_, fun cs h x hx => ?_, fun a ha k x hx ht => Zbh (Nat.le_refl _) hr (Nat.le_refl _) (hc.loops a ha k x hx ht)⟩
 ·
  obtain ⟨i, hi, rfl⟩ := List.mem_iff_getElem.1 h
  have hg : rows'[i]? = some rows'[i] := List.getElem?_eq_getElem hi
  by_cases q : Rw.length ≤ i ∨ oh = .row i
  ·
   rw [ho'.calm i _ hg q (Zja i)] at hx; cases hx
  ·
   have hlt : i < Rw.length := by omega
   have e1 := ho'.keep i hlt (fun e => q (.inr e))
   have e2 := ho.keep i hlt (fun e => q (.inr e))
   rw [hg, ← e2] at e1
   exact Zbh (Nat.le_refl _) hr (Nat.le_refl _) (hc.rows _ (List.mem_of_getElem? e1.symm) x hx)
 ·
  rcases List.mem_append.1 h with h | h
  ·
   rcases List.mem_append.1 h with h | h
   ·
    exact Zbh (Nat.le_refl _) hr (Nat.le_refl _) (hc.boxes cs (by simp [h]) x hx)
   ·
    have := hbs cs h x hx
    rwa [List.length_append]
  ·
   exact Zbh (Nat.le_refl _) hr (Nat.le_refl _) (hc.boxes cs (by simp [h]) x hx)
section
variable {P : Program} {w0 : World} {n : Nat} {e : Env} {st : St} {M0 : Mem} {W0 : World} {ro : Option Nat} {Q : AQ} {c : Code}
theorem ZuQ (k : Nat) {a : AV} (hk : Zd6 e k = some (true, a)) (h : awp P w0 n M0 W0 ro c Q ((k, true, a.pub) :: e) st) : awp P w0 n M0 W0 ro c Q e st :=
 ZhB _ _ (fun M _ w hr => ⟨M, .refl _ _ _, hr.relabel k _ (by
  have := hr.env k _ hk
  simp only [entryOk, if_true] at this
  exact this.pub)⟩) h
theorem RelSt.pubBox {M : Mem} {w : World} (h : RelSt w0 M st w) {l : Nat} {cs : List AV} (hl : st.boxes[l]? = some cs) : RelSt w0 M { st with boxes := st.boxes.set l (cs.map AV.pubCell) } w := by
 have hlt : l < st.boxes.length := (List.getElem?_eq_some_iff.1 hl).1
 refine ⟨h.below, by simp [h.N], h.NR, h.top, h.inj, fun l' cs' hl' => ?_, h.row, h.rowinj, h.loop⟩
 by_cases q : l' = l
 ·
  subst q
  rw [List.getElem?_set_self hlt] at hl'
  cases hl'
  obtain ⟨a1, a2, c, ty, a3, a4, a5, a6⟩ := h.box l' cs hl
  refine ⟨a1, a2, c, ty, a3, by simp [a4], fun z hz => ?_, fun j h1 h2 => ?_⟩
  ·
   obtain ⟨y, hy, rfl⟩ := List.mem_map.1 hz
   rw [AV.one_pubCell]; exact a5 y hy
  ·
   simp only [List.getElem_map]
   exact (a6 j h1 (by simpa using h2)).pubCell
 ·
  rw [List.getElem?_set_ne (Ne.symm q)] at hl'
  exact h.box l' cs' hl'
theorem Zh0 (l : Nat) {cs cs' : List AV} (hl : st.boxes[l]? = some cs) (he : cs.map AV.pubCell = cs') (h : awp P w0 n M0 W0 ro c Q e { st with boxes := st.boxes.set l cs' }) : awp P w0 n M0 W0 ro c Q e st := by
 subst he
 exact ZhB _ _ (fun M _ w hr => ⟨M, .refl _ _ _, hr.st.pubBox hl, hr.size, hr.env⟩) h
theorem Zd0 {nb nr nl : Nat} {f : FuncId} {cs : List AV} (h : Under nb nr nl (.clo f cs)) : ∀ nb' nr' nl', nb ≤ nb' → nr ≤ nr' → nl ≤ nl' → ∀ x ∈ cs, Under nb' nr' nl' x :=
 fun _ _ _ h1 h2 h3 x hx => Zbh h1 h2 h3 (Zjt.1 h x hx)
theorem ZmX {B0 B bs X : List (List AV)} {Rw rows : List RowA} {L l' : List LoopA} {l : List (Nat × Nat × Own)} {oh : Own} {v : List VE} (hN : M0.N = B0.length) (hNR : M0.NR = Rw.length) (hNL : M0.NL = L.length) (hB : B.length = B0.length) (hc : Calm B0.length Rw.length L.length ⟨B, Rw, L⟩) (ho : Owns Rw rows l oh v)
  (hbs : ∀ cs ∈ bs, ∀ x ∈ cs, Under (B0.length + bs.length) rows.length L.length x) (he : Zb2 (B0.length + bs.length) rows.length L.length e)
  (h : awp P w0 n M0 W0 ro c Q e ⟨B ++ bs, rows, L⟩) (hv : ∀ x ∈ v, ∀ y ∈ x.2.2, Under (B0.length + bs.length) rows.length L.length y := by intro x hx; cases hx) : awp P w0 n M0 W0 ro c Q e ⟨B ++ (bs ++ X), rows, L ++ l'⟩ := by
 rw [← hB] at hN hc hbs he hv
 clear hB B0
 have hl := ho.len
 have e1 : St.cut ⟨B ++ (bs ++ X), rows, L ++ l'⟩ (B.length + bs.length) rows.length L.length = ⟨B ++ bs, rows, L⟩ := by
  simp only [St.cut, List.take_length, ← List.append_assoc]
  rw [List.take_left' (by simp), List.take_left' rfl]
 refine ZjI (B.length + bs.length) rows.length L.length (by simp) (Nat.le_refl _) (by simp) (by omega) (by omega) (by omega) ?_ he (by rw [e1]; exact h)
 rw [e1]
 refine ⟨fun r hr x hx => ?_, fun cs hcs x hx => ?_, fun la hla k x hx ht => ?_⟩
 ·
  exact ho.rowsCalm (by omega) hc.rows hv r hr x hx
 ·
  rcases List.mem_append.1 hcs with hcs | hcs
  ·
   exact Zbh (by omega) (by omega) (Nat.le_refl _) (hc.boxes cs hcs x hx)
  ·
   exact hbs cs hcs x hx
 ·
  exact Zbh (by omega) (by omega) (Nat.le_refl _) (hc.loops la hla k x hx ht)
theorem Zbb {B0 B bs X : List (List AV)} {Rw rows : List RowA} {L : List LoopA} {l : List (Nat × Nat × Own)} {oh : Own} {v : List VE} (hN : M0.N = B0.length) (hNR : M0.NR = Rw.length) (hNL : M0.NL = L.length) (hB : B.length = B0.length) (hc : Calm B0.length Rw.length L.length ⟨B, Rw, L⟩) (ho : Owns Rw rows l oh v)
  (hbs : ∀ cs ∈ bs, ∀ x ∈ cs, Under (B0.length + bs.length) rows.length L.length x) (he : Zb2 (B0.length + bs.length) rows.length L.length e)
  (h : awp P w0 n M0 W0 ro c Q e ⟨B ++ bs, rows, L⟩) (hv : ∀ x ∈ v, ∀ y ∈ x.2.2, Under (B0.length + bs.length) rows.length L.length y := by intro x hx; cases hx) : awp P w0 n M0 W0 ro c Q e ⟨B ++ (bs ++ X), rows, L⟩ := by
 rw [← hB] at hN hc hbs he hv
 clear hB B0
 have hl := ho.len
 have e1 : St.cut ⟨B ++ (bs ++ X), rows, L⟩ (B.length + bs.length) rows.length L.length = ⟨B ++ bs, rows, L⟩ := by
  simp only [St.cut, List.take_length, ← List.append_assoc]
  rw [List.take_left' (by simp)]
 refine ZjI (B.length + bs.length) rows.length L.length (by simp) (Nat.le_refl _) (Nat.le_refl _) (by omega) (by omega) (by omega) ?_ he (by rw [e1]; exact h)
 rw [e1]
 refine ⟨fun r hr x hx => ?_, fun cs hcs x hx => ?_, fun la hla k x hx ht => ?_⟩
 ·
  exact ho.rowsCalm (by omega) hc.rows hv r hr x hx
 ·
  rcases List.mem_append.1 hcs with hcs | hcs
  ·
   exact Zbh (by omega) (by omega) (Nat.le_refl _) (hc.boxes cs hcs x hx)
  ·
   exact hbs cs hcs x hx
 ·
  exact Zbh (by omega) (by omega) (Nat.le_refl _) (hc.loops la hla k x hx ht)
end
section
variable {P : Program} {w0 : World} {st : St}
theorem Znx {c d : Bool} {f : FuncId} {cs args args' : List AV} {k : AV → St → Prop} (v : AV)
  (h : ACalls P w0 f args' st fun r s => r = v ∧ s = st) (he : args ++ cs = args') (hk : k v st) : Zjk P w0 c d (.clo f cs) args st k := .inl ⟨v, fun _ => by
 show ACalls P w0 f (args ++ cs) st _
 rw [he]; exact h, hk⟩
theorem ZaL {d : Bool} {fv : AV} {args : List AV} {k : AV → St → Prop} (h : k .junk st) : Zjk P w0 false d fv args st k := .inl ⟨.junk, fun q => (nomatch q), h⟩
theorem Zbg {B B' X : List (List AV)} {Rw rows : List RowA} {L : List LoopA} {Post : AV → St → Prop} {v : AV} (hc : Calm B.length Rw.length L.length ⟨B', Rw, L⟩) (hB : B'.length = B.length) (h2 : Rw <+: rows) (hu : Under B.length Rw.length L.length v.pubA) (hp : Post v.pubA ⟨B', Rw, L⟩) :
  Go.Ev.finP ⟨B, Rw, L⟩ Post v ⟨B' ++ X, rows, L⟩ := by
 obtain ⟨r, rfl⟩ := h2
 have e : St.cut ⟨B' ++ X, Rw ++ r, L⟩ B.length Rw.length L.length = ⟨B', Rw, L⟩ := by simp [St.cut, ← hB]
 exact ⟨by simp [hB], by simp, by simp, by simp only [e]; exact hc, hu, by simp only [e]; exact hp⟩
end
theorem ZaG {B B' : List (List AV)} {Rw rows : List RowA} {L : List LoopA} {Post : AV → St → Prop} {v : AV} (hc : Calm B.length Rw.length L.length ⟨B', Rw, L⟩) (hB : B'.length = B.length) (h2 : Rw <+: rows) (hu : Under B.length Rw.length L.length v.pubA) (hp : Post v.pubA ⟨B', Rw, L⟩) :
  Go.Ev.finP ⟨B, Rw, L⟩ Post v ⟨B', rows, L⟩ := by
 have := Zbg (X := []) hc hB h2 hu hp
 rwa [List.append_nil] at this
theorem Zaj {nb nr nl : Nat} {B : List (List AV)} {Rw : List RowA} {L : List LoopA} {l : Nat} {cs : List AV} (h : Calm nb nr nl ⟨B, Rw, L⟩) (hc : ∀ x ∈ cs, Under nb nr nl x) : Calm nb nr nl ⟨B.set l cs, Rw, L⟩ :=
 ⟨h.rows, fun ds hd x hx => by
  rcases List.mem_or_eq_of_mem_set hd with hd | rfl
  ·
   exact h.boxes ds hd x hx
  ·
   exact hc x hx, h.loops⟩
theorem ZzL {B B' X : List (List AV)} {Rw rows : List RowA} {L l : List LoopA} {Post : AV → St → Prop} {v : AV} (hc : Calm B.length Rw.length L.length ⟨B', Rw, L⟩) (hB : B'.length = B.length) (h2 : Rw <+: rows) (hu : Under B.length Rw.length L.length v.pubA) (hp : Post v.pubA ⟨B', Rw, L⟩) :
  Go.Ev.finP ⟨B, Rw, L⟩ Post v ⟨B' ++ X, rows, L ++ l⟩ := by
 obtain ⟨r, rfl⟩ := h2
 have e : St.cut ⟨B' ++ X, Rw ++ r, L ++ l⟩ B.length Rw.length L.length = ⟨B', Rw, L⟩ := by simp [St.cut, ← hB]
 exact ⟨by simp [hB], by simp, by simp, by simp only [e]; exact hc, hu, by simp only [e]; exact hp⟩
theorem Zag {B : List (List AV)} {l : Nat} {cs : List AV} (h : B[l]? = some cs) :
  (∀ X R L o, Zc6 ⟨B ++ X, R, L⟩ (.box l o) = true) ∧ (∀ R L o, Zc6 ⟨B, R, L⟩ (.box l o) = true) ∧ (∀ X R L o, Za1 ⟨B ++ X, R, L⟩ (.box l o) = cs) ∧ (∀ R L o, Za1 ⟨B, R, L⟩ (.box l o) = cs) ∧
  (∀ X, (B ++ X)[l]? = some cs) ∧ B[l]? = some cs ∧ (∀ X, (B ++ X).getD l [] = cs) ∧ B.getD l [] = cs ∧ (∀ X c, (B ++ X).set l c = B.set l c ++ X) ∧
  (∀ X R L o c, Zc6 ⟨B.set l c ++ X, R, L⟩ (.box l o) = true) ∧ (∀ R L o c, Zc6 ⟨B.set l c, R, L⟩ (.box l o) = true) ∧ (∀ X R L o c, Za1 ⟨B.set l c ++ X, R, L⟩ (.box l o) = c) ∧ (∀ R L o c, Za1 ⟨B.set l c, R, L⟩ (.box l o) = c) ∧
  (∀ X c, (B.set l c ++ X)[l]? = some c) ∧ (∀ c, (B.set l c)[l]? = some c) ∧ (∀ X c, (B.set l c ++ X).getD l [] = c) ∧ (∀ c, (B.set l c).getD l [] = c) ∧ (∀ X c d, (B.set l c ++ X).set l d = B.set l d ++ X) ∧ (∀ c d, (B.set l c).set l d = B.set l d) ∧ B.set l cs = B := by
 have hl := (List.getElem?_eq_some_iff.1 h).1
 have e1 : ∀ X, (B ++ X)[l]? = some cs := fun X => by rw [List.getElem?_append_left hl]; exact h
 have e2 : ∀ X c, (B.set l c ++ X)[l]? = some c := fun X c => by rw [List.getElem?_append_left (by simpa using hl)]; simp [hl]
 have e3 : ∀ c, (B.set l c)[l]? = some c := fun c => by simp [hl]
 refine ⟨?_, ?_, ?_, ?_, e1, h, ?_, ?_, ?_, ?_, ?_, ?_, ?_, e2, e3, ?_, ?_, ?_, ?_, ?_⟩
 ·
  intro X R L o; simp [Zc6]; omega
 ·
  intro R L o; simp [Zc6, hl]
 ·
  intro X R L o; simp only [Za1, List.getD_eq_getElem?_getD, e1, Option.getD_some]
 ·
  intro R L o; simp only [Za1, List.getD_eq_getElem?_getD, h, Option.getD_some]
 ·
  intro X; rw [List.getD_eq_getElem?_getD, e1]; rfl
 ·
  rw [List.getD_eq_getElem?_getD, h]; rfl
 ·
  intro X c; exact List.set_append_left _ _ hl
 ·
  intro X R L o c; simp [Zc6]; omega
 ·
  intro R L o c; simp [Zc6, hl]
 ·
  intro X R L o c; simp only [Za1, List.getD_eq_getElem?_getD, e2, Option.getD_some]
 ·
  intro R L o c; simp only [Za1, List.getD_eq_getElem?_getD, e3, Option.getD_some]
 ·
  intro X c; rw [List.getD_eq_getElem?_getD, e2]; rfl
 ·
  intro c; rw [List.getD_eq_getElem?_getD, e3]; rfl
 ·
  intro X c d; rw [List.set_append_left _ _ (by simpa using hl), List.set_set]
 ·
  intro c d; exact List.set_set ..
 ·
  obtain ⟨h1, rfl⟩ := List.getElem?_eq_some_iff.1 h; exact List.set_getElem_self _
@[go_sem] theorem Zv4 (B X : List (List AV)) (R : List RowA) (L : List LoopA) (i k o : Nat) (c : List AV) : Zc6 ⟨B.set i c ++ X, R, L⟩ (.box (B.length + k) o) = decide (k < X.length) := by simp [Zc6]
@[go_sem] theorem Zvq (B X : List (List AV)) (R : List RowA) (L : List LoopA) (i o : Nat) (c : List AV) : Zc6 ⟨B.set i c ++ X, R, L⟩ (.box B.length o) = decide (0 < X.length) := by simp [Zc6]
@[go_sem] theorem Zqb (B X : List (List AV)) (i k : Nat) (c : List AV) : (B.set i c ++ X).getD (B.length + k) [] = X.getD k [] := by
 have := Zox (B.set i c) X k
 rwa [List.length_set] at this
@[go_sem] theorem ZpE (B X : List (List AV)) (i : Nat) (c : List AV) : (B.set i c ++ X).getD B.length [] = X.getD 0 [] := by
 have := Zl3 (B.set i c) X
 rwa [List.length_set] at this
@[go_sem] theorem Zuo (B X : List (List AV)) (R : List RowA) (L : List LoopA) (i k o : Nat) (c : List AV) : Za1 ⟨B.set i c ++ X, R, L⟩ (.box (B.length + k) o) = X.getD k [] := Zqb B X i k c
@[go_sem] theorem ZrS (B X : List (List AV)) (R : List RowA) (L : List LoopA) (i o : Nat) (c : List AV) : Za1 ⟨B.set i c ++ X, R, L⟩ (.box B.length o) = X.getD 0 [] := ZpE B X i c
@[go_sem] theorem ZyQ (B X : List (List AV)) (i k : Nat) (c x : List AV) : (B.set i c ++ X).set (B.length + k) x = B.set i c ++ X.set k x := by
 have := ZuW (B.set i c) X k x
 rwa [List.length_set] at this
@[go_sem] theorem ZwU (B X : List (List AV)) (i : Nat) (c x : List AV) : (B.set i c ++ X).set B.length x = B.set i c ++ X.set 0 x := by
 have := ZsU (B.set i c) X x
 rwa [List.length_set] at this
@[go_sem] theorem ZoC (B X : List (List AV)) (i k : Nat) (c : List AV) : (B.set i c ++ X)[B.length + k]? = X[k]? := by
 rw [List.getElem?_append_right (by simp), List.length_set, Nat.add_sub_cancel_left]
@[go_sem] theorem Zm6 (B X : List (List AV)) (i : Nat) (c : List AV) : (B.set i c ++ X)[B.length]? = X[0]? := by
 rw [List.getElem?_append_right (by simp), List.length_set, Nat.sub_self]
attribute [go_sem] List.length_set
theorem ZeC {α : Type} {B B' : List α} {l : Nat} {c : α} (h : B <+: B') (hl : B[l]? = some c) : B'[l]? = some c := by
 obtain ⟨t, rfl⟩ := h
 rw [List.getElem?_append_left (List.getElem?_eq_some_iff.1 hl).1]; exact hl
theorem ZiK {α : Type} {f : α → List AV} (sz : Nat) (hf : ∀ x, (f x).length = sz) : ∀ {xs : List α} {i : Nat} {x : α}, xs[i]? = some x → ((xs.flatMap f).drop (i * sz)).take sz = f x
 | [], i, x, h => by simp at h
 | y :: ys, 0, x, h => by
  simp only [List.getElem?_cons_zero, Option.some.injEq] at h
  subst h
  simp [List.flatMap_cons, ← hf y]
 | y :: ys, i + 1, x, h => by
  simp only [List.getElem?_cons_succ] at h
  rw [List.flatMap_cons, Nat.succ_mul, Nat.add_comm, List.drop_append, hf y, Nat.add_sub_cancel_left, List.drop_eq_nil_of_le (by rw [hf y]; omega), List.nil_append]
  exact ZiK sz hf h
@[go_sem] theorem Zvx (l : List AV) : ZbO l 0 [] = l := by simp [ZbO]
@[go_sem] theorem Ztv (a x : AV) (l xs : List AV) : ZbO (a :: l) 0 (x :: xs) = x :: ZbO l 0 xs := by simp [ZbO]
@[go_sem] theorem ZuK (a : AV) (l xs : List AV) (n : Nat) : ZbO (a :: l) (n + 1) xs = a :: ZbO l n xs := by simp [ZbO, Nat.succ_add]
@[go_sem] theorem ZlM (B l : List (List AV)) (k : Nat) : (B ++ l)[B.length + k]? = l[k]? := by rw [List.getElem?_append_right (by omega), Nat.add_sub_cancel_left]
@[go_sem] theorem Zjd (B l : List (List AV)) : (B ++ l)[B.length]? = l[0]? := by rw [List.getElem?_append_right (by omega), Nat.sub_self]
theorem Owns.enter {Rw rows : List RowA} {l : List (Nat × Nat × Own)} {ho o : Own} {v : List VE} {sz n : Nat} (h : Owns Rw rows ((sz, n, o) :: l) ho v) : Owns rows rows [(sz, n, o)] o := by
 have hx := h.each _ (List.mem_cons_self ..)
 refine ⟨Nat.le_refl _, fun _ _ _ => rfl, fun i r hr q _ => ?_, fun x hm => ?_, by simp, by simp, .nil⟩
 ·
  rcases q with q | q
  ·
   have := (List.getElem?_eq_some_iff.1 hr).1; omega
  ·
   rcases hx with w | ⟨id, w1, w2, w3⟩
   ·
    simp only at w; rw [q] at w; cases w
   ·
    simp only at w1 w3; rw [q] at w1; cases w1
    rw [hr] at w3; rw [Option.some.inj w3]; rfl
 ·
  rw [List.mem_singleton.1 hm]
  rcases hx with w | ⟨id, w1, w2, w3⟩
  ·
   exact .inl w
  ·
   exact .inr ⟨id, w1, .inr w1, w3⟩
theorem Zlp {nb nr nr' nl : Nat} {st : St} (h : Calm nb nr nl st) (hr : nr ≤ nr') : Calm nb nr' nl st :=
 ⟨fun r a x b => Zbh (Nat.le_refl _) hr (Nat.le_refl _) (h.rows r a x b), fun cs a x b => Zbh (Nat.le_refl _) hr (Nat.le_refl _) (h.boxes cs a x b), fun la a k x b c => Zbh (Nat.le_refl _) hr (Nat.le_refl _) (h.loops la a k x b c)⟩
section
variable {P : Program} {w0 : World} {f : FuncId} {st : St}
def finG (st : St) (Post : AV → St → Prop) (r : AV) (s : St) : Prop :=
 st.boxes.length ≤ s.boxes.length ∧ st.rows.length ≤ s.rows.length ∧ st.loops.length ≤ s.loops.length ∧ Calm st.boxes.length s.rows.length st.loops.length (s.cut st.boxes.length s.rows.length st.loops.length) ∧
  Under st.boxes.length s.rows.length st.loops.length r.pubA ∧ Post r.pubA (s.cut st.boxes.length s.rows.length st.loops.length)
theorem ACalls.finG {args : List AV} {Post : AV → St → Prop} (h : ACalls P w0 f args st (finG st Post)) : ACalls P w0 f args st Post := by
 refine ⟨h.1, fun M w vals hst hrow => (h.2 M w vals hst hrow).mono ?_⟩
 rintro en w' ⟨v, M', r, st', h1, ⟨b1, b2, b3, b4, b5, b6⟩, h3, h4, h5⟩
 exact ⟨v, M'.cut st.boxes.length st'.rows.length st.loops.length, r.pubA, _, h1, b6, h3.cut (by have := hst.N; omega) (by have := hst.NR; omega) (by have := hst.loop.NL; omega) (by rw [h4.loop.NL]; exact b3), h4.cut b1 (Nat.le_refl _) b3 b4, h5.pubA.cut b5⟩
theorem ZzT {B B' X : List (List AV)} {R0 rows : List RowA} {L l : List LoopA} {Post : AV → St → Prop} {v : AV} {ow : List (Nat × Nat × Own)} {oh : Own} (ho : Owns R0 rows ow oh) (hc : Calm B.length rows.length L.length ⟨B', R0, L⟩) (hB : B'.length = B.length) (hu : Under B.length rows.length L.length v.pubA) (hp : Post v.pubA ⟨B', rows, L⟩) :
  Go.Ev.finG ⟨B, R0, L⟩ Post v ⟨B' ++ X, rows, L ++ l⟩ := by
 have e : St.cut ⟨B' ++ X, rows, L ++ l⟩ B.length rows.length L.length = ⟨B', rows, L⟩ := by simp [St.cut, ← hB]
 refine ⟨by simp [hB], ho.len, by simp, ?_, hu, by simp only [e]; exact hp⟩
 simp only [e]
 refine ⟨fun r hr x hx => ?_, hc.boxes, hc.loops⟩
 obtain ⟨i, hi, rfl⟩ := List.mem_iff_getElem.1 hr
 have hg : rows[i]? = some rows[i] := List.getElem?_eq_getElem hi
 by_cases q : R0.length ≤ i ∨ oh = .row i
 ·
  rw [ho.calm i _ hg q (Zja i)] at hx; cases hx
 ·
  have hlt : i < R0.length := by omega
  have := ho.keep i hlt (fun e => q (.inr e))
  rw [hg, List.getElem?_eq_getElem hlt] at this
  rw [Option.some.inj this] at hx
  exact hc.rows _ (List.getElem_mem hlt) x hx
end
theorem ZtZ {B B' X : List (List AV)} {R0 rows : List RowA} {L : List LoopA} {Post : AV → St → Prop} {v : AV} {ow : List (Nat × Nat × Own)} {oh : Own} (ho : Owns R0 rows ow oh) (hc : Calm B.length rows.length L.length ⟨B', R0, L⟩) (hB : B'.length = B.length) (hu : Under B.length rows.length L.length v.pubA) (hp : Post v.pubA ⟨B', rows, L⟩) :
  Go.Ev.finG ⟨B, R0, L⟩ Post v ⟨B' ++ X, rows, L⟩ := by
 have := ZzT (X := X) (l := []) ho hc hB hu hp
 rwa [List.append_nil] at this
section
variable {P : Program} {w0 : World} {n : Nat} {e : Env} {st : St} {M0 : Mem} {W0 : World} {ro : Option Nat} {Q : AQ} {c : Code}
theorem Zm3 {B0 B bs X : List (List AV)} {Rw rows : List RowA} {L : List LoopA} {l : List (Nat × Nat × Own)} {oh : Own} (hN : M0.N = B0.length) (hNR : M0.NR = Rw.length) (hNL : M0.NL = L.length) (hB : B.length = B0.length) (hc : Calm B0.length rows.length L.length ⟨B, Rw, L⟩) (ho : Owns Rw rows l oh)
  (hbs : ∀ cs ∈ bs, ∀ x ∈ cs, Under (B0.length + bs.length) rows.length L.length x) (he : Zb2 (B0.length + bs.length) rows.length L.length e)
  (h : awp P w0 n M0 W0 ro c Q e ⟨B ++ bs, rows, L⟩) : awp P w0 n M0 W0 ro c Q e ⟨B ++ (bs ++ X), rows, L⟩ := by
 rw [← hB] at hN hc hbs he
 clear hB B0
 have hl := ho.len
 have e1 : St.cut ⟨B ++ (bs ++ X), rows, L⟩ (B.length + bs.length) rows.length L.length = ⟨B ++ bs, rows, L⟩ := by
  simp only [St.cut, List.take_length, ← List.append_assoc]
  rw [List.take_left' (by simp)]
 refine ZjI (B.length + bs.length) rows.length L.length (by simp) (Nat.le_refl _) (Nat.le_refl _) (by omega) (by omega) (by omega) ?_ he (by rw [e1]; exact h)
 rw [e1]
 refine ⟨fun r hr x hx => ?_, fun cs hcs x hx => ?_, fun la hla k x hx ht => ?_⟩
 ·
  obtain ⟨i, hi, rfl⟩ := List.mem_iff_getElem.1 hr
  have hg : rows[i]? = some rows[i] := List.getElem?_eq_getElem hi
  by_cases q : Rw.length ≤ i ∨ oh = .row i
  ·
   rw [ho.calm i _ hg q (Zja i)] at hx; cases hx
  ·
   have hlt : i < Rw.length := by omega
   have := ho.keep i hlt (fun e => q (.inr e))
   rw [hg, List.getElem?_eq_getElem hlt] at this
   rw [Option.some.inj this] at hx
   exact Zbh (by omega) (Nat.le_refl _) (Nat.le_refl _) (hc.rows _ (List.getElem_mem hlt) x hx)
 ·
  rcases List.mem_append.1 hcs with hcs | hcs
  ·
   exact Zbh (by omega) (Nat.le_refl _) (Nat.le_refl _) (hc.boxes cs hcs x hx)
  ·
   exact hbs cs hcs x hx
 ·
  exact Zbh (by omega) (Nat.le_refl _) (Nat.le_refl _) (hc.loops la hla k x hx ht)
end
def Znk (acc : List Nat) (o : Oper) : Nat := o.after.toList.foldl (fun m e => if Region.binds .any e then m ||| 2 ^ e.on ||| acc.getD e.on 0 else m) 0
def ZfY : List Oper → List Nat → List Nat
 | [], acc => acc
 | o :: os, acc => ZfY os (acc ++ [Znk acc o])
def ZnZ (ms : List Nat) (i j : Nat) : Bool := (ms.getD i 0).testBit j
theorem Zoa (acc : List Nat) (j : Nat) : ∀ (es : List Edge) (m : Nat), (es.foldl (fun m e => if Region.binds .any e then m ||| 2 ^ e.on ||| acc.getD e.on 0 else m) m).testBit j = true → m.testBit j = true ∨ ∃ e ∈ es, Region.binds .any e = true ∧ (e.on = j ∨ ZnZ acc e.on j = true)
 | [], m, h => .inl h
 | e :: es, m, h => by
  simp only [List.foldl_cons] at h
  rcases Zoa acc j es _ h with h | ⟨e', h1, h2⟩
  ·
   by_cases c : Region.binds .any e = true
   ·
    rw [if_pos c] at h
    simp only [Nat.testBit_or, Bool.or_eq_true, Nat.testBit_two_pow, decide_eq_true_eq] at h
    rcases h with (h | h) | h
    ·
     exact .inl h
    ·
     exact .inr ⟨e, List.mem_cons_self .., c, .inl h⟩
    ·
     exact .inr ⟨e, List.mem_cons_self .., c, .inr h⟩
   ·
    rw [if_neg c] at h; exact .inl h
  ·
   exact .inr ⟨e', List.mem_cons_of_mem _ h1, h2⟩
theorem ZkL (acc acc' : List Nat) : ∀ (es : List Edge) (m : Nat), (∀ e ∈ es, Region.binds .any e = true → acc.getD e.on 0 = acc'.getD e.on 0) →
  es.foldl (fun m e => if Region.binds .any e then m ||| 2 ^ e.on ||| acc.getD e.on 0 else m) m = es.foldl (fun m e => if Region.binds .any e then m ||| 2 ^ e.on ||| acc'.getD e.on 0 else m) m
 | [], _, _ => rfl
 | e :: es, m, h => by
  simp only [List.foldl_cons]
  have : (if Region.binds .any e = true then m ||| 2 ^ e.on ||| acc.getD e.on 0 else m) = if Region.binds .any e = true then m ||| 2 ^ e.on ||| acc'.getD e.on 0 else m := by
   by_cases c : Region.binds .any e = true
   ·
    rw [if_pos c, if_pos c, h e (List.mem_cons_self ..) c]
   ·
    rw [if_neg c, if_neg c]
  rw [this]
  exact ZkL acc acc' es _ fun e' h' => h e' (List.mem_cons_of_mem _ h')
theorem Zjp : ∀ (os : List Oper) (acc : List Nat) (i : Nat), i < acc.length → (ZfY os acc).getD i 0 = acc.getD i 0
 | [], _, _, _ => rfl
 | o :: os, acc, i, h => by
  rw [ZfY, Zjp os _ i (by simp; omega), List.getD_eq_getElem?_getD, List.getElem?_append_left h, List.getD_eq_getElem?_getD]
theorem Zoc : ∀ (os : List Oper) (acc : List Nat) (k : Nat) (o : Oper), os[k]? = some o → (∀ (k : Nat) (o : Oper), os[k]? = some o → ∀ e ∈ o.after, Region.binds .any e = true → e.on < acc.length + k) → (ZfY os acc).getD (acc.length + k) 0 = Znk (ZfY os acc) o
 | [], _, _, _, h, _ => by simp at h
 | o' :: os, acc, 0, o, h, hb => by
  simp only [List.getElem?_cons_zero, Option.some.injEq] at h
  subst h
  rw [ZfY, Zjp os _ _ (by simp)]
  have e1 : (acc ++ [Znk acc o']).getD (acc.length + 0) 0 = Znk acc o' := by simp [List.getD_eq_getElem?_getD]
  rw [e1]
  refine ZkL _ _ _ _ fun e he hbd => ?_
  have := hb 0 o' rfl e (by simpa using he) hbd
  rw [Zjp os _ _ (by simp; omega), List.getD_eq_getElem?_getD, List.getD_eq_getElem?_getD, List.getElem?_append_left (by omega)]
 | o' :: os, acc, k + 1, o, h, hb => by
  rw [ZfY]
  have := Zoc os (acc ++ [Znk acc o']) k o (by simpa using h) (fun k o h e he hbd => by
   have := hb (k + 1) o (by simpa using h) e he hbd
   simp; omega)
  rw [List.length_append, List.length_singleton, Nat.add_assoc, Nat.add_comm 1 k] at this
  exact this
def Zjq (ef : List Nat) (ms : List Nat) (i j : Nat) : Bool :=
 if ef.contains i then ef.contains j || ZnZ ms i j else if ef.contains j then ZnZ ms j i else decide (j < i) && ZnZ ms i j
def ZlI (ef : List Nat) (ms : List Nat) (i j : Nat) : Bool :=
 if ef.contains i then ef.contains j || ZnZ ms i j else ef.contains j && ZnZ ms j i
def Zng (l : List Oper) (ef : List Nat) : Bool := (ef.all fun i => decide (i < l.length)) &&
 (List.range l.length).all fun i => match l[i]? with
  | some o => (o.after.toList.all fun e => !Region.binds .any e || decide (e.on < i)) && (List.range l.length).all fun j => match l[j]? with
   | some p => match p.dst with
    | some s => (decide (i = j) || o.dst != some s || ZlI ef (ZfY l []) i j) && (!(ZlV l o).contains s || Zjq ef (ZfY l []) i j)
    | none => true
   | none => true
  | none => true
theorem ZcF {l : List Oper} {ef : List Nat} (hB : Zng l ef = true) {i : Nat} {o : Oper} (ho : l[i]? = some o) :
  (∀ e ∈ o.after, Region.binds .any e = true → e.on < i) ∧ ∀ j p s, l[j]? = some p → p.dst = some s → (o.dst = some s → i = j ∨ ZlI ef (ZfY l []) i j = true) ∧ (s ∈ ZlV l o → Zjq ef (ZfY l []) i j = true) := by
 have h1 := List.all_eq_true.1 (Bool.and_eq_true_iff.1 hB).2 i (List.mem_range.2 (List.getElem?_eq_some_iff.1 ho).1)
 simp only [ho, Bool.and_eq_true] at h1
 refine ⟨fun e he hb => ?_, fun j p s hp hs => ?_⟩
 ·
  have := List.all_eq_true.1 h1.1 e (by simpa using he)
  simpa [hb] using this
 ·
  have h2 := List.all_eq_true.1 h1.2 j (List.mem_range.2 (List.getElem?_eq_some_iff.1 hp).1)
  simp only [hp, hs, Bool.and_eq_true, Bool.or_eq_true, decide_eq_true_eq, bne_iff_ne, Bool.not_eq_true'] at h2
  refine ⟨fun hd => ?_, fun hm => ?_⟩
  ·
   rcases h2.1 with (h | h) | h
   ·
    exact .inl h
   ·
    exact absurd hd h
   ·
    exact .inr h
  ·
   rcases h2.2 with h3 | h3
   ·
    have : (ZlV l o).contains s = true := by simpa using hm
    rw [h3] at this; cases this
   ·
    exact h3
theorem ZkF {l : List Oper} {ef : List Nat} (hB : Zng l ef = true) {listed : Array Bool} (closed : ∀ (j : Nat) (oj : Oper), l[j]? = some oj → listed.getD j false = true → ∀ e ∈ oj.after, Region.binds .any e = true → listed.getD e.on false = true) (j : Nat) :
  ∀ (i : Nat) (o : Oper), l[i]? = some o → (∀ e ∈ o.after, Region.binds .any e = true → listed.getD e.on false = true) → ZnZ (ZfY l []) i j = true → listed.getD j false = true := by
 intro i
 induction i using Nat.strongRecOn with
 | _ i ih =>
  intro o ho ha hanc
  have hm := Zoc l [] i o ho (fun k o h e he hb => by have := (ZcF hB h).1 e he hb; simpa using this)
  simp only [List.length_nil, Nat.zero_add] at hm
  unfold ZnZ at hanc
  rw [hm] at hanc
  rcases Zoa _ _ _ _ hanc with h | ⟨e, h1, h2, h3⟩
  ·
   simp at h
  ·
   have he : e ∈ o.after := by simpa using h1
   have hon := ha e he h2
   have hlt := (ZcF hB ho).1 e he h2
   rcases h3 with rfl | h3
   ·
    exact hon
   ·
    have hil := (List.getElem?_eq_some_iff.1 ho).1
    exact ih e.on hlt _ (List.getElem?_eq_getElem (by omega)) (closed e.on _ (List.getElem?_eq_getElem (by omega)) hon) h3
def Zeu (ef : List Nat) : Nat → List Oper → List Oper
 | _, [] => []
 | i, o :: os => (if ef.contains i then { o with dst := none, op := .move (.const (.bool true)), guard := none } else o) :: Zeu ef (i + 1) os
theorem Zjo (ef : List Nat) : ∀ (l : List Oper) (k i : Nat), (Zeu ef k l)[i]? = (l[i]?).map fun o => if ef.contains (k + i) then { o with dst := none, op := .move (.const (.bool true)), guard := none } else o
 | [], _, _ => by simp [Zeu]
 | o :: os, k, 0 => by simp [Zeu]
 | o :: os, k, i + 1 => by simp only [Zeu, List.getElem?_cons_succ]; rw [Zjo ef os (k + 1) i, Nat.add_assoc, Nat.add_comm 1 i]
theorem Ze6 (ef : List Nat) : ∀ (l : List Oper) (k : Nat), (Zeu ef k l).length = l.length
 | [], _ => rfl
 | o :: os, k => by simp [Zeu, Ze6 ef os]
section
variable {P : Program} {w0 : World} {n : Nat}
def Zc1 (P : Program) (w0 : World) (ev : Env) (s : St) (o : Oper) (v : AV) (s' : St) : Prop :=
 match o.op with
 | .call ⟨.value f, args, _⟩ => ZaK ev true f ∧ (∀ x ∈ args.toList, ZaK ev true x) ∧ ZhH P w0 (Zau ev f) (args.toList.map fun x => argP ev (Zau ev x)) s fun r t => r = v ∧ t = s'
 | op => (Zbt P ev true s op).1 ∧ (Zbt P ev true s op).2.1 = v ∧ (Zbt P ev true s op).2.2 = s'
theorem Zno {ev : Env} {s s' : St} {o : Oper} {v : AV} (hc : ¬ ZgF o.op = true) : Zc1 P w0 ev s o v s' = ((Zbt P ev true s o.op).1 ∧ (Zbt P ev true s o.op).2.1 = v ∧ (Zbt P ev true s o.op).2.2 = s') := by
 obtain ⟨dst, op, type, pos, after, guard⟩ := o
 cases op with
 | call cc =>
  obtain ⟨callee, args, ts⟩ := cc
  cases callee with
  | value f => exact absurd rfl hc
  | _ => rfl
 | _ => rfl
def Zqj (P : Program) (w0 : World) (ev : Env) (s : St) (o : Oper) (Post : AV → St → Prop) : Prop :=
 (ZgF o.op = true ∧ match o.op with
  | .call ⟨.value f, args, _⟩ => ZaK ev true f ∧ (∀ x ∈ args.toList, ZaK ev true x) ∧ ZhH P w0 (Zau ev f) (args.toList.map fun x => argP ev (Zau ev x)) s Post
  | _ => False) ∨ ∃ v s', Zc1 P w0 ev s o v s' ∧ ∀ r t, r = v ∧ t = s' → Post r t
theorem ZmZ {M : Mem} {ev : Env} {s s' : St} {a : Act} {w : World} (h : Rel w0 n M ev s a w) (ro : Option Nat) (m : Nat) {o : Oper} {v : AV} (hv : Zc1 P w0 ev s o v s')
  (Q : Exit → Act → World → Prop) (K : Act → World → Prop) (hK : ∀ u w' M', Ext w0 M w M' w' → RelSt w0 M' s' w' → R w0 M' w' u v → K (a.put o.dst u) w') : o.wpIn (FW ro) m P a w K Q := by
 by_cases hc : ZgF o.op = true
 ·
  obtain ⟨dst, op, type, pos, after, guard⟩ := o
  cases op <;> try cases hc
  rename_i cc
  obtain ⟨callee, args, ts⟩ := cc
  cases callee <;> try cases hc
  rename_i f
  obtain ⟨b1, b2, b3⟩ := hv
  refine ZfC h ro m b1 b2 b3 Q _ (fun r t hp u w' M' hx hst hu => ?_)
  obtain ⟨rfl, rfl⟩ := hp
  exact hK u w' M' hx hst hu
 ·
  rw [Zno hc] at hv
  obtain ⟨b1, b2, b3⟩ := hv
  refine Zjl h ro m o b1 Q _ (fun u w' M' hx hst hu => ?_)
  rw [b3] at hst
  rw [b2] at hu
  exact hK u w' M' hx hst hu
theorem Zn2 {M : Mem} {ev : Env} {s : St} {a : Act} {w : World} (h : Rel w0 n M ev s a w) (ro : Option Nat) (m : Nat) {o : Oper} {Post : AV → St → Prop} (hv : Zqj P w0 ev s o Post)
  (Q : Exit → Act → World → Prop) (K : Act → World → Prop) (hK : ∀ v s' u w' M', Post v s' → Ext w0 M w M' w' → RelSt w0 M' s' w' → R w0 M' w' u v → K (a.put o.dst u) w') : o.wpIn (FW ro) m P a w K Q := by
 rcases hv with ⟨hc, hv⟩ | ⟨v, s', hv, hp⟩
 ·
  obtain ⟨dst, op, type, pos, after, guard⟩ := o
  cases op <;> try cases hc
  rename_i cc
  obtain ⟨callee, args, ts⟩ := cc
  cases callee <;> try cases hc
  rename_i f
  obtain ⟨b1, b2, b3⟩ := hv
  exact ZfC h ro m b1 b2 b3 Q _ (fun r t hp u w' M' hx hst hu => hK r t u w' M' hp hx hst hu)
 ·
  exact ZmZ h ro m hv Q K fun u w' M' hx hst hu => hK v s' u w' M' (hp _ _ ⟨rfl, rfl⟩) hx hst hu
def Good (P : Program) (w0 : World) (n : Nat) (l : List Oper) (ef : List Nat) (F : St → Prop) (T : Env → St → Prop) : Nat → List Nat → Env → St → Prop
 | 0, _, _, _ => False
 | k + 1, dn, ev, s => F s ∧ ((ef.all fun i => dn.contains i) = true → T ev s) ∧ ∀ i ∈ ef, dn.contains i = false → (ef.all fun j => !ZnZ (ZfY l []) i j || dn.contains j) = true →
   ∃ o, l[i]? = some o ∧ o.guard = none ∧ ZhC n o.dst ∧ ∃ Post : AV → St → Prop, Zqj P w0 (ZdJ true l o ev) s o Post ∧ ∀ v s', Post v s' → Good P w0 n l ef F T k (i :: dn) (Zkg ev o.dst true v) s'
structure AInv (w0 : World) (n : Nat) (l : List Oper) (ef : List Nat) (e e1 : Env) (M1 : Mem) (w1 : World) (ds : List Deferred) (dn : List Nat) (ev : Env) (s : St) (listed : Array Bool) (a : Act) (w : World) (M : Mem) : Prop where
 size : listed.size = l.length
 closed : ∀ (j : Nat) (oj : Oper), l[j]? = some oj → listed.getD j false = true → ∀ e ∈ oj.after, Region.binds .any e = true → listed.getD e.on false = true
 eff : ∀ i ∈ ef, (listed.getD i false = true ↔ i ∈ dn)
 sub : ∀ i ∈ dn, i ∈ ef
 rel : RelSt w0 M s w
 tmps : a.tmps.size = n
 defers : a.defers = ds
 ext : Ext w0 M1 w1 M w
 evn : ∀ t, (∀ j ∈ dn, ∀ o, l[j]? = some o → o.dst ≠ some t) → Zd6 ev t = Zd6 e1 t
 done : ∀ t x, (∃ j ∈ dn, ∃ o, l[j]? = some o ∧ o.dst = some t) → Zd6 ev t = some x → entryOk w0 M w (a.tmps.getD t undef) x
 new : ∀ t x, (∀ j ∈ dn, ∀ o, l[j]? = some o → o.dst ≠ some t) → (∃ i o, i ∉ ef ∧ l[i]? = some o ∧ o.dst = some t ∧ listed.getD i false = true) → Zd6 e1 t = some x → entryOk w0 M w (a.tmps.getD t undef) x
 old : ∀ t x, (∀ i o, l[i]? = some o → o.dst = some t → listed.getD i false = false) → Zd6 e t = some x → entryOk w0 M w (a.tmps.getD t undef) x
theorem Zmf {l : List Oper} {ef : List Nat} {e e1 : Env} {F : St → Prop} {T : Env → St → Prop} {M1 : Mem} {w1 : World} {ds : List Deferred} {ro : Option Nat} {m : Nat} {Q : Exit → Act → World → Prop} (hB : Zng l ef = true)
  (hF : ∀ s, F s → ∃ c, evK P w0 n true l (fun e' s' => e' = e1 ∧ s' = s) c (Zeu ef 0 l) e s)
  (hT : ∀ ev s M a w, T ev s → Rel w0 n M ev s a w → Ext w0 M1 w1 M w → a.defers = ds → Q .normal a w) :
  ∀ fuel listed a w M k dn ev s, fuel = listed.toList.count false → Good P w0 n l ef F T k dn ev s → AInv w0 n l ef e e1 M1 w1 ds dn ev s listed a w M → wpAnyIn (FW ro) m P .any l.toArray Q fuel listed a w := by
 -- what the trail of the operations apart from the effects tells
 have trail : ∀ s, F s → ∃ E C V, Trail P w0 n l (Zeu ef 0 l) e s E C V ∧ E l.length = e1 := by
  intro s hs
  obtain ⟨c, hc⟩ := hF s hs
  obtain ⟨E, C, V, h1, h2, _⟩ := Zlx c _ _ hc
  rw [Ze6] at h2
  exact ⟨E, C, V, h1, h2⟩
 have flt : ∀ {i : Nat} {o : Oper}, i ∉ ef → l[i]? = some o → (Zeu ef 0 l)[i]? = some o := by
  intro i o hi ho
  rw [Zjo, ho]
  simp [hi]
 have flt' : ∀ {i : Nat} {o : Oper} {t : Nat}, (Zeu ef 0 l)[i]? = some o → o.dst = some t → i ∉ ef ∧ l[i]? = some o := by
  intro i o t hi hd
  rw [Zjo] at hi
  cases hl : l[i]? with
  | none => simp [hl] at hi
  | some p =>
   rw [hl] at hi
   simp only [Option.map_some, Nat.zero_add, Option.some.injEq] at hi
   by_cases c : i ∈ ef
   ·
    simp [c] at hi
    subst hi
    cases hd
   ·
    simp [c] at hi
    subst hi
    exact ⟨c, rfl⟩
 have uniq : ∀ (i j : Nat) (o p : Oper) (t : Nat), (Zeu ef 0 l)[i]? = some o → (Zeu ef 0 l)[j]? = some p → o.dst = some t → p.dst = some t → i = j := by
  intro i j o p t hi hj h1 h2
  obtain ⟨a1, a2⟩ := flt' hi h1
  obtain ⟨b1, b2⟩ := flt' hj h2
  rcases ((ZcF hB a2).2 j p t b2 h2).1 h1 with h | h
  ·
   exact h
  ·
   simp [ZlI, a1, b1] at h
 have noE1 : ∀ s, F s → ∀ t, (∀ i o, i ∉ ef → l[i]? = some o → o.dst ≠ some t) → Zd6 e1 t = Zd6 e t := by
  intro s hs t ht
  obtain ⟨E, C, V, T', he⟩ := trail s hs
  have := (ZgW T' uniq t l.length (by rw [Ze6]; exact Nat.le_refl _)).1 fun i o _ hi hd => by
   obtain ⟨a1, a2⟩ := flt' hi hd
   exact ht i o a1 a2 hd
  rw [he] at this
  exact this
 intro fuel
 induction fuel with
 | zero =>
  intro listed a w M k dn ev s hf hg inv
  have hall : ∀ j, j < l.length → listed.getD j false = true := by
   intro j hj
   cases hq : listed.getD j false with
   | true => rfl
   | false =>
    exfalso
    have hj' : j < listed.size := by rw [inv.size]; omega
    have : false ∈ listed.toList := by
     have e1 : listed[j] = false := by simpa [hj'] using hq
     rw [← e1]; simp
    have := List.count_pos_iff.2 this
    omega
  cases k with
  | zero => exact hg.elim
  | succ k =>
  obtain ⟨g1, g2, _⟩ := hg
  have hdn : (ef.all fun i => dn.contains i) = true := by
   refine List.all_eq_true.2 fun i hi => ?_
   have c : i < l.length := by simpa using List.all_eq_true.1 (Bool.and_eq_true_iff.1 hB).1 i hi
   simpa using (inv.eff i hi).1 (hall i c)
  refine ⟨?_, hT ev s M a w (g2 hdn) ⟨inv.rel, inv.tmps, fun t x hx => ?_⟩ inv.ext inv.defers⟩
  ·
   refine List.eq_nil_iff_forall_not_mem.2 fun i hi => ?_
   obtain ⟨hun, o, ho, _⟩ := mem_ready.1 hi
   have ho' : l[i]? = some o := by simpa using ho
   have := hall i (List.getElem?_eq_some_iff.1 ho').1
   obtain ⟨q1, q2⟩ := ZpB hun
   obtain ⟨q3, q4⟩ := Zp1 this
   rw [q2] at q4; cases q4
  ·
   by_cases A : ∃ j ∈ dn, ∃ o, l[j]? = some o ∧ o.dst = some t
   ·
    exact inv.done t x A hx
   ·
    have A' : ∀ j ∈ dn, ∀ o, l[j]? = some o → o.dst ≠ some t := fun j hj o ho hd => A ⟨j, hj, o, ho, hd⟩
    rw [inv.evn t A'] at hx
    by_cases Bf : ∃ i o, i ∉ ef ∧ l[i]? = some o ∧ o.dst = some t
    ·
     obtain ⟨i, o, b1, b2, b3⟩ := Bf
     exact inv.new t x A' ⟨i, o, b1, b2, b3, hall i (List.getElem?_eq_some_iff.1 b2).1⟩ hx
    ·
     rw [noE1 s g1 t fun i o b1 b2 b3 => Bf ⟨i, o, b1, b2, b3⟩] at hx
     refine inv.old t x (fun i o ho hd => ?_) hx
     by_cases c : i ∈ ef
     ·
      exact absurd hd (A' i ((inv.eff i c).1 (hall i (List.getElem?_eq_some_iff.1 ho).1)) o ho)
     ·
      exact absurd ⟨i, o, c, ho, hd⟩ Bf
 | succ fuel ih =>
  intro listed a w M k dn ev s hf hg inv
  cases k with
  | zero => exact hg.elim
  | succ k =>
  obtain ⟨g1, g2, g3⟩ := hg
  have hsome : ∃ j, j < l.length ∧ listed.getD j false = false ∧ ∀ i, i < j → listed.getD i false = true := by
   refine ZjR fun hall => ?_
   have : 0 < listed.toList.count false := by omega
   have hm := List.count_pos_iff.1 this
   obtain ⟨i, hi, he⟩ := List.mem_iff_getElem.1 hm
   have hi' : i < listed.size := by simpa using hi
   have := hall i (by rw [← inv.size]; exact hi')
   simp only [Array.getD_eq_getD_getElem?, Array.getElem?_eq_getElem hi', Option.getD_some] at this
   rw [Array.getElem_toList] at he
   rw [he] at this; cases this
  obtain ⟨k0, hk1, hk2, hk3⟩ := hsome
  have hk' : k0 < listed.size := by rw [inv.size]; omega
  have hkl : l[k0]? = some l[k0] := List.getElem?_eq_getElem hk1
  have hready : k0 ∈ Region.ready .any l.toArray listed :=
   mem_ready.2 ⟨by simpa [hk'] using hk2, l[k0], by simp, fun ed he hb => hk3 _ ((ZcF hB hkl).1 ed he hb)⟩
  refine ⟨fun h0 => absurd hready (by rw [h0]; simp), fun i hi => ?_⟩
  obtain ⟨hun, o, ho, haft⟩ := mem_ready.1 hi
  have ho' : l[i]? = some o := by simpa using ho
  have hil : i < l.length := (List.getElem?_eq_some_iff.1 ho').1
  have hi' : i < listed.size := by rw [inv.size]; omega
  have hunl : listed.getD i false = false := by simpa [hi'] using hun
  have hanc : ∀ j, ZnZ (ZfY l []) i j = true → listed.getD j false = true := fun j hj => ZkF hB inv.closed j i o ho' haft hj
  have hcnt : fuel = (listed.setIfInBounds i true).toList.count false := by
   have hiu : listed[i] = false := by simpa [hi'] using hun
   have hpos : 0 < listed.toList.count false := List.count_pos_iff.2 (by rw [← hiu]; simp)
   rw [Array.toList_setIfInBounds, List.count_set (by simpa using hi')]
   simp only [Array.getElem_toList, hiu]
   rw [if_pos (show (false == false) = true from rfl), if_neg (show ¬ (true == false) = true by decide)]
   omega
  have hclosed : ∀ (j : Nat) (oj : Oper), l[j]? = some oj → (listed.setIfInBounds i true).getD j false = true → ∀ ed ∈ oj.after, Region.binds .any ed = true → (listed.setIfInBounds i true).getD ed.on false = true := by
   intro j oj hj hl ed he hb
   rw [Zck hi'] at hl ⊢
   split
   ·
    rfl
   ·
    by_cases c : i = j
    ·
     subst c
     rw [ho'] at hj; cases hj
     exact haft ed he hb
    ·
     rw [if_neg c] at hl
     exact inv.closed j oj hj hl ed he hb
  unfold wpOpIn
  simp only [ho]
  by_cases hie : i ∈ ef
  ·
   -- an effect
   have hnd : dn.contains i = false := by
    cases hq : dn.contains i with
    | false => rfl
    | true => have := (inv.eff i hie).2 (by simpa using hq); rw [hunl] at this; cases this
   obtain ⟨o2, q1, q2, q3, Post, q4, q5'⟩ := g3 i hie hnd (by
    refine List.all_eq_true.2 fun j hj => ?_
    cases hq : ZnZ (ZfY l []) i j with
    | false => rfl
    | true => simpa using (inv.eff j hj).1 (hanc j hq))
   rw [ho'] at q1; cases q1
   have hrel : Rel w0 n M (ZdJ true l o ev) s a w := by
    refine ⟨inv.rel, inv.tmps, fun t x hs => ?_⟩
    simp only [ZdJ, if_true] at hs
    have hm := Zgt _ _ _ _ hs
    have hx := ZeE _ _ _ _ hs
    by_cases A : ∃ j ∈ dn, ∃ o, l[j]? = some o ∧ o.dst = some t
    ·
     exact inv.done t x A hx
    ·
     have A' : ∀ j ∈ dn, ∀ o, l[j]? = some o → o.dst ≠ some t := fun j hj o ho hd => A ⟨j, hj, o, ho, hd⟩
     rw [inv.evn t A'] at hx
     by_cases Bf : ∃ i o, i ∉ ef ∧ l[i]? = some o ∧ o.dst = some t
     ·
      obtain ⟨j, p, b1, b2, b3⟩ := Bf
      have hl := ((ZcF hB ho').2 j p t b2 b3).2 hm
      have : ZnZ (ZfY l []) i j = true := by simpa [Zjq, hie, b1] using hl
      exact inv.new t x A' ⟨j, p, b1, b2, b3, hanc j this⟩ hx
     ·
      rw [noE1 s g1 t fun i o b1 b2 b3 => Bf ⟨i, o, b1, b2, b3⟩] at hx
      refine inv.old t x (fun j p hp hd => ?_) hx
      by_cases c : j ∈ ef
      ·
       cases hq : listed.getD j false with
       | false => rfl
       | true => exact absurd hd (A' j ((inv.eff j c).1 hq) p hp)
      ·
       exact absurd ⟨j, p, c, hp, hd⟩ Bf
   have hw : Region.wanted o (yielded l.toArray a.tmps) = true := by simp [Region.wanted, q2]
   rw [hw, if_pos rfl]
   refine Zn2 hrel ro m q4 Q _ fun v s' u w' M' hpost hx hst hu => ?_
   have q5 := q5' v s' hpost
   have keep : ∀ t x, o.dst ≠ some t → entryOk w0 M w (a.tmps.getD t undef) x → entryOk w0 M' w' ((a.put o.dst u).tmps.getD t undef) x := by
    intro t x hne h1
    rw [ZfQ a o.dst u t (by rw [inv.tmps]; exact q3), if_neg hne]
    exact h1.mono hx
   refine ih _ _ _ M' k (i :: dn) _ s' hcnt q5 ⟨by simp [inv.size], hclosed, fun j hj => ?_, fun j hj => ?_, hst, by rw [Zjb]; exact inv.tmps, by rw [Zft]; exact inv.defers, inv.ext.trans hx, fun t ht => ?_, fun t x hA hx' => ?_, fun t x hA hN hx' => ?_, fun t x hO hx' => ?_⟩
   ·
    rw [Zck hi']
    by_cases c : i = j
    ·
     subst c; simp
    ·
     rw [if_neg c, inv.eff j hj]; simp [Ne.symm c]
   ·
    rcases List.mem_cons.1 hj with rfl | hj
    ·
     exact hie
    ·
     exact inv.sub j hj
   ·
    have hne := ht i (List.mem_cons_self ..) o ho'
    have : Zd6 (Zkg ev o.dst true v) t = Zd6 ev t := by
     cases hd : o.dst with
     | none => rfl
     | some d => rw [hd] at hne; simp only [Zkg, Zd6]; rw [if_neg (fun h => hne (by rw [h]))]
    rw [this]
    exact inv.evn t fun j hj => ht j (List.mem_cons_of_mem _ hj)
   ·
    by_cases c : o.dst = some t
    ·
     rw [c] at hx'
     simp only [Zkg, Zd6, if_true, Option.some.injEq] at hx'
     subst hx'
     rw [ZfQ a o.dst u t (by rw [inv.tmps]; exact q3), if_pos c]
     simpa only [entryOk, if_true] using hu
    ·
     have : Zd6 (Zkg ev o.dst true v) t = Zd6 ev t := by
      cases hd : o.dst with
      | none => rfl
      | some d => rw [hd] at c; simp only [Zkg, Zd6]; rw [if_neg (fun h => c (by rw [h]))]
     rw [this] at hx'
     refine keep t x c (inv.done t x ?_ hx')
     obtain ⟨j, hj, p, hp, hd⟩ := hA
     rcases List.mem_cons.1 hj with rfl | hj
     ·
      rw [ho'] at hp; cases hp; exact absurd hd c
     ·
      exact ⟨j, hj, p, hp, hd⟩
   ·
    have hne := hA i (List.mem_cons_self ..) o ho'
    refine keep t x hne (inv.new t x (fun j hj => hA j (List.mem_cons_of_mem _ hj)) ?_ hx')
    obtain ⟨j, p, b1, b2, b3, b4⟩ := hN
    rw [Zck hi'] at b4
    by_cases c : i = j
    ·
     subst c; exact absurd hie b1
    ·
     rw [if_neg c] at b4; exact ⟨j, p, b1, b2, b3, b4⟩
   ·
    have hne : o.dst ≠ some t := fun hd => by
     have := hO i o ho' hd
     rw [Zck hi', if_pos rfl] at this; cases this
    refine keep t x hne (inv.old t x (fun j p hp hd => ?_) hx')
    have := hO j p hp hd
    rw [Zck hi'] at this
    by_cases c : i = j
    ·
     rw [if_pos c] at this; cases this
    ·
     rwa [if_neg c] at this
  ·
   -- one of the others
   obtain ⟨E, C, V, T', he⟩ := trail s g1
   have hsk := flt hie ho'
   obtain ⟨t1, t2, t3, t4, t5⟩ := T'.step i o hsk
   have look1 : ∀ t j, j ≤ l.length → _ := fun t j hj => ZgW T' uniq t j (by rw [Ze6]; exact hj)
   have noDone : ∀ j ∈ dn, ∀ p, l[j]? = some p → ZnZ (ZfY l []) j i = true → False := by
    intro j hj p hp hjx
    have hjl := (inv.eff j (inv.sub j hj)).2 hj
    have := ZkF hB inv.closed i j p hp (inv.closed j p hp hjl) hjx
    rw [hunl] at this; cases this
   have hrel : Rel w0 n M (ZdJ true l o (E i)) s a w := by
    refine ⟨inv.rel, inv.tmps, fun t x hs => ?_⟩
    simp only [ZdJ, if_true] at hs
    have hm := Zgt _ _ _ _ hs
    have hx := ZeE _ _ _ _ hs
    have A' : ∀ j ∈ dn, ∀ p, l[j]? = some p → p.dst ≠ some t := by
     intro j hj p hp hd
     have hl := ((ZcF hB ho').2 j p t hp hd).2 hm
     have hje := inv.sub j hj
     exact noDone j hj p hp (by simpa [Zjq, hie, hje] using hl)
    by_cases Bf : ∃ i o, i ∉ ef ∧ l[i]? = some o ∧ o.dst = some t
    ·
     obtain ⟨j, p, b1, b2, b3⟩ := Bf
     have hl := ((ZcF hB ho').2 j p t b2 b3).2 hm
     have hl' : j < i ∧ ZnZ (ZfY l []) i j = true := by simpa [Zjq, hie, b1] using hl
     have e2 := (look1 t i (Nat.le_of_lt hil)).2 j p hl'.1 (flt b1 b2) b3
     have e3 := (look1 t l.length (Nat.le_refl _)).2 j p (by omega) (flt b1 b2) b3
     rw [e2] at hx
     rw [he] at e3
     exact inv.new t x A' ⟨j, p, b1, b2, b3, hanc j hl'.2⟩ (e3.trans hx)
    ·
     have := (look1 t i (Nat.le_of_lt hil)).1 fun j p _ hj hd => by
      obtain ⟨a1, a2⟩ := flt' hj hd
      exact Bf ⟨j, p, a1, a2, hd⟩
     rw [this] at hx
     refine inv.old t x (fun j p hp hd => ?_) hx
     by_cases c : j ∈ ef
     ·
      cases hq : listed.getD j false with
      | false => rfl
      | true => exact absurd hd (A' j ((inv.eff j c).1 hq) p hp)
     ·
      exact absurd ⟨j, p, c, hp, hd⟩ Bf
   refine ZjS hrel ro m t2 (by rw [t4]; exact t5) Q _ fun u w' M' hx hst hu => ?_
   rw [t4] at hu
   have keep : ∀ t x, o.dst ≠ some t → entryOk w0 M w (a.tmps.getD t undef) x → entryOk w0 M' w' ((a.put o.dst u).tmps.getD t undef) x := by
    intro t x hne h1
    rw [ZfQ a o.dst u t (by rw [inv.tmps]; exact t3), if_neg hne]
    exact h1.mono hx
   have noA : ∀ t, o.dst = some t → ∀ j ∈ dn, ∀ p, l[j]? = some p → p.dst ≠ some t := by
    intro t hd j hj p hp hd'
    have hje := inv.sub j hj
    rcases ((ZcF hB ho').2 j p t hp hd').1 hd with h | h
    ·
     subst h; exact hie hje
    ·
     exact noDone j hj p hp (by simpa [ZlI, hie, hje] using h)
   refine ih _ _ _ M' (k + 1) dn ev s hcnt ⟨g1, g2, g3⟩ ⟨by simp [inv.size], hclosed, fun j hj => ?_, inv.sub, hst, by rw [Zjb]; exact inv.tmps, by rw [Zft]; exact inv.defers, inv.ext.trans hx, inv.evn, fun t x hA hx' => ?_, fun t x hA hN hx' => ?_, fun t x hO hx' => ?_⟩
   ·
    rw [Zck hi', if_neg (fun (h : i = j) => hie (h ▸ hj))]
    exact inv.eff j hj
   ·
    refine keep t x (fun hd => ?_) (inv.done t x hA hx')
    obtain ⟨j, hj, p, hp, hd'⟩ := hA
    exact noA t hd j hj p hp hd'
   ·
    by_cases c : o.dst = some t
    ·
     rw [ZfQ a o.dst u t (by rw [inv.tmps]; exact t3), if_pos c]
     have e3 := (look1 t l.length (Nat.le_refl _)).2 i o hil hsk c
     rw [he, hx'] at e3
     cases e3
     exact hu
    ·
     refine keep t x c (inv.new t x hA ?_ hx')
     obtain ⟨j, p, b1, b2, b3, b4⟩ := hN
     rw [Zck hi'] at b4
     by_cases c' : i = j
     ·
      subst c'; rw [ho'] at b2; cases b2; exact absurd b3 c
     ·
      rw [if_neg c'] at b4; exact ⟨j, p, b1, b2, b3, b4⟩
   ·
    have hne : o.dst ≠ some t := fun hd => by
     have := hO i o ho' hd
     rw [Zck hi', if_pos rfl] at this; cases this
    refine keep t x hne (inv.old t x (fun j p hp hd => ?_) hx')
    have := hO j p hp hd
    rw [Zck hi'] at this
    by_cases c : i = j
    ·
     rw [if_pos c] at this; cases this
    ·
     rwa [if_neg c] at this
def Conv (w0 : World) (n nb : Nat) (e : Env) (s : St) (e' : Env) (s' : St) : Prop := ∀ M a w, Rel w0 n M e s a w → ∃ M', (∀ Ms ws, Ms.N = nb → Ext w0 Ms ws M w → Ext w0 Ms ws M' w) ∧ Rel w0 n M' e' s' a w
theorem ZgK {M0 : Mem} {W0 : World} {ro : Option Nat} {Q : AQ} {e : Env} {st : St} (hm : P.follows .mixedOrders = true) (ef : List Nat) (L : List Nat) {id : Nat} {l : List Oper} (hB : Zng l ef = true) (F : St → Prop) (k nb : Nat) {e1 e2 : Env} {s2 : St} (hnb : st.boxes.length = nb)
  (hF : ∀ s, F s → ∃ c, evK P w0 n true l (fun e' s' => e' = e1 ∧ s' = s) c (Zeu ef 0 l) e s) (hG : Good P w0 n l ef F (fun ev s => Conv w0 n nb ev s e2 s2) k [] e1 st) (hQ : Q .normal (Zc0 L e2) s2) : awp P w0 n M0 W0 ro (.region id l.toArray true) Q e st := by
 intro m M a w hr
 obtain ⟨d1, d2⟩ := hr.rel.st.drew
 refine wpIn_region_any hm (Zmf (e := e) (e1 := e1) (M1 := M) (w1 := w) (ds := a.defers) hB hF (fun ev s M' a' w' hc hrel hx hd => ?_) _ _ a _ M k [] e1 st ?_ hG ?_)
 ·
  obtain ⟨M2, x2, r2⟩ := hc M' a' w' hrel
  have x3 := x2 M w (hr.rel.st.N.trans hnb) hx
  refine ⟨M2, _, _, ⟨r2.sub (Za6 L _), hr.ext.trans x3, ?_⟩, hQ⟩
  rw [hd]
  exact hr.marks.later x3 hr.rel.st
 ·
  simp
 ·
  have hnl : ∀ j, (Array.replicate l.toArray.size false).getD j false = false := fun j => by
   by_cases c : j < l.length
   ·
    simp [Array.getD_eq_getD_getElem?, c]
   ·
    simp [Array.getD_eq_getD_getElem?, c]
  exact ⟨by simp, fun j _ _ hl => (by rw [hnl] at hl; cases hl), fun i _ => (by rw [hnl]; simp), fun _ h => (nomatch h), d1, hr.rel.size, rfl, d2, fun _ _ => rfl, fun _ _ ⟨_, h, _⟩ => (nomatch h),
   fun _ _ _ ⟨i, _, _, _, _, h⟩ => (by rw [hnl] at h; cases h), fun t x _ hs => (hr.rel.env t x hs).mono d2⟩
theorem ZdD (L : List Nat) {nb : Nat} {e e' : Env} {s : St} (h : Zc0 L e = e') : Conv w0 n nb e s e' s := fun M _ w hr => ⟨M, fun _ _ _ h => h, by rw [← h]; exact hr.sub (Za6 L e)⟩
def ZxF (l : List Oper) (ef dn : List Nat) : List Nat := ef.filter fun i => !dn.contains i && ef.all fun j => !ZnZ (ZfY l []) i j || dn.contains j
theorem Good.mk {l : List Oper} {ef dn : List Nat} {F : St → Prop} {T : Env → St → Prop} {k : Nat} {ev : Env} {s : St} (rs : List Nat) (hr : ZxF l ef dn = rs) (hF : F s) (hT : (ef.all fun i => dn.contains i) = true → T ev s)
  (h : ∀ i ∈ rs, ∃ o, l[i]? = some o ∧ o.guard = none ∧ ZhC n o.dst ∧ ∃ Post : AV → St → Prop, Zqj P w0 (ZdJ true l o ev) s o Post ∧ ∀ v s', Post v s' → Good P w0 n l ef F T k (i :: dn) (Zkg ev o.dst true v) s') : Good P w0 n l ef F T (k + 1) dn ev s :=
 ⟨hF, hT, fun i hi hd ha => h i (by rw [← hr]; exact List.mem_filter.2 ⟨hi, by rw [hd, ha]; rfl⟩)⟩
theorem Zbn {l : List Oper} {ef dn : List Nat} {F : St → Prop} {T : Env → St → Prop} {k i : Nat} {ev : Env} {s : St} {o : Oper} {v : AV} {s' : St} (ho : l[i]? = some o) (hg : o.guard = none) (hd : ZhC n o.dst) (hs : Zc1 P w0 (ZdJ true l o ev) s o v s')
  (hk : Good P w0 n l ef F T k (i :: dn) (Zkg ev o.dst true v) s') : ∃ o, l[i]? = some o ∧ o.guard = none ∧ ZhC n o.dst ∧ ∃ Post : AV → St → Prop, Zqj P w0 (ZdJ true l o ev) s o Post ∧ ∀ v s', Post v s' → Good P w0 n l ef F T k (i :: dn) (Zkg ev o.dst true v) s' :=
 ⟨o, ho, hg, hd, fun r t => r = v ∧ t = s', .inr ⟨v, s', hs, fun _ _ h => h⟩, by rintro _ _ ⟨rfl, rfl⟩; exact hk⟩
theorem Zpt {l : List Oper} {ef dn : List Nat} {F : St → Prop} {T : Env → St → Prop} {k i : Nat} {ev : Env} {s : St} {o : Oper} {f : Operand} {args : Array Operand} {ts : Array TypeId} {Post : AV → St → Prop} (ho : l[i]? = some o) (hg : o.guard = none) (hd : ZhC n o.dst) (hop : o.op = .call ⟨.value f, args, ts⟩)
  (h1 : ZaK (ZdJ true l o ev) true f) (h2 : ∀ x ∈ args.toList, ZaK (ZdJ true l o ev) true x) (h3 : ZhH P w0 (Zau (ZdJ true l o ev) f) (args.toList.map fun x => argP (ZdJ true l o ev) (Zau (ZdJ true l o ev) x)) s Post)
  (hk : ∀ v s', Post v s' → Good P w0 n l ef F T k (i :: dn) (Zkg ev o.dst true v) s') : ∃ o, l[i]? = some o ∧ o.guard = none ∧ ZhC n o.dst ∧ ∃ Post : AV → St → Prop, Zqj P w0 (ZdJ true l o ev) s o Post ∧ ∀ v s', Post v s' → Good P w0 n l ef F T k (i :: dn) (Zkg ev o.dst true v) s' :=
 ⟨o, ho, hg, hd, Post, .inl ⟨by rw [hop]; rfl, by rw [hop]; exact ⟨h1, h2, h3⟩⟩, hk⟩
theorem Zst {f : FuncId} {args args' cs : List AV} {st : St} {v : AV} (h : ACalls P w0 f args' st fun r s => r = v ∧ s = st) (he : (args ++ cs).map AV.pubA = args') : ZhH P w0 (.clo f cs) args st fun r t => r = v ∧ t = st := h.pub he
end
def Tg {α : Type} (_ : α) : Prop := True
theorem tg {α : Type} {a : α} : Tg a := trivial
theorem cl {p : Prop} (h : p := by first | (intros; omega) | (intros; simp_all; done) | (intros; simp only [Bool.or_eq_false_iff, Bool.or_eq_true, Bool.and_eq_true, Bool.and_eq_false_iff, decide_eq_true_eq, decide_eq_false_iff_not, bne_iff_ne] at *; omega)) : p := h
theorem ev {p : Prop} (h : p := by simp +decide only [go_sem, Nat.reduceAdd]) : p := h
theorem ef {p F : Prop} (f : F) (h : F → p := by intro hs; first | rfl | (simp +decide only [go_sem, Nat.reduceAdd, hs]; done)) : p := h f
theorem en {p F : Prop} (f : F) (h : F → p := by intro hs; first | (simp +decide only [go_sem, Nat.reduceAdd, hs]; done) | (simp +decide only [go_sem, Nat.reduceAdd, hs]; rfl)) : p := h f
theorem ow {p : Prop} (h : p := by (simp +decide only [go_sem, Nat.reduceAdd, Zb2]) <;> (try (repeat' apply And.intro)) <;> first | omega | assumption) : p := h
theorem ZzQ : (0 : Nat) = 0 := rfl
section
variable {P : Program} {w0 : World} {n : Nat} {M0 : Mem} {W0 : World} {ro : Option Nat} {e : Env} {st : St} {Q : AQ}
theorem ZfO {c : Nat} {L : List Nat} (tc : Tg c) (tL : Tg L) {id : Nat} {l : List Oper} (h : evK P w0 n false l (fun e' st' => Q .normal (Zc0 L e') st') c l e st) : awp P w0 n M0 W0 ro (.region id l.toArray false) Q e st := Zae c L h
theorem Zol {L : List Nat} (t : Tg L) {c : Code} (h : awp P w0 n M0 W0 ro c Q (Zc0 L e) st) : awp P w0 n M0 W0 ro c Q e st := ZdE _ h (Za6 _ _)
theorem ZqV {h c1 c2 : Nat} {L : List Nat} (tt : Tg (h, c1, c2, L)) (hm : P.follows .mixedOrders = true) {id : Nat} {l : List Oper} (hB : ZqU l h = true)
  (hev : evK P w0 n true l (fun e1 s1 => evK P w0 n false l (fun e2 s2 => Q .normal (Zc0 L e2) s2) c2 (l.drop h) e1 s1) c1 (l.take h) e st) : awp P w0 n M0 W0 ro (.region id l.toArray true) Q e st := Zat hm h c1 c2 L hB hev
theorem ZgP {c d : Bool} {fv : AV} {args : List AV} {k : AV → St → Prop} (h : Zjk P w0 c d fv args st k) : Zjk P w0 c d fv args st k := h
theorem cnd {β : Type} {F : Prop} {b : Bool} {X Y r : β} (h : (if b = true then X else Y) = r) (f : F) {c : Operand} {x y : Code} (ht : (b = true ∧ F) → X = r → awp P w0 n M0 W0 ro x Q e st) (hf : (b = false ∧ F) → Y = r → awp P w0 n M0 W0 ro y Q e st)
  (hc : ZaK e true c := by simp +decide only [go_sem, Nat.reduceAdd]) (hb : F → Zau e c = .val (.bool b) := by intro hs; first | (simp +decide only [go_sem, Nat.reduceAdd, hs]; done) | (simp +decide only [go_sem, Nat.reduceAdd, hs]; rfl)) : awp P w0 n M0 W0 ro (.cond c x y) Q e st :=
 Zaz b hc (hb f) (fun q => ht ⟨q, f⟩ (Za2 h q)) (fun q => hf ⟨q, f⟩ (ZaZ h q))
theorem td {B0 B bs X : List (List AV)} {Rw rows : List RowA} {L : List LoopA} {l : List (Nat × Nat × Own)} {c : Code} (hN : M0.N = B0.length) (hNR : M0.NR = Rw.length) (hNL : M0.NL = L.length) (hc : Calm B0.length Rw.length L.length ⟨B, Rw, L⟩) (ho : Owns Rw rows l)
  (h : awp P w0 n M0 W0 ro c Q e ⟨B ++ bs, rows, L⟩) (hB : B.length = B0.length := by first | rfl | simp only [List.length_set])
  (hbs : ∀ cs ∈ bs, ∀ x ∈ cs, Under (B0.length + bs.length) rows.length L.length x := by (simp +decide only [go_sem, Nat.reduceAdd]) <;> (try (repeat' apply And.intro)) <;> first | omega | assumption)
  (he : Zb2 (B0.length + bs.length) rows.length L.length e := by (simp +decide only [go_sem, Nat.reduceAdd, Zb2]) <;> (try (repeat' apply And.intro)) <;> first | omega | assumption) : awp P w0 n M0 W0 ro c Q e ⟨B ++ (bs ++ X), rows, L⟩ :=
 Zbb hN hNR hNL hB hc ho hbs he h
end
section
variable {P : Program} {w0 : World} {n : Nat} {M0 : Mem} {W0 : World} {ro : Option Nat} {e : Env} {st : St} {Q : AQ}
theorem Zsm (t : TypeId) (hn : n ≤ 1000000) {c : Code} (h : awp P w0 n M0 W0 ro c Q ((1000000 + t, false, .junk) :: e) st) : awp P w0 n M0 W0 ro c Q e st :=
 ZhB _ _ (fun M a w hr => ⟨M, .refl _ _ _, hr.st, hr.size, fun s x hs => by
  simp only [Zd6] at hs
  by_cases q : 1000000 + t = s
  ·
   rw [if_pos q] at hs
   cases hs
   have h1 : 1000000 ≤ s := by rw [← q]; exact Nat.le_add_right _ _
   simp only [entryOk, Bool.false_eq_true, if_false]
   rw [Array.getD_eq_getD_getElem?, Array.getElem?_eq_none (by rw [hr.size]; omega)]
   rfl
  ·
   rw [if_neg q] at hs
   exact hr.env s x hs⟩) h
end
theorem rg {F p q : Prop} (L : List Nat) (f : F) (k : q) (h : Tg L → F → q → p := by
  intro tL hs hq
  apply Zab; intro K hK
  refine ZfO (c := 1) tg tL ?_
  rw [Zaa]; simp +decide only [go_sem, Nat.reduceAdd, hs]
  first | (refine hK _ _ ?_; exact hq) | ((repeat' apply And.intro) <;> first | (refine hK _ _ ?_; exact hq) | (clear hq; exact cl))) : p := h tg f k
theorem rc {F p q : Prop} (c : Nat) (L : List Nat) (f : F) (k : q) (h : Tg c → Tg L → F → q → p := by
  intro tc tL hs hq
  apply Zab; intro K hK
  refine ZfO tc tL ?_
  rw [Zaa]; simp +decide only [go_sem, Nat.reduceAdd, hs]
  first | (refine ZgP ?_; revert K; exact hq) | ((repeat' apply And.intro) <;> first | (refine ZgP ?_; revert K; exact hq) | (clear hq; exact cl))) : p := h tg tg f k
theorem nc {F p q : Prop} (f : F) (k : q) (h : F → q → p := by
  intro hs hq
  rw [Zaa]; simp +decide only [go_sem, Nat.reduceAdd, hs]
  first | (refine ZgP ?_; exact hq) | ((repeat' apply And.intro) <;> first | (refine ZgP ?_; exact hq) | (clear hq; exact cl))) : p := h f k
theorem ne {F p q : Prop} (f : F) {K : Env → St → Prop} {A : Env → St → Prop} (hK : ∀ e s, A e s → K e s) (k : q) (h : F → (∀ e s, A e s → K e s) → q → p := by
  intro hs hK hq
  rw [Zaa]; simp +decide only [go_sem, Nat.reduceAdd, hs]
  first | (refine hK _ _ ?_; exact hq) | ((repeat' apply And.intro) <;> first | (refine hK _ _ ?_; exact hq) | (clear hq; exact cl))) : p := h f hK k
theorem dg {F p q : Prop} (m c1 c2 : Nat) (L : List Nat) (f : F) {P : Program} (hm : P.follows .mixedOrders = true) (k : q) (h : Tg (m, c1, c2, L) → F → P.follows .mixedOrders = true → q → p := by
  intro tt hs hm hq
  apply Zab; intro K hK
  refine ZqV tt hm (by kernel_rfl) ?_
  rw [Zaa]; simp +decide only [go_sem, Nat.reduceAdd, hs]
  (repeat' with_reducible apply And.intro) <;> first | (rw [Zaa]; simp +decide only [go_sem, Nat.reduceAdd, hs]) | (clear hq; exact cl)
  first | (refine hK _ _ ?_; exact hq) | ((repeat' apply And.intro) <;> first | (refine hK _ _ ?_; exact hq) | (clear hq; exact cl))) : p := h tg f hm k
theorem sk {F p q : Prop} (L : List Nat) (f : F) {A K : Env → St → Prop} (hK : ∀ e s, A e s → K e s) (k : q) (h : Tg L → F → (∀ e s, A e s → K e s) → q → p := by
  intro tL hs hK hq
  refine Zol tL ?_
  apply Zba; simp +decide only [go_sem, Nat.reduceAdd]
  first | (refine hK _ _ ?_; exact hq) | ((repeat' apply And.intro) <;> first | (refine hK _ _ ?_; exact hq) | (clear hq; exact cl))) : p := h tg f hK k
theorem sx {F p q : Prop} (L : List Nat) (f : F) {A K : Env → St → Prop} (hK : ∀ e s, A e s → K e s) (k : q) (h : Tg L → F → (∀ e s, A e s → K e s) → q → p := by
  intro tL hs hK hq
  refine Zol tL ?_
  apply Zg0; simp +decide only [go_sem, Nat.reduceAdd]
  first | (refine hK _ _ ?_; exact hq) | ((repeat' apply And.intro) <;> first | (refine hK _ _ ?_; exact hq) | (clear hq; exact cl))) : p := h tg f hK k
theorem rl {F p q : Prop} (L : List Nat) (f : F) {A K : Env → St → Prop} (hK : ∀ e s, A e s → K e s) (k : q) (h : Tg L → F → (∀ e s, A e s → K e s) → q → p := by
  intro tL hs hK hq
  refine ZfO (c := 1) tg tL ?_
  rw [Zaa]; simp +decide only [go_sem, Nat.reduceAdd, hs]
  first | (refine hK _ _ ?_; exact hq) | ((repeat' apply And.intro) <;> first | (refine hK _ _ ?_; exact hq) | (clear hq; exact cl))) : p := h tg f hK k
theorem rk {F p q : Prop} (c : Nat) (L : List Nat) (f : F) (k : q) (h : Tg c → Tg L → F → q → p := by
  intro tc tL hs hq
  refine ZfO tc tL ?_
  rw [Zaa]; simp +decide only [go_sem, Nat.reduceAdd, hs]
  first | (refine ZgP ?_; exact hq) | ((repeat' apply And.intro) <;> first | (refine ZgP ?_; exact hq) | (clear hq; exact cl))) : p := h tg tg f k
theorem hd {P : Program} {w0 : World} {f : FuncId} {fn : Func} {c : Code} {n : Nat} {args : List AV} {B : List (List AV)} {Rw : List RowA} {L : List LoopA} {Post : AV → St → Prop} (rs : List ResultVar) (hf : P.funcs[f]? = some fn) (hn : fn.ntmps = n)
  (k : ∀ (M0 : Mem) (W0 : World), M0.N = B.length → M0.NR = Rw.length → M0.NL = L.length → Calm B.length Rw.length L.length ⟨B, Rw, L⟩ → (∀ x ∈ args, Under B.length Rw.length L.length x) → Owns Rw Rw [] → (0 : Nat) = 0 →
   awp P w0 n M0 W0 none c (Zvm P rs (finP ⟨B, Rw, L⟩ Post)) (Zav 0 args) ⟨B, Rw, L⟩)
  (hb : fn.body = some c := by rfl) (hrs : fn.results = rs.toArray := by rfl) (hm : fn.name ≠ "runtime.NumGoroutine" := by decide) (ha : args.length ≤ n := by exact Nat.le_of_ble_eq_true rfl) : ACalls P w0 f args ⟨B, Rw, L⟩ Post :=
 ACalls.finP (Zcv (rs := rs) hf hb hrs hn (ZaH hf (by rw [hb]; rfl) hm) ha fun M0 W0 h1 h2 h3 h4 h5 => k M0 W0 h1 h2 h3 h4 h5 (Owns.none Rw) rfl)
theorem ix {α β : Type} {l : List α} {i : Int} {F : α → Option β} {r : β} (g : α → AV) (h : (idx l i).bind F = some r) : ∃ x, 0 ≤ i ∧ i < l.length ∧ (l.map g).getD i.toNat .junk = g x ∧ F x = some r := by
 obtain ⟨x, hx, h⟩ := bind_some h
 obtain ⟨a, b, c⟩ := Zar hx
 exact ⟨x, a, b, Zay c, h⟩
abbrev Ck (e : Env) (st : St) (B : List (List AV)) (Rw : List RowA) (L : List LoopA) (e0 : Env) (bs : List (List AV)) (ow : List (Nat × Nat × Own)) (c : Prop) : Prop :=
 ∃ (X : List (List AV)) (rows : List RowA), e = e0 ∧ st = ⟨B ++ (bs ++ X), rows, L⟩ ∧ Owns Rw rows ow ∧ c
end Go.Ev
namespace Go.Proofs.YtgpmlelfkjfbiaaGreatDoor
open Go Go.RowKit Go.Ev
structure Part where
 kind : Int
 index : Int
 name : ByteArray
structure Itm where
 v : Vl
 level : Int
structure Lim where
 name : ByteArray
 low : Int
 high : Int
 bounds : Bool
 scale : Bool
 text : Bool
 list : Bool
 fields : Bool
structure Sch where
 name : ByteArray
 version : Int
 type : Ty
def avL {α : Type} (f : α → AV) (l : List α) : AV := .list (l.map f) .none
@[go_sem] theorem ZcC {α : Type} (f : α → AV) (l : List α) : avL f l = .list (l.map f) .none := rfl
@[go_sem] theorem Zyj {α : Type} (f : α → AV) (l : List α) (n : Nat) : (l.map f).take n = (l.take n).map f := List.map_take.symm
@[go_sem] theorem Zyw {α : Type} (f : α → AV) (l : List α) (n : Nat) : (l.map f).drop n = (l.drop n).map f := List.map_drop.symm
attribute [go_sem] List.length_map List.take_length
def avI (x : Int) : AV := .val (.int .i64 x)
@[go_sem] theorem Zcn (x : Int) : avI x = .val (.int .i64 x) := rfl
@[go_sem] theorem Zwt (l : List (Int)) : (∀ y ∈ l.map avI, y.cells.length = 1) ↔ True := iff_true_intro fun y hy => by
 obtain ⟨x, _, rfl⟩ := List.mem_map.1 hy
 simp +decide only [go_sem]
@[go_sem] theorem avI_ob (l : List (Int)) : (∀ y ∈ l.map avI, y.cells.length = 1 ∧ ZaN y = true) ↔ True := iff_true_intro fun y hy => by
 obtain ⟨x, _, rfl⟩ := List.mem_map.1 hy
 simp +decide only [go_sem]
@[go_sem] theorem Zwz (nb nr nl : Nat) (l : List (Int)) : (∀ y ∈ l.map avI, Under nb nr nl y) ↔ True := iff_true_intro fun y hy => by
 obtain ⟨x, _, rfl⟩ := List.mem_map.1 hy
 exact .val _
@[go_sem] theorem Zz4 (l : List (Int)) : (l.map avI).map AV.pub = l.map avI := by
 rw [List.map_map]
 refine List.map_congr_left fun x _ => ?_
 simp +decide only [Function.comp, go_sem]
def avB (x : Bool) : AV := .val (.bool x)
@[go_sem] theorem ZcQ (x : Bool) : avB x = .val (.bool x) := rfl
@[go_sem] theorem Zw5 (l : List (Bool)) : (∀ y ∈ l.map avB, y.cells.length = 1) ↔ True := iff_true_intro fun y hy => by
 obtain ⟨x, _, rfl⟩ := List.mem_map.1 hy
 simp +decide only [go_sem]
@[go_sem] theorem avB_ob (l : List (Bool)) : (∀ y ∈ l.map avB, y.cells.length = 1 ∧ ZaN y = true) ↔ True := iff_true_intro fun y hy => by
 obtain ⟨x, _, rfl⟩ := List.mem_map.1 hy
 simp +decide only [go_sem]
@[go_sem] theorem Zxz (nb nr nl : Nat) (l : List (Bool)) : (∀ y ∈ l.map avB, Under nb nr nl y) ↔ True := iff_true_intro fun y hy => by
 obtain ⟨x, _, rfl⟩ := List.mem_map.1 hy
 exact .val _
@[go_sem] theorem Zy6 (l : List (Bool)) : (l.map avB).map AV.pub = l.map avB := by
 rw [List.map_map]
 refine List.map_congr_left fun x _ => ?_
 simp +decide only [Function.comp, go_sem]
def avS (x : ByteArray) : AV := .val (.string x)
@[go_sem] theorem Zcy (x : ByteArray) : avS x = .val (.string x) := rfl
@[go_sem] theorem ZxK (l : List (ByteArray)) : (∀ y ∈ l.map avS, y.cells.length = 1) ↔ True := iff_true_intro fun y hy => by
 obtain ⟨x, _, rfl⟩ := List.mem_map.1 hy
 simp +decide only [go_sem]
@[go_sem] theorem avS_ob (l : List (ByteArray)) : (∀ y ∈ l.map avS, y.cells.length = 1 ∧ ZaN y = true) ↔ True := iff_true_intro fun y hy => by
 obtain ⟨x, _, rfl⟩ := List.mem_map.1 hy
 simp +decide only [go_sem]
@[go_sem] theorem ZxV (nb nr nl : Nat) (l : List (ByteArray)) : (∀ y ∈ l.map avS, Under nb nr nl y) ↔ True := iff_true_intro fun y hy => by
 obtain ⟨x, _, rfl⟩ := List.mem_map.1 hy
 exact .val _
@[go_sem] theorem Zy7 (l : List (ByteArray)) : (l.map avS).map AV.pub = l.map avS := by
 rw [List.map_map]
 refine List.map_congr_left fun x _ => ?_
 simp +decide only [Function.comp, go_sem]
def avV (x : Vl) : AV := .agg x.cs
@[go_sem] theorem Zcs (x : Vl) : avV x = .agg x.cs := rfl
@[go_sem] theorem Zx0 (l : List (Vl)) : (∀ y ∈ l.map avV, y.cells.length = 6) ↔ True := iff_true_intro fun y hy => by
 obtain ⟨x, _, rfl⟩ := List.mem_map.1 hy
 simp +decide only [go_sem]
@[go_sem] theorem avV_ob (l : List (Vl)) : (∀ y ∈ l.map avV, y.cells.length = 6 ∧ ZaN y = true) ↔ True := iff_true_intro fun y hy => by
 obtain ⟨x, _, rfl⟩ := List.mem_map.1 hy
 simp +decide only [go_sem]
@[go_sem] theorem ZxR (nb nr nl : Nat) (l : List (Vl)) : (∀ y ∈ l.map avV, Under nb nr nl y) ↔ True := iff_true_intro fun y hy => by
 obtain ⟨x, _, rfl⟩ := List.mem_map.1 hy
 exact .agg (x.under _ _ _)
@[go_sem] theorem ZzK (l : List (Vl)) : (l.map avV).map AV.pub = l.map avV := by
 rw [List.map_map]
 refine List.map_congr_left fun x _ => ?_
 simp +decide only [Function.comp, go_sem]
def avT (x : Ty) : AV := .agg x.cs
@[go_sem] theorem Zcw (x : Ty) : avT x = .agg x.cs := rfl
@[go_sem] theorem ZxG (l : List (Ty)) : (∀ y ∈ l.map avT, y.cells.length = 7) ↔ True := iff_true_intro fun y hy => by
 obtain ⟨x, _, rfl⟩ := List.mem_map.1 hy
 simp +decide only [go_sem]
@[go_sem] theorem avT_ob (l : List (Ty)) : (∀ y ∈ l.map avT, y.cells.length = 7 ∧ ZaN y = true) ↔ True := iff_true_intro fun y hy => by
 obtain ⟨x, _, rfl⟩ := List.mem_map.1 hy
 simp +decide only [go_sem]
@[go_sem] theorem ZwB (nb nr nl : Nat) (l : List (Ty)) : (∀ y ∈ l.map avT, Under nb nr nl y) ↔ True := iff_true_intro fun y hy => by
 obtain ⟨x, _, rfl⟩ := List.mem_map.1 hy
 exact .agg (x.under _ _ _)
@[go_sem] theorem Zzp (l : List (Ty)) : (l.map avT).map AV.pub = l.map avT := by
 rw [List.map_map]
 refine List.map_congr_left fun x _ => ?_
 simp +decide only [Function.comp, go_sem]
def avF (x : ByteArray × Vl) : AV := .agg (.val (.string x.1) :: x.2.cs)
@[go_sem] theorem Zcm (x : ByteArray × Vl) : avF x = .agg (.val (.string x.1) :: x.2.cs) := rfl
@[go_sem] theorem ZwW (l : List (ByteArray × Vl)) : (∀ y ∈ l.map avF, y.cells.length = 7) ↔ True := iff_true_intro fun y hy => by
 obtain ⟨x, _, rfl⟩ := List.mem_map.1 hy
 simp +decide only [go_sem]
@[go_sem] theorem avF_ob (l : List (ByteArray × Vl)) : (∀ y ∈ l.map avF, y.cells.length = 7 ∧ ZaN y = true) ↔ True := iff_true_intro fun y hy => by
 obtain ⟨x, _, rfl⟩ := List.mem_map.1 hy
 simp +decide only [go_sem]
@[go_sem] theorem Zxf (nb nr nl : Nat) (l : List (ByteArray × Vl)) : (∀ y ∈ l.map avF, Under nb nr nl y) ↔ True := iff_true_intro fun y hy => by
 obtain ⟨x, _, rfl⟩ := List.mem_map.1 hy
 exact ZfL nb nr nl [x] _ (by simp [Zg7, avF])
@[go_sem] theorem ZzR (l : List (ByteArray × Vl)) : (l.map avF).map AV.pub = l.map avF := by
 rw [List.map_map]
 refine List.map_congr_left fun x _ => ?_
 simp +decide only [Function.comp, go_sem]
def Zer (x : Int × ByteArray × Int × Ty × List Vl) : AV := .agg (.val (.int .i64 x.1) :: .val (.string x.2.1) :: .val (.int .i64 x.2.2.1) :: (x.2.2.2.1.cs ++ [.list (x.2.2.2.2.map avV) .none]))
@[go_sem] theorem ZbF (x : Int × ByteArray × Int × Ty × List Vl) : Zer x = .agg (.val (.int .i64 x.1) :: .val (.string x.2.1) :: .val (.int .i64 x.2.2.1) :: (x.2.2.2.1.cs ++ [.list (x.2.2.2.2.map avV) .none])) := rfl
@[go_sem] theorem ZvC (l : List (Int × ByteArray × Int × Ty × List Vl)) : (∀ y ∈ l.map Zer, y.cells.length = 11) ↔ True := iff_true_intro fun y hy => by
 obtain ⟨x, _, rfl⟩ := List.mem_map.1 hy
 simp +decide only [go_sem]
@[go_sem] theorem ZzO (l : List (Int × ByteArray × Int × Ty × List Vl)) : (∀ y ∈ l.map Zer, y.cells.length = 11 ∧ ZaN y = true) ↔ True := iff_true_intro fun y hy => by
 obtain ⟨x, _, rfl⟩ := List.mem_map.1 hy
 simp +decide only [go_sem]
@[go_sem] theorem Zv5 (nb nr nl : Nat) (l : List (Int × ByteArray × Int × Ty × List Vl)) : (∀ y ∈ l.map Zer, Under nb nr nl y) ↔ True := iff_true_intro fun y hy => by
 obtain ⟨x, _, rfl⟩ := List.mem_map.1 hy
 exact Zfd nb nr nl [x] _ (by simp [Zfl, Zer, Zc7]; intros; rfl)
@[go_sem] theorem Zya (l : List (Int × ByteArray × Int × Ty × List Vl)) : (l.map Zer).map AV.pub = l.map Zer := by
 rw [List.map_map]
 refine List.map_congr_left fun x _ => ?_
 simp +decide only [Function.comp, go_sem]
def ZoW (x : Sch) : AV := .agg (.val (.string x.name) :: .val (.int .i64 x.version) :: x.type.cs)
@[go_sem] theorem Za8 (x : Sch) : ZoW x = .agg (.val (.string x.name) :: .val (.int .i64 x.version) :: x.type.cs) := rfl
@[go_sem] theorem Zu6 (l : List (Sch)) : (∀ y ∈ l.map ZoW, y.cells.length = 9) ↔ True := iff_true_intro fun y hy => by
 obtain ⟨x, _, rfl⟩ := List.mem_map.1 hy
 simp +decide only [go_sem]
@[go_sem] theorem ZyB (l : List (Sch)) : (∀ y ∈ l.map ZoW, y.cells.length = 9 ∧ ZaN y = true) ↔ True := iff_true_intro fun y hy => by
 obtain ⟨x, _, rfl⟩ := List.mem_map.1 hy
 simp +decide only [go_sem]
@[go_sem] theorem Zvr (nb nr nl : Nat) (l : List (Sch)) : (∀ y ∈ l.map ZoW, Under nb nr nl y) ↔ True := iff_true_intro fun y hy => by
 obtain ⟨x, _, rfl⟩ := List.mem_map.1 hy
 simp only [Za8, Zh6, List.mem_cons, forall_eq_or_imp, Zl9, true_and]; exact x.type.under _ _ _
@[go_sem] theorem ZwL (l : List (Sch)) : (l.map ZoW).map AV.pub = l.map ZoW := by
 rw [List.map_map]
 refine List.map_congr_left fun x _ => ?_
 simp +decide only [Function.comp, go_sem]
def ZfK (x : Itm) : AV := .agg (x.v.cs ++ [.val (.int .i64 x.level)])
@[go_sem] theorem Za9 (x : Itm) : ZfK x = .agg (x.v.cs ++ [.val (.int .i64 x.level)]) := rfl
@[go_sem] theorem Zvs (l : List (Itm)) : (∀ y ∈ l.map ZfK, y.cells.length = 7) ↔ True := iff_true_intro fun y hy => by
 obtain ⟨x, _, rfl⟩ := List.mem_map.1 hy
 simp +decide only [go_sem]
@[go_sem] theorem ZyO (l : List (Itm)) : (∀ y ∈ l.map ZfK, y.cells.length = 7 ∧ ZaN y = true) ↔ True := iff_true_intro fun y hy => by
 obtain ⟨x, _, rfl⟩ := List.mem_map.1 hy
 simp +decide only [go_sem]
@[go_sem] theorem Zvf (nb nr nl : Nat) (l : List (Itm)) : (∀ y ∈ l.map ZfK, Under nb nr nl y) ↔ True := iff_true_intro fun y hy => by
 obtain ⟨x, _, rfl⟩ := List.mem_map.1 hy
 simp only [Za9, Zh6, List.mem_append, List.mem_singleton]; rintro z (hz | rfl); exact x.v.under _ _ _ z hz; exact .val _
@[go_sem] theorem Zw4 (l : List (Itm)) : (l.map ZfK).map AV.pub = l.map ZfK := by
 rw [List.map_map]
 refine List.map_congr_left fun x _ => ?_
 simp +decide only [Function.comp, go_sem]
def ZsL (x : Lim) : AV := .agg [.val (.string x.name), .val (.int .i64 x.low), .val (.int .i64 x.high), .val (.bool x.bounds), .val (.bool x.scale), .val (.bool x.text), .val (.bool x.list), .val (.bool x.fields)]
@[go_sem] theorem ZbE (x : Lim) : ZsL x = .agg [.val (.string x.name), .val (.int .i64 x.low), .val (.int .i64 x.high), .val (.bool x.bounds), .val (.bool x.scale), .val (.bool x.text), .val (.bool x.list), .val (.bool x.fields)] := rfl
@[go_sem] theorem Zv3 (l : List (Lim)) : (∀ y ∈ l.map ZsL, y.cells.length = 8) ↔ True := iff_true_intro fun y hy => by
 obtain ⟨x, _, rfl⟩ := List.mem_map.1 hy
 simp +decide only [go_sem]
@[go_sem] theorem ZzY (l : List (Lim)) : (∀ y ∈ l.map ZsL, y.cells.length = 8 ∧ ZaN y = true) ↔ True := iff_true_intro fun y hy => by
 obtain ⟨x, _, rfl⟩ := List.mem_map.1 hy
 simp +decide only [go_sem]
@[go_sem] theorem ZvD (nb nr nl : Nat) (l : List (Lim)) : (∀ y ∈ l.map ZsL, Under nb nr nl y) ↔ True := iff_true_intro fun y hy => by
 obtain ⟨x, _, rfl⟩ := List.mem_map.1 hy
 simp +decide only [go_sem]; try intro z hz; simp_all [Vl.under, Ty.under]
@[go_sem] theorem Zyo (l : List (Lim)) : (l.map ZsL).map AV.pub = l.map ZsL := by
 rw [List.map_map]
 refine List.map_congr_left fun x _ => ?_
 simp +decide only [Function.comp, go_sem]
def Zv6 (x : ByteArray × Int) : AV := .agg [.val (.string x.1), .val (.int .i64 x.2)]
@[go_sem] theorem ZbC (x : ByteArray × Int) : Zv6 x = .agg [.val (.string x.1), .val (.int .i64 x.2)] := rfl
@[go_sem] theorem ZvH (l : List (ByteArray × Int)) : (∀ y ∈ l.map Zv6, y.cells.length = 2) ↔ True := iff_true_intro fun y hy => by
 obtain ⟨x, _, rfl⟩ := List.mem_map.1 hy
 simp +decide only [go_sem]
@[go_sem] theorem Zy9 (l : List (ByteArray × Int)) : (∀ y ∈ l.map Zv6, y.cells.length = 2 ∧ ZaN y = true) ↔ True := iff_true_intro fun y hy => by
 obtain ⟨x, _, rfl⟩ := List.mem_map.1 hy
 simp +decide only [go_sem]
@[go_sem] theorem ZvK (nb nr nl : Nat) (l : List (ByteArray × Int)) : (∀ y ∈ l.map Zv6, Under nb nr nl y) ↔ True := iff_true_intro fun y hy => by
 obtain ⟨x, _, rfl⟩ := List.mem_map.1 hy
 simp +decide only [go_sem]; try intro z hz; simp_all [Vl.under, Ty.under]
@[go_sem] theorem Zys (l : List (ByteArray × Int)) : (l.map Zv6).map AV.pub = l.map Zv6 := by
 rw [List.map_map]
 refine List.map_congr_left fun x _ => ?_
 simp +decide only [Function.comp, go_sem]
def ZvR (x : Ty × Ty) : AV := .agg (x.1.cs ++ x.2.cs)
@[go_sem] theorem ZbH (x : Ty × Ty) : ZvR x = .agg (x.1.cs ++ x.2.cs) := rfl
@[go_sem] theorem ZvY (l : List (Ty × Ty)) : (∀ y ∈ l.map ZvR, y.cells.length = 14) ↔ True := iff_true_intro fun y hy => by
 obtain ⟨x, _, rfl⟩ := List.mem_map.1 hy
 simp +decide only [go_sem]
@[go_sem] theorem Zzj (l : List (Ty × Ty)) : (∀ y ∈ l.map ZvR, y.cells.length = 14 ∧ ZaN y = true) ↔ True := iff_true_intro fun y hy => by
 obtain ⟨x, _, rfl⟩ := List.mem_map.1 hy
 simp +decide only [go_sem]
@[go_sem] theorem Zwg (nb nr nl : Nat) (l : List (Ty × Ty)) : (∀ y ∈ l.map ZvR, Under nb nr nl y) ↔ True := iff_true_intro fun y hy => by
 obtain ⟨x, _, rfl⟩ := List.mem_map.1 hy
 exact .agg fun z hz => (List.mem_append.1 hz).elim (x.1.under _ _ _ z) (x.2.under _ _ _ z)
@[go_sem] theorem ZyC (l : List (Ty × Ty)) : (l.map ZvR).map AV.pub = l.map ZvR := by
 rw [List.map_map]
 refine List.map_congr_left fun x _ => ?_
 simp +decide only [Function.comp, go_sem]
def ZcD (x : Part) : AV := .agg [.val (.int .i64 x.kind), .val (.int .i64 x.index), .val (.string x.name)]
@[go_sem] theorem ZbK (x : Part) : ZcD x = .agg [.val (.int .i64 x.kind), .val (.int .i64 x.index), .val (.string x.name)] := rfl
@[go_sem] theorem ZvL (l : List (Part)) : (∀ y ∈ l.map ZcD, y.cells.length = 3) ↔ True := iff_true_intro fun y hy => by
 obtain ⟨x, _, rfl⟩ := List.mem_map.1 hy
 simp +decide only [go_sem]
@[go_sem] theorem ZzA (l : List (Part)) : (∀ y ∈ l.map ZcD, y.cells.length = 3 ∧ ZaN y = true) ↔ True := iff_true_intro fun y hy => by
 obtain ⟨x, _, rfl⟩ := List.mem_map.1 hy
 simp +decide only [go_sem]
@[go_sem] theorem Zwj (nb nr nl : Nat) (l : List (Part)) : (∀ y ∈ l.map ZcD, Under nb nr nl y) ↔ True := iff_true_intro fun y hy => by
 obtain ⟨x, _, rfl⟩ := List.mem_map.1 hy
 simp +decide only [go_sem]; try intro z hz; simp_all [Vl.under, Ty.under]
@[go_sem] theorem Zy1 (l : List (Part)) : (l.map ZcD).map AV.pub = l.map ZcD := by
 rw [List.map_map]
 refine List.map_congr_left fun x _ => ?_
 simp +decide only [Function.comp, go_sem]
@[go_sem] theorem Zu0 (l : List (List Part)) : (∀ y ∈ l.map (avL ZcD), y.cells.length = 1) ↔ True := iff_true_intro fun y hy => by
 obtain ⟨x, _, rfl⟩ := List.mem_map.1 hy
 simp +decide only [go_sem]
@[go_sem] theorem ZyI (l : List (List Part)) : (∀ y ∈ l.map (avL ZcD), y.cells.length = 1 ∧ ZaN y = true) ↔ True := iff_true_intro fun y hy => by
 obtain ⟨x, _, rfl⟩ := List.mem_map.1 hy
 simp +decide only [go_sem]
@[go_sem] theorem ZuT (nb nr nl : Nat) (l : List (List Part)) : (∀ y ∈ l.map (avL ZcD), Under nb nr nl y) ↔ True := iff_true_intro fun y hy => by
 obtain ⟨x, _, rfl⟩ := List.mem_map.1 hy
 simp +decide only [go_sem]
@[go_sem] theorem Zxc (l : List (List Part)) : (l.map (avL ZcD)).map AV.pub = l.map (avL ZcD) := by
 rw [List.map_map]
 refine List.map_congr_left fun x _ => ?_
 simp +decide only [Function.comp, go_sem]
@[go_sem] theorem ZvX (l : List (List ByteArray)) : (∀ y ∈ l.map (avL avS), y.cells.length = 1) ↔ True := iff_true_intro fun y hy => by
 obtain ⟨x, _, rfl⟩ := List.mem_map.1 hy
 simp +decide only [go_sem]
@[go_sem] theorem ZzM (l : List (List ByteArray)) : (∀ y ∈ l.map (avL avS), y.cells.length = 1 ∧ ZaN y = true) ↔ True := iff_true_intro fun y hy => by
 obtain ⟨x, _, rfl⟩ := List.mem_map.1 hy
 simp +decide only [go_sem]
@[go_sem] theorem Zwr (nb nr nl : Nat) (l : List (List ByteArray)) : (∀ y ∈ l.map (avL avS), Under nb nr nl y) ↔ True := iff_true_intro fun y hy => by
 obtain ⟨x, _, rfl⟩ := List.mem_map.1 hy
 simp +decide only [go_sem]
@[go_sem] theorem ZyV (l : List (List ByteArray)) : (l.map (avL avS)).map AV.pub = l.map (avL avS) := by
 rw [List.map_map]
 refine List.map_congr_left fun x _ => ?_
 simp +decide only [Function.comp, go_sem]
@[go_sem] theorem Zwl (l : List (List Int)) : (∀ y ∈ l.map (avL avI), y.cells.length = 1) ↔ True := iff_true_intro fun y hy => by
 obtain ⟨x, _, rfl⟩ := List.mem_map.1 hy
 simp +decide only [go_sem]
@[go_sem] theorem Zy5 (l : List (List Int)) : (∀ y ∈ l.map (avL avI), y.cells.length = 1 ∧ ZaN y = true) ↔ True := iff_true_intro fun y hy => by
 obtain ⟨x, _, rfl⟩ := List.mem_map.1 hy
 simp +decide only [go_sem]
@[go_sem] theorem Zv8 (nb nr nl : Nat) (l : List (List Int)) : (∀ y ∈ l.map (avL avI), Under nb nr nl y) ↔ True := iff_true_intro fun y hy => by
 obtain ⟨x, _, rfl⟩ := List.mem_map.1 hy
 simp +decide only [go_sem]
@[go_sem] theorem ZyZ (l : List (List Int)) : (l.map (avL avI)).map AV.pub = l.map (avL avI) := by
 rw [List.map_map]
 refine List.map_congr_left fun x _ => ?_
 simp +decide only [Function.comp, go_sem]
@[go_sem] theorem Zly (l : List Vl) : ZdO l = l.map avV := Zc7 l
@[go_sem] theorem ZoE (l : List Ty) : Zi3 l = l.map avT := Zkc l
@[go_sem] theorem Zod (l : List (ByteArray × Vl)) : Zg7 l = l.map avF := ZhN l
@[go_sem] theorem Zm7 (l : List (Int × ByteArray × Int × Ty × List Vl)) : Zfl l = l.map Zer := by
 rw [Zih]
 refine List.map_congr_left fun x _ => ?_
 rw [Zly]; rfl
@[go_sem] theorem Zr7 (l : List ByteArray) : (l.map fun x => AV.val (.string x)) = l.map avS := rfl
@[go_sem] theorem Vl.under_mem (nb nr nl : Nat) (v : Vl) : (∀ x ∈ v.cs, Under nb nr nl x) ↔ True := iff_true_intro (v.under nb nr nl)
@[go_sem] theorem Ty.under_mem (nb nr nl : Nat) (v : Ty) : (∀ x ∈ v.cs, Under nb nr nl x) ↔ True := iff_true_intro (v.under nb nr nl)
@[go_sem] theorem Zvo {α : Type} (p : α → Prop) (l m : List α) : (∀ x ∈ l ++ m, p x) ↔ (∀ x ∈ l, p x) ∧ ∀ x ∈ m, p x := List.forall_mem_append
theorem rt {α : Type} {x r : α} {F G C p : Prop} (h : some x = some r) (f : F) (hcalm : C) (hO : G) (k : some x = some r → F → C → G → p := by
  intro h hs hcalm hO
  apply Zah; simp +decide only [go_sem, Nat.reduceAdd, hs]
  have hgt := Option.some.inj h; subst hgt
  first | refine ZaG hcalm rfl hO.pre (by simp +decide only [go_sem, Nat.reduceAdd]) ⟨?_, ?_⟩ | refine Zbg hcalm rfl hO.pre (by simp +decide only [go_sem, Nat.reduceAdd]) ⟨?_, ?_⟩
  all_goals first | rfl | (simp +decide only [go_sem, Nat.reduceAdd, hs]; done) | (simp +decide only [go_sem, Nat.reduceAdd, Vl.cs, Ty.cs, hs]; done)) : p := k h f hcalm hO
theorem hv {p F : Prop} (f : F) (h : F → p := by intro hs; first | rfl | (simp +decide only [go_sem, Nat.reduceAdd, hs]; done) | (simp +decide only [go_sem, Nat.reduceAdd, Vl.cs, Ty.cs, hs]; done)) : p := h f
theorem Ty.cs_eqs (t : Ty) : t.cs = [.val (.int .i64 t.kind), .val (.int .i64 t.min), .val (.int .i64 t.max), .val (.int .i64 t.scale), .list (t.words.map avS) .none, .list (t.elem.map avT) .none, .list (t.fields.map Zer) .none] := by
 cases t; rw [Ty.cs, ZoE, Zm7]; rfl
theorem Vl.cs_eqs (v : Vl) : v.cs = [.val (.int .i64 v.kind), .val (.int .i64 v.int), .val (.int .i64 v.scale), .val (.string v.text), .list (v.list.map avV) .none, .list (v.fields.map avF) .none] := by
 rw [v.cs_eq, Zly, Zod]
theorem ZkS (w0 : World) (B : List (List AV)) (Rw : List RowA) (L : List LoopA) (hT : Lib.Utf8Tabs 0 1 w0) (s : ByteArray) (hs : s.size ≤ maxLen) :
  ACalls Tryz.prog w0 115 [.val (.string s)] ⟨B, Rw, L⟩ fun v s' => v = .val (.bool (Lib.validD s.data.toList)) ∧ s' = ⟨B, Rw, L⟩ := Zqi w0 _ hT s hs
theorem ZjH (w0 : World) (B : List (List AV)) (Rw : List RowA) (L : List LoopA) (s : ByteArray) (n : Int) (h : 0 ≤ n ∧ n ≤ 9223372036854775807 ∧ s.size * n.toNat ≤ 140737488355328) :
  ACalls Tryz.prog w0 169 [.val (.string s), .val (.int .i64 n)] ⟨B, Rw, L⟩ fun v s' => v = .val (.string ⟨(Lib.repeatL s.data.toList n.toNat).toArray⟩) ∧ s' = ⟨B, Rw, L⟩ := by
 have := ZpJ w0 ⟨B, Rw, L⟩ s n.toNat (by omega) h.2.2
 rwa [Int.toNat_of_nonneg h.1] at this
end Go.Proofs.YtgpmlelfkjfbiaaGreatDoor
namespace Go.Ev
open Go Go.RowKit Go.Shelf
section
variable {P : Program} {w0 : World} {st : St}
theorem Zop {M : Mem} {w w' : World} {e : TypeId} {sz : Nat} {v' : Value} {n : Nat} {us : Nat → Value} {xs : List AV} (hst : RelSt w0 M st w) (hb : Below w.heap.size w w') (ho : w'.ownsRow w.heap.size e sz v' n (flat us n)) (hn : xs.length = n)
  (hus : ∀ i, i < n → (us i).cells.size = sz) (hR : ∀ i (hi : i < xs.length), R w0 M w (us i) xs[i]) : ∃ M', Ext w0 M w M' w' ∧ RelSt w0 M' st w' ∧ R w0 M' w' v' (.list xs .none) := by
 subst hn
 obtain ⟨h1, h2⟩ := ho
 rcases h2 with ⟨rfl, h0⟩ | ⟨g, cap, cur, rfl, hg, hcur, hc1, hc2, hc3, hc4⟩
 ·
  obtain ⟨r1, r2⟩ := hst.later hb w.heap.size 0 (Nat.le_refl _) (.inr rfl)
  have : xs = [] := List.length_eq_zero_iff.1 h0
  subst this
  exact ⟨_, r2, r1, .nil (fun id => by simp)⟩
 ·
  obtain ⟨r1, r2⟩ := hst.later hb g (xs.length * sz) hg (.inl (Array.getElem?_eq_some_iff.1 hcur).1)
  refine ⟨_, r2, r1, .list sz us hc1 hc2 (fun i hi => ⟨hus i hi, fun j hj => ?_⟩) (fun i hi => (hR i hi).mono r2) trivial⟩
  have hlt : i * sz + j < xs.length * sz := by
   have : (i + 1) * sz ≤ xs.length * sz := Nat.mul_le_mul_right _ hi
   rw [Nat.succ_mul] at this; omega
  refine ⟨.inr (by simp only [Mem.newTop, if_true, Nat.zero_add]; exact hlt), ?_⟩
  have hf := Zez hus i hi j hj
  rw [← hf, ← hc4, List.getElem?_take_of_lt hlt, Array.getElem?_toList]
  simp [World.cell?, hcur]
theorem ZpI {ρ : Ren} (L : Go.Proofs.SlLaysE0.n41 P ρ) (i0 : TypeInfo) (z : Value) (size bytes : Nat) (hi : P.info? (ρ.t 23) = some i0) (hz0 : i0.zero = some z) (hz1 : i0.size = size) (hz2 : i0.bytes = bytes) (hzs : z.cells.size = size) (hsz : 0 < size)
  (z23 : ∀ w, (Go.sizeOf (ρ.t 23)).run P w = .ok size w) (a : Addr) (c : Nat) (w : World) :
  Calls P (ρ.f 41) #[.slice (some a) 0 c] w fun e w' => ∃ v', e = .returned v' ∧ w'.ownsRow w.heap.size (ρ.t 23) size v' 0 [] ∧ Below w.heap.size w w' := by
 have mixed := L.mixed; have t4 := L.t4; have a4 := L.a4; have z4 := L.z4; have v4 := L.v4; have t22 := L.t22; have a22 := L.a22; have z22 := L.z22; have v22 := L.v22
 have q22 : ∀ (w : World) (a : Option Addr) (n c n' c' : Nat), (binOp .eql (ρ.t 22) (.slice a n c) (.slice none n' c')).run P w = .ok (.bool a.isNone) w := fun w a n c n' c' => Lib.run_eql_slice_nil w _ _ a n c n' c' L.t22
 have u22 : ∀ w, Sem.run P (underlying (ρ.t 22)) w = .ok (TypeDesc.slice (ρ.t 23)) w := run_underlying t22
 obtain ⟨_, _, FG⟩ := L.f41
 go_enter FG, Go.Proofs.SlBodyN.n41_ntmps ρ
 go_wp2_with (at_builtin; refine wpList_append_own _ rfl _ _ (ρ.t 22) rfl w.heap.size (ρ.t 23) i0 z size bytes t22 hi hz0 hz1 hz2 hzs hsz _ _ _ rfl (World.ownsRow_made w #[] 0 (Nat.le_refl _) (Nat.zero_le _) (by simp)) a 0 c [] rfl (by simp) (by intro j u hj; simp at hj) (by intro u hu; cases hu) (by unfold maxLen; omega) (by omega) (by simp) ?_)
 intro v' w1 hown hgrow hnil
 go_wp2
 go_ret
 exact ⟨v', rfl, by simpa using hown, ((Below.refl _ w).alloc (Nat.le_refl _) _).grown hgrow (by simp) (by intro k hk; simp [Value.ownBlock] at hk; omega)⟩
theorem Zpu {ρ : Ren} (L : Go.Proofs.SlLaysE0.n41 P ρ) (hen : Zha P (ρ.f 41)) (i0 : TypeInfo) (z : Value) (size bytes : Nat) (hi : P.info? (ρ.t 23) = some i0) (hz0 : i0.zero = some z) (hz1 : i0.size = size) (hz2 : i0.bytes = bytes) (hzs : z.cells.size = size) (hsz : 0 < size)
  (z23 : ∀ w, (Go.sizeOf (ρ.t 23)).run P w = .ok size w) {xs : List AV} {o : Own} (hx : ∀ y ∈ xs, y.cells.length = size) (h1 : ∀ y ∈ xs, ZaN y = true) (hbig : xs.length * bytes ≤ 140737488355328) :
  ACalls P w0 (ρ.f 41) [.list xs o] st fun r s => r = .list xs .none ∧ s = st := by
 refine ⟨hen, fun M w vals hst hrow => ?_⟩
 obtain ⟨v, rfl⟩ : ∃ v, vals = #[v] := by
  have := hrow.1
  simp only [List.length_cons, List.length_nil] at this
  exact Array.size_eq_one_iff.1 this
 have hv : R w0 M w v (.list xs o) := hrow.2 0 (by simp) (by simp)
 cases hv with
 | nil ho =>
  refine (Go.Proofs.AnyE.slices_Clone_nil L 0 0 w).mono ?_
  rintro en w' ⟨rfl, rfl⟩
  exact ⟨_, M, _, st, rfl, ⟨rfl, rfl⟩, .refl _ _ _, hst, .nil (fun id => by simp)⟩
 | @emp ad _ ho =>
  refine (ZpI L i0 z size bytes hi hz0 hz1 hz2 hzs hsz z23 ad 0 w).mono ?_
  rintro en w' ⟨v', rfl, hown, hbel⟩
  obtain ⟨M', x1, x2, x3⟩ := Zop (xs := []) (us := fun _ => undef) hst hbel hown rfl (fun i hi => absurd hi (by omega)) (fun i hi => absurd hi (by simp))
  exact ⟨v', M', _, st, rfl, ⟨rfl, rfl⟩, x1, x2, x3⟩
 | @list b off cap _ _ sz us hc hm hcell hu ho =>
  have hus : ∀ i, i < xs.length → (us i).cells.size = size := fun i hi => by
   rw [((hu i hi).cells).1]; exact hx _ (List.getElem_mem _)
  have hcell' : ∀ i, i < xs.length → ∀ j, j < size → w.cell? ⟨b, off + i * size + j, none⟩ = (us i).cells[j]? := fun i hi j hj => by
   have e : sz = size := ((hcell i hi).1).symm.trans (hus i hi)
   subst e
   exact ((hcell i hi).2 j hj).2
  refine (Go.Proofs.AnyE.slices_Clone L i0 z size bytes hi hz0 hz1 hz2 hzs hsz z23 b off xs.length cap (flat us xs.length) w (Zax hus) (Nat.le_trans hc hm) hbig (fun j u hj => ?_) (fun u hu' => ?_)).mono ?_
  ·
   have := Zc5 hus hsz hcell' j u hj
   rwa [Zcl] at this
  ·
   obtain ⟨i, hi', hu2⟩ := List.mem_flatMap.1 hu'
   have hil : i < xs.length := by simpa using hi'
   obtain ⟨k, hk, rfl⟩ := List.mem_iff_getElem.1 hu2
   have hcs := (hu i hil).cells
   have hk' : k < (us i).cells.size := by simpa using hk
   have := hcs.2 k hk' (by rw [← hcs.1]; exact hk')
   rw [Array.getElem_toList]
   refine this.oneCell ((hu i hil).cellsOne (fun vs hvs => ?_) _ (List.getElem_mem _))
   have := h1 _ (List.getElem_mem hil)
   rw [hvs] at this; cases this
  ·
   rintro en w' ⟨v', rfl, hown, _, hbel⟩
   obtain ⟨M', x1, x2, x3⟩ := Zop hst hbel hown rfl hus hu
   exact ⟨v', M', _, st, rfl, ⟨rfl, rfl⟩, x1, x2, x3⟩
def Ztd (P : Program) (t : TypeId) (size bytes : Nat) : Bool :=
 match P.info? t with
 | some i => (i.size == size) && (i.bytes == bytes) && (match i.zero with | some z => z.cells.size == size | none => false)
 | none => false
theorem ZkD {t : TypeId} {size bytes : Nat} (h : Ztd P t size bytes = true) : ∃ i0 z, P.info? t = some i0 ∧ i0.zero = some z ∧ i0.size = size ∧ i0.bytes = bytes ∧ z.cells.size = size := by
 unfold Ztd at h
 cases hi : P.info? t with
 | none => simp [hi] at h
 | some i =>
  simp only [hi, Bool.and_eq_true, beq_iff_eq] at h
  cases hz : i.zero with
  | none => simp [hz] at h
  | some z =>
   simp only [hz, beq_iff_eq] at h
   exact ⟨i, z, rfl, hz, h.1.1, h.1.2, h.2⟩
theorem ZjJ {ρ : Ren} (L : Go.Proofs.SlLaysE0.n41 P ρ) (hen : Zha P (ρ.f 41)) (size bytes : Nat) (hi : Ztd P (ρ.t 23) size bytes = true) (hsz : 0 < size) (z23 : ∀ w, (Go.sizeOf (ρ.t 23)).run P w = .ok size w) {xs : List AV} {o : Own}
  (hx : ∀ y ∈ xs, y.cells.length = size ∧ ZaN y = true) (hbig : xs.length * bytes ≤ 140737488355328) : ACalls P w0 (ρ.f 41) [.list xs o] st fun r s => r = .list xs .none ∧ s = st := by
 obtain ⟨i0, z, a1, a2, a3, a4, a5⟩ := ZkD hi
 exact Zpu L hen i0 z size bytes a1 a2 a3 a4 a5 hsz z23 (fun y hy => (hx y hy).1) (fun y hy => (hx y hy).2) hbig
end
def ZiJ (n : Nat) (rows : List RowA) : Own := if n = 0 then .full else .row rows.length
def Zkw (n sz : Nat) (rows : List RowA) : List RowA := if n = 0 then rows else rows ++ [.grow n sz]
theorem Owns.clone {Rw rows : List RowA} {l : List (Nat × Nat × Own)} {ho : Own} (h : Owns Rw rows l ho) (sz n : Nat) : Owns Rw (Zkw n sz rows) ((sz, n, ZiJ n rows) :: l) ho := by
 unfold Zkw ZiJ
 by_cases q : n = 0
 ·
  rw [if_pos q, if_pos q]; exact h.full sz n
 ·
  rw [if_neg q, if_neg q]; exact h.make sz n
theorem Owns.len1 {Rw rows : List RowA} {o ho : Own} {sz n m : Nat} (h : Owns Rw rows [(sz, n, o)] ho) (e : n = m) : Owns Rw rows [(sz, m, o)] ho := e ▸ h
theorem Zbv {B : List (List AV)} {l i : Nat} {cs : List AV} (h : B[l]? = some cs) (hne : i ≠ l) :
  (∀ X R L o c, Zc6 ⟨B.set i c ++ X, R, L⟩ (.box l o) = true) ∧ (∀ R L o c, Zc6 ⟨B.set i c, R, L⟩ (.box l o) = true) ∧ (∀ X R L o c, Za1 ⟨B.set i c ++ X, R, L⟩ (.box l o) = cs) ∧ (∀ R L o c, Za1 ⟨B.set i c, R, L⟩ (.box l o) = cs) ∧
  (∀ X c, (B.set i c ++ X)[l]? = some cs) ∧ (∀ c, (B.set i c)[l]? = some cs) ∧ (∀ X c, (B.set i c ++ X).getD l [] = cs) ∧ (∀ c, (B.set i c).getD l [] = cs) := by
 have key : ∀ c, (B.set i c)[l]? = some cs := fun c => by rw [List.getElem?_set_ne hne]; exact h
 refine ⟨fun X R L o c => (Zag (key c)).1 X R L o, fun R L o c => (Zag (key c)).2.1 R L o, fun X R L o c => (Zag (key c)).2.2.1 X R L o, fun R L o c => (Zag (key c)).2.2.2.1 R L o, fun X c => (Zag (key c)).2.2.2.2.1 X, key,
  fun X c => (Zag (key c)).2.2.2.2.2.2.1 X, fun c => (Zag (key c)).2.2.2.2.2.2.2.1⟩
section
variable {P : Program} {w0 : World} {st : St} {M : Mem} {w : World}
theorem RelSt.adoptRow (h : RelSt w0 M st w) {w' : World} (hb : Below w.heap.size w w') {g cap k sz : Nat} {cs : Array Value} {ty : TypeId} (hg : w.heap.size ≤ g) (hcs : w'.heap[g]? = some (.cells cs ty (0, 0))) (hm : cap ≤ maxLen) (hk : k ≤ cap) (hs : cs.size = cap * sz) :
  RelSt w0 (M.addRow g cap k sz (k * sz)) { st with rows := st.rows ++ [.grow k sz] } w' ∧ Ext w0 M w (M.addRow g cap k sz (k * sz)) w' := by
 have hgw : g < w'.heap.size := (Array.getElem?_eq_some_iff.1 hcs).1
 have tp' : ∀ b, b < w.heap.size → (M.addRow g cap k sz (k * sz)).top b = M.top b := fun b hb => by simp [Mem.addRow]; omega
 have hh : ∀ x, x < w.heap.size → w'.heap[x]? = w.heap[x]? := hb.block
 have hko : KeepsObj w w' := fun x o h1 _ => (hh x (Array.getElem?_eq_some_iff.1 h1).1).trans h1
 have old : ∀ i, i < M.NR → (M.addRow g cap k sz (k * sz)).fr i = M.fr i ∧ (M.addRow g cap k sz (k * sz)).blk i = M.blk i ∧ (M.addRow g cap k sz (k * sz)).cap i = M.cap i ∧ (M.addRow g cap k sz (k * sz)).rsz i = M.rsz i := by
  intro i hi
  have : ¬ i = M.NR := by omega
  simp [Mem.addRow, this]
 have hx : Ext w0 M w (M.addRow g cap k sz (k * sz)) w' :=
  ⟨Nat.le_refl _, fun _ _ => rfl, Nat.le_succ _, fun i hi => by obtain ⟨a1, a2, a3, a4⟩ := old i hi; exact ⟨by omega, fun _ => ⟨a2, a3, a4⟩⟩, fun x off v hi hc => by
   have hlt := World.block_lt_of_cell? w _ hc
   refine ⟨?_, hi.imp id fun q => by rw [tp' x hlt]; exact q⟩
   unfold World.cell? at hc ⊢
   simp only [hh x hlt] at hc ⊢
   exact hc, hb.size, Nat.le_refl _, fun _ _ => rfl, fun _ h1 h2 => absurd h2 (Nat.not_lt.2 h1), fun x o h1 h2 _ => hko x o h1 h2⟩
 have hne : ∀ l, l < M.N → M.bx l ≠ g := fun l hl => by have := h.box_lt hl; omega
 refine ⟨⟨h.below.trans (hb.mono h.base_le), h.N, by simp [Mem.addRow, h.NR], fun b hb' => ?_, h.inj, fun l c hl => ?_, fun id y hid => ?_, fun i j hi hj hij => ?_, h.loop.mono hx rfl hko⟩, hx⟩
 ·
  have := hb.size
  have : (M.addRow g cap k sz (k * sz)).top b = M.top b := by simp [Mem.addRow]; omega
  rw [this]
  exact h.top b (by omega)
 ·
  obtain ⟨a1, a2, c', ty', a3, a4, a5, a6⟩ := h.box l c hl
  have hlt := (Array.getElem?_eq_some_iff.1 a3).1
  exact ⟨a1, by rw [show (M.addRow g cap k sz (k * sz)).bx l = M.bx l from rfl, tp' _ hlt]; exact a2, c', ty', by rw [show (M.addRow g cap k sz (k * sz)).bx l = M.bx l from rfl, hh _ hlt]; exact a3, a4, a5, fun i h1 h2 => (a6 i h1 h2).mono hx⟩
 ·
  by_cases e1 : id = M.NR
  ·
   subst e1
   simp only [h.NR, List.getElem?_concat_length, Option.some.injEq] at hid
   subst hid
   have q : (M.addRow g cap k sz (k * sz)).fr M.NR = k ∧ (M.addRow g cap k sz (k * sz)).blk M.NR = g ∧ (M.addRow g cap k sz (k * sz)).cap M.NR = cap ∧ (M.addRow g cap k sz (k * sz)).rsz M.NR = sz ∧ (M.addRow g cap k sz (k * sz)).top g = k * sz := by simp [Mem.addRow]
   obtain ⟨q1, q2, q3, q4, q5⟩ := q
   simp only [RowOk, q1, q2, q3, q4, q5]
   have hbl := h.base_le
   exact ⟨trivial, trivial, by omega, trivial, hne, hm, hk, cs, ty, hcs, hs⟩
  ·
   have hid' : id < M.NR := by
    have : id < (st.rows ++ [RowA.grow k sz]).length := (List.getElem?_eq_some_iff.1 hid).1
    have hN := h.NR
    simp at this
    omega
   rw [List.getElem?_append_left (by rw [← h.NR]; exact hid')] at hid
   have hk := h.row id y hid
   obtain ⟨o1, o2, o3, o4⟩ := old id hid'
   exact hk.keep hx o1 o4 o2 o3 (tp' _ hk.lt) hk.ne (hh _ hk.lt)
 ·
  have hN : (M.addRow g cap k sz (k * sz)).NR = M.NR + 1 := rfl
  rw [hN] at hi hj
  have new : (M.addRow g cap k sz (k * sz)).blk M.NR = g := by simp [Mem.addRow]
  by_cases e1 : i = M.NR
  ·
   by_cases e2 : j = M.NR
   ·
    omega
   ·
    subst e1
    rw [new, (old j (by omega)).2.1] at hij
    have := h.row_lt (i := j) (by omega)
    omega
  ·
   by_cases e2 : j = M.NR
   ·
    subst e2
    rw [new, (old i (by omega)).2.1] at hij
    have := h.row_lt (i := i) (by omega)
    omega
   ·
    rw [(old i (by omega)).2.1, (old j (by omega)).2.1] at hij
    exact h.rowinj i j (by omega) (by omega) hij
theorem ZuR {w' : World} {e : TypeId} {sz : Nat} {v' : Value} {n : Nat} {us : Nat → Value} {xs : List AV} (hst : RelSt w0 M st w) (hb : Below w.heap.size w w') (ho : w'.ownsRow w.heap.size e sz v' n (flat us n)) (hn : xs.length = n) (h0 : n ≠ 0)
  (hus : ∀ i, i < n → (us i).cells.size = sz) (hR : ∀ i (hi : i < xs.length), R w0 M w (us i) xs[i]) : ∃ M', Ext w0 M w M' w' ∧ RelSt w0 M' { st with rows := st.rows ++ [.grow n sz] } w' ∧ R w0 M' w' v' (.list xs (.row st.rows.length)) := by
 subst hn
 obtain ⟨h1, h2⟩ := ho
 rcases h2 with ⟨rfl, h0'⟩ | ⟨g, cap, cur, rfl, hg, hcur, hc1, hc2, hc3, hc4⟩
 ·
  exact absurd h0' h0
 ·
  obtain ⟨r1, r2⟩ := hst.adoptRow hb hg hcur hc2 hc1 hc3
  have hN := hst.NR
  refine ⟨_, r2, r1, .list sz us hc1 hc2 (fun i hi => ⟨hus i hi, fun j hj => ?_⟩) (fun i hi => (hR i hi).mono r2) ⟨by simp [Mem.addRow, hN], by simp [Mem.addRow, hN], fun _ => by simp [Mem.addRow, hN]⟩⟩
  have hlt : i * sz + j < xs.length * sz := by
   have : (i + 1) * sz ≤ xs.length * sz := Nat.mul_le_mul_right _ hi
   rw [Nat.succ_mul] at this; omega
  refine ⟨.inr (by simp only [Mem.addRow, if_true, Nat.zero_add]; exact hlt), ?_⟩
  have hf := Zez hus i hi j hj
  rw [← hf, ← hc4, List.getElem?_take_of_lt hlt, Array.getElem?_toList]
  simp [World.cell?, hcur]
theorem Zpz {ρ : Ren} (L : Go.Proofs.SlLaysE0.n41 P ρ) (i0 : TypeInfo) (size : Nat) (hi : P.info? (ρ.t 23) = some i0) (hz1 : i0.size = size) (z23 : ∀ w, (Go.sizeOf (ρ.t 23)).run P w = .ok size w) (a : Addr) (c : Nat) (w : World) :
  Calls P (ρ.f 41) #[.slice (some a) 0 c] w fun e w' => ∃ b, e = .returned (.slice (some b) 0 0) ∧ Below w.heap.size w w' := by
 have mixed := L.mixed; have t4 := L.t4; have a4 := L.a4; have z4 := L.z4; have v4 := L.v4; have t22 := L.t22; have a22 := L.a22; have z22 := L.z22; have v22 := L.v22
 have q22 : ∀ (w : World) (a : Option Addr) (n c n' c' : Nat), (binOp .eql (ρ.t 22) (.slice a n c) (.slice none n' c')).run P w = .ok (.bool a.isNone) w := fun w a n c n' c' => Lib.run_eql_slice_nil w _ _ a n c n' c' L.t22
 have u22 : ∀ w, Sem.run P (underlying (ρ.t 22)) w = .ok (TypeDesc.slice (ρ.t 23)) w := run_underlying t22
 have hgo : ∀ (w : World) (ty : TypeId) (ad : Addr), (Builtin.append_ #[ρ.t 22, ρ.t 22] ty #[.slice (some ad) 0 0, .slice (some a) 0 c]).run P w = .ok (.slice (some ad) 0 0) w := fun w ty ad => by
  simp [Builtin.append_, run_underlying t22, sizeOf, typeInfo, hi, hz1, storeCells, Builtin.lenOf, Builtin.firstCells, loadCells, loadCellsFrom]
 obtain ⟨_, _, FG⟩ := L.f41
 go_enter FG, Go.Proofs.SlBodyN.n41_ntmps ρ
 go_wp2_with (at_builtin; refine Lib.wpList_append_run _ rfl _ _ (ρ.t 22) (ρ.t 22) rfl _ _ rfl rfl _ _ (hgo _ _ _) ?_)
 go_wp2
 go_ret
 exact ⟨_, rfl, (Below.refl _ w).alloc (Nat.le_refl _) _⟩
theorem Zqz {ρ : Ren} (L : Go.Proofs.SlLaysE0.n41 P ρ) (hen : Zha P (ρ.f 41)) (size bytes : Nat) (hinf : Ztd P (ρ.t 23) size bytes = true) (hsz : 0 < size) (z23 : ∀ w, (Go.sizeOf (ρ.t 23)).run P w = .ok size w) {xs : List AV} {o : Own}
  (hx : ∀ y ∈ xs, y.cells.length = size ∧ ZaN y = true) (hbig : xs.length * bytes ≤ 140737488355328) :
  ACalls P w0 (ρ.f 41) [.list xs o] st fun r s => r = .list xs (ZiJ xs.length st.rows) ∧ s = { st with rows := Zkw xs.length size st.rows } := by
 obtain ⟨i0, z, hi, hz0, hz1, hz2, hzs⟩ := ZkD hinf
 refine ⟨hen, fun M w vals hst hrow => ?_⟩
 obtain ⟨v, rfl⟩ : ∃ v, vals = #[v] := by
  have := hrow.1
  simp only [List.length_cons, List.length_nil] at this
  exact Array.size_eq_one_iff.1 this
 have hv : R w0 M w v (.list xs o) := hrow.2 0 (by simp) (by simp)
 have zero : ∀ (a : Addr) (c : Nat), xs = [] → Calls P (ρ.f 41) #[.slice (some a) 0 c] w fun en w' => ∃ v M' r st', en = .returned v ∧ (r = .list xs (ZiJ xs.length st.rows) ∧ st' = { st with rows := Zkw xs.length size st.rows }) ∧ Ext w0 M w M' w' ∧ RelSt w0 M' st' w' ∧ R w0 M' w' v r := fun a c hxs => by
  subst hxs
  refine (Zpz L i0 size hi hz1 z23 a c w).mono ?_
  rintro en w' ⟨b, rfl, hbel⟩
  obtain ⟨r1, r2⟩ := hst.later hbel w.heap.size 0 (Nat.le_refl _) (.inr rfl)
  exact ⟨_, _, _, st, rfl, ⟨rfl, rfl⟩, r2, r1, .emp (fun id => by simp [ZiJ])⟩
 cases hv with
 | nil ho =>
  refine (Go.Proofs.AnyE.slices_Clone_nil L 0 0 w).mono ?_
  rintro en w' ⟨rfl, rfl⟩
  exact ⟨_, M, _, st, rfl, ⟨rfl, rfl⟩, .refl _ _ _, hst, .nil (fun id => by simp [ZiJ])⟩
 | @emp ad _ ho => exact zero ad 0 rfl
 | @list b off cap _ _ sz us hc hm hcell hu ho =>
  by_cases h0 : xs = []
  ·
   have := zero ⟨b, off, none⟩ cap h0
   rw [h0]
   rw [h0] at this
   exact this
  have hn0 : xs.length ≠ 0 := fun q => h0 (List.length_eq_zero_iff.1 q)
  have hus : ∀ i, i < xs.length → (us i).cells.size = size := fun i hi => by
   rw [((hu i hi).cells).1]; exact (hx _ (List.getElem_mem _)).1
  have hcell' : ∀ i, i < xs.length → ∀ j, j < size → w.cell? ⟨b, off + i * size + j, none⟩ = (us i).cells[j]? := fun i hi j hj => by
   have e : sz = size := ((hcell i hi).1).symm.trans (hus i hi)
   subst e
   exact ((hcell i hi).2 j hj).2
  refine (Go.Proofs.AnyE.slices_Clone L i0 z size bytes hi hz0 hz1 hz2 hzs hsz z23 b off xs.length cap (flat us xs.length) w (Zax hus) (Nat.le_trans hc hm) hbig (fun j u hj => ?_) (fun u hu' => ?_)).mono ?_
  ·
   have := Zc5 hus hsz hcell' j u hj
   rwa [Zcl] at this
  ·
   obtain ⟨i, hi', hu2⟩ := List.mem_flatMap.1 hu'
   have hil : i < xs.length := by simpa using hi'
   obtain ⟨k, hk, rfl⟩ := List.mem_iff_getElem.1 hu2
   have hcs := (hu i hil).cells
   have hk' : k < (us i).cells.size := by simpa using hk
   have := hcs.2 k hk' (by rw [← hcs.1]; exact hk')
   rw [Array.getElem_toList]
   refine this.oneCell ((hu i hil).cellsOne (fun vs hvs => ?_) _ (List.getElem_mem _))
   have := (hx _ (List.getElem_mem hil)).2
   rw [hvs] at this; cases this
  ·
   rintro en w' ⟨v', rfl, hown, _, hbel⟩
   obtain ⟨M', x1, x2, x3⟩ := ZuR hst hbel hown rfl hn0 hus hu
   refine ⟨v', M', _, _, rfl, ⟨rfl, rfl⟩, x1, ?_, ?_⟩
   ·
    rw [Zkw, if_neg hn0]; exact x2
   ·
    rw [ZiJ, if_neg hn0]; exact x3
end
theorem Ztt {P : Program} {w0 : World} {n : Nat} {M0 : Mem} {W0 : World} {ro : Option Nat} {Q : AQ} {e : Env} {st : St} (hm : P.follows .mixedOrders = true) (ef : List Nat) (L : List Nat) {id : Nat} {l : List Oper} (hB : Zng l ef = true) (F : St → Prop) (k nb : Nat) {e1 : Env} (hnb : st.boxes.length = nb)
  (hF : ∀ s, F s → ∃ c, evK P w0 n true l (fun e' s' => e' = e1 ∧ s' = s) c (Zeu ef 0 l) e s) (hG : Good P w0 n l ef F (fun ev s => ∃ e2 s2, Conv w0 n nb ev s e2 s2 ∧ Q .normal (Zc0 L e2) s2) k [] e1 st) : awp P w0 n M0 W0 ro (.region id l.toArray true) Q e st := by
 intro m M a w hr
 obtain ⟨d1, d2⟩ := hr.rel.st.drew
 refine wpIn_region_any hm (Zmf (e := e) (e1 := e1) (M1 := M) (w1 := w) (ds := a.defers) hB hF (fun ev s M' a' w' hc hrel hx hd => ?_) _ _ a _ M k [] e1 st ?_ hG ?_)
 ·
  obtain ⟨e2, s2, hc, hQ⟩ := hc
  obtain ⟨M2, x2, r2⟩ := hc M' a' w' hrel
  have x3 := x2 M w (hr.rel.st.N.trans hnb) hx
  refine ⟨M2, _, _, ⟨r2.sub (Za6 L _), hr.ext.trans x3, ?_⟩, hQ⟩
  rw [hd]
  exact hr.marks.later x3 hr.rel.st
 ·
  simp
 ·
  have hnl : ∀ j, (Array.replicate l.toArray.size false).getD j false = false := fun j => by
   by_cases c : j < l.length
   ·
    simp [Array.getD_eq_getD_getElem?, c]
   ·
    simp [Array.getD_eq_getD_getElem?, c]
  exact ⟨by simp, fun j _ _ hl => (by rw [hnl] at hl; cases hl), fun i _ => (by rw [hnl]; simp), fun _ h => (nomatch h), d1, hr.rel.size, rfl, d2, fun _ _ => rfl, fun _ _ ⟨_, h, _⟩ => (nomatch h),
   fun _ _ _ ⟨i, _, _, _, _, h⟩ => (by rw [hnl] at h; cases h), fun t x _ hs => (hr.rel.env t x hs).mono d2⟩
theorem Zqu {P : Program} {w0 : World} {f : FuncId} {args args' cs : List AV} {st s' : St} {v : AV} (h : ACalls P w0 f args' st fun r s => r = v ∧ s = s') (he : (args ++ cs).map AV.pubA = args') : ZhH P w0 (.clo f cs) args st fun r t => r = v ∧ t = s' := h.pub he
end Go.Ev
namespace Go.Proofs.YtgpmlelfkjfbiaaGreatDoor
open Go Go.RowKit Go.Ev
def ZdM : Go.Shelf.Ren := ⟨fun | 41 => 52 | n => n, fun | 22 => 37 | 23 => 82 | 4 => 4 | n => n, fun | n => n⟩
theorem Zfb : Go.Proofs.SlLaysE0.n41 Tryz.prog ZdM := {
 mixed := by kernel_rfl
 f41 := ⟨Tryz.f52.name, by decide, Tryz.func52.trans (congrArg some (by kernel_rfl))⟩
 t4 := Tryz.underlying4
 a4 := Tryz.isAgg4
 z4 := Tryz.sizeOf4
 v4 := Tryz.zeroValue4
 t22 := Tryz.underlying37
 a22 := Tryz.isAgg37
 z22 := Tryz.sizeOf37
 v22 := Tryz.zeroValue37 }
theorem Zi2 (w0 : World) (B : List (List AV)) (Rw : List RowA) (L : List LoopA) (l : List Part) (h : l.length * 32 ≤ 140737488355328) :
  ACalls Tryz.prog w0 52 [.list (l.map ZcD) .none] ⟨B, Rw, L⟩ fun r s => r = .list (l.map ZcD) .none ∧ s = ⟨B, Rw, L⟩ :=
 ZjJ (ρ := ZdM) Zfb (ZaH Tryz.func52 rfl (by decide)) 3 32 (by kernel_rfl) (by decide) Tryz.sizeOf82 (by simp +decide only [go_sem]) (by rw [List.length_map]; exact h)
theorem ZiH (w0 : World) (B : List (List AV)) (Rw : List RowA) (L : List LoopA) (l : List Part) (h : l.length * 32 ≤ 140737488355328) :
  ACalls Tryz.prog w0 52 [.list (l.map ZcD) .none] ⟨B, Rw, L⟩ fun r s => r = .list (l.map ZcD) (ZiJ l.length Rw) ∧ s = ⟨B, Zkw l.length 3 Rw, L⟩ := by
 have := Zqz (P := Tryz.prog) (w0 := w0) (st := ⟨B, Rw, L⟩) (o := .none) (xs := l.map ZcD) (ρ := ZdM) Zfb (ZaH Tryz.func52 rfl (by decide)) 3 32 (by kernel_rfl) (by decide) Tryz.sizeOf82 (by simp +decide only [go_sem]) (by rw [List.length_map]; exact h)
 rw [List.length_map] at this
 exact this
def ZeQ : Go.Shelf.Ren := ⟨fun | 41 => 106 | n => n, fun | 22 => 22 | 23 => 9 | 4 => 4 | n => n, fun | n => n⟩
theorem Zg8 : Go.Proofs.SlLaysE0.n41 Tryz.prog ZeQ := {
 mixed := by kernel_rfl
 f41 := ⟨Tryz.f106.name, by decide, Tryz.func106.trans (congrArg some (by kernel_rfl))⟩
 t4 := Tryz.underlying4
 a4 := Tryz.isAgg4
 z4 := Tryz.sizeOf4
 v4 := Tryz.zeroValue4
 t22 := Tryz.underlying22
 a22 := Tryz.isAgg22
 z22 := Tryz.sizeOf22
 v22 := Tryz.zeroValue22 }
theorem Zh2 (w0 : World) (B : List (List AV)) (Rw : List RowA) (L : List LoopA) (l : List ByteArray) (h : l.length * 16 ≤ 140737488355328) :
  ACalls Tryz.prog w0 106 [.list (l.map avS) .none] ⟨B, Rw, L⟩ fun r s => r = .list (l.map avS) .none ∧ s = ⟨B, Rw, L⟩ :=
 ZjJ (ρ := ZeQ) Zg8 (ZaH Tryz.func106 rfl (by decide)) 1 16 (by kernel_rfl) (by decide) Tryz.sizeOf9 (by simp +decide only [go_sem]) (by rw [List.length_map]; exact h)
end Go.Proofs.YtgpmlelfkjfbiaaGreatDoor
namespace Go.Ev
open Go Go.RowKit Go.Shelf Go.Sort Go.Proofs
theorem Zhp {α β : Type} {f : α → List β} {sz : Nat} : ∀ {xs : List α}, (∀ x ∈ xs, (f x).length = sz) → (xs.flatMap f).length = xs.length * sz
 | [], _ => by simp
 | x :: xs, h => by
  rw [List.flatMap_cons, List.length_append, h x (List.mem_cons_self ..), Zhp (fun y hy => h y (List.mem_cons_of_mem _ hy)), List.length_cons, Nat.succ_mul, Nat.add_comm]
theorem ZjA {α β : Type} {f : α → List β} {sz : Nat} : ∀ {xs : List α}, (∀ x ∈ xs, (f x).length = sz) → ∀ (i : Nat) (hi : i < xs.length) (j : Nat), j < sz → (xs.flatMap f)[i * sz + j]? = (f xs[i])[j]?
 | [], _, i, hi, _, _ => absurd hi (by simp)
 | x :: xs, h, 0, hi, j, hj => by
  rw [List.flatMap_cons, Nat.zero_mul, Nat.zero_add, List.getElem?_append_left (by rw [h x (List.mem_cons_self ..)]; exact hj)]
  rfl
 | x :: xs, h, i + 1, hi, j, hj => by
  have hl := h x (List.mem_cons_self ..)
  rw [List.flatMap_cons, Nat.succ_mul, List.getElem?_append_right (by omega), hl, show i * sz + sz + j - sz = i * sz + j by omega]
  exact ZjA (fun y hy => h y (List.mem_cons_of_mem _ hy)) i (by simpa using hi) j hj
abbrev cbL : List UInt8 → List UInt8 → Int := Lib.compareBytes
theorem Zqn : ∀ a, cbL a a = 0
 | [] => rfl
 | x :: a => by simp only [cbL, Lib.compareBytes, UInt8.lt_irrefl, if_false]; exact Zqn a
theorem Zlz : ∀ a b, cbL b a = - cbL a b
 | [], [] => rfl
 | [], _ :: _ => rfl
 | _ :: _, [] => rfl
 | x :: a, y :: b => by
  have ih := Zlz a b
  simp only [cbL, Lib.compareBytes] at *
  by_cases h1 : x < y
  ·
   have h2 : ¬ y < x := fun h => by rw [UInt8.lt_iff_toNat_lt] at *; omega
   simp [h1, h2]
  ·
   by_cases h2 : y < x
   ·
    simp [h1, h2]
   ·
    simp only [h1, h2, if_false]; exact ih
theorem Zlm : ∀ a b c, cbL a b ≤ 0 → cbL b c ≤ 0 → cbL a c ≤ 0 ∧ (cbL a b < 0 ∨ cbL b c < 0 → cbL a c < 0)
 | [], [], c, _, h => ⟨h, fun q => q.elim (fun q => absurd q (by decide)) id⟩
 | [], _ :: _, [], _, h => absurd (show (1 : Int) ≤ 0 from h) (by decide)
 | [], _ :: _, _ :: _, _, _ => ⟨show (-1 : Int) ≤ 0 by decide, fun _ => show (-1 : Int) < 0 by decide⟩
 | _ :: _, [], c, h, _ => absurd (show (1 : Int) ≤ 0 from h) (by decide)
 | _ :: _, _ :: _, [], _, h => absurd (show (1 : Int) ≤ 0 from h) (by decide)
 | x :: a, y :: b, z :: c, h1, h2 => by
  have ih := Zlm a b c
  simp only [cbL, Lib.compareBytes, UInt8.lt_iff_toNat_lt] at *
  by_cases p1 : x.toNat < y.toNat
  ·
   by_cases p2 : y.toNat < z.toNat
   ·
    have : x.toNat < z.toNat := by omega
    simp [this]
   ·
    by_cases p3 : z.toNat < y.toNat
    ·
     simp [p2, p3] at h2
    ·
     have : x.toNat < z.toNat := by omega
     simp [this]
  ·
   by_cases p4 : y.toNat < x.toNat
   ·
    simp [p1, p4] at h1
   ·
    simp only [p1, p4, if_false] at h1
    by_cases p2 : y.toNat < z.toNat
    ·
     have : x.toNat < z.toNat := by omega
     simp [this]
    ·
     by_cases p3 : z.toNat < y.toNat
     ·
      simp [p2, p3] at h2
     ·
      simp only [p2, p3, if_false] at h2
      have e1 : ¬ x.toNat < z.toNat := by omega
      have e2 : ¬ z.toNat < x.toNat := by omega
      simp only [p1, p4, p2, p3, e1, e2, if_false]
      exact ih h1 h2
theorem ZtJ {α : Type} (nm : α → ByteArray) : SWO (ltOf fun x y : α => Lib.compareBytes (nm x).data.toList (nm y).data.toList) where
 irrefl x := by simp only [ltOf, decide_eq_false_iff_not]; have := Zqn (nm x).data.toList; simp only [cbL] at this; omega
 trans x y z h1 h2 := by
  simp only [ltOf, decide_eq_true_eq] at *
  exact (Zlm (nm x).data.toList (nm y).data.toList (nm z).data.toList (by simp only [cbL]; omega) (by simp only [cbL]; omega)).2 (.inl h1)
 ntrans x y z h1 h2 := by
  simp only [ltOf, decide_eq_false_iff_not] at *
  have a := Zlz (nm x).data.toList (nm y).data.toList
  have b := Zlz (nm y).data.toList (nm z).data.toList
  have c := Zlz (nm x).data.toList (nm z).data.toList
  have := (Zlm (nm z).data.toList (nm y).data.toList (nm x).data.toList (by simp only [cbL] at *; omega) (by simp only [cbL] at *; omega)).1
  simp only [cbL] at *
  omega
def Zi1 (nm : Nat → ByteArray) (n : Nat) : List Nat := (pdq (ltOf fun i j : Nat => Lib.compareBytes (nm i).data.toList (nm j).data.toList) (Array.range n) 0 n (Lib.bitLen n) true true).toList
theorem ZkK (nm : Nat → ByteArray) (n : Nat) : (Zi1 nm n).Perm (List.range n) ∧ ∀ i j, i < j → j < n → ¬ Lib.compareBytes (nm ((Zi1 nm n)[j]!)).data.toList (nm ((Zi1 nm n)[i]!)).data.toList < 0 := by
 have h := pdq_sorts (ltOf fun i j : Nat => Lib.compareBytes (nm i).data.toList (nm j).data.toList) (ZtJ nm) (Array.range n) 0 n (Lib.bitLen n) true true (Nat.zero_le _) (by simp) (Or.inl rfl)
 obtain ⟨⟨h1, h2, h3⟩, h4⟩ := h
 have e1 : (pdq (ltOf fun i j : Nat => Lib.compareBytes (nm i).data.toList (nm j).data.toList) (Array.range n) 0 n (Lib.bitLen n) true true).size = n := by simpa using h1
 refine ⟨?_, fun i j hi hj => ?_⟩
 ·
  have e2 : ((pdq (ltOf fun i j : Nat => Lib.compareBytes (nm i).data.toList (nm j).data.toList) (Array.range n) 0 n (Lib.bitLen n) true true).extract 0 n).toList = Zi1 nm n := by
   unfold Zi1
   rw [Array.toList_extract]
   simp only [List.extract, Nat.sub_zero, List.drop_zero]
   exact List.take_of_length_le (by rw [Array.length_toList, e1]; exact Nat.le_refl _)
  rw [e2] at h3
  have e3 : ((Array.range n).extract 0 n).toList = List.range n := by simp [List.extract, Array.toList_range]
  rwa [e3] at h3
 ·
  have := h4 i j (Nat.zero_le _) hi hj
  unfold ltOf at this
  have := of_decide_eq_false this
  unfold Zi1
  have g : ∀ k, k < n → ((pdq (ltOf fun i j : Nat => Lib.compareBytes (nm i).data.toList (nm j).data.toList) (Array.range n) 0 n (Lib.bitLen n) true true).toList)[k]! = (pdq (ltOf fun i j : Nat => Lib.compareBytes (nm i).data.toList (nm j).data.toList) (Array.range n) 0 n (Lib.bitLen n) true true)[k]! := fun k hk => by
   rw [getElem!_pos _ k (by rw [Array.length_toList, e1]; exact hk), getElem!_pos _ k (by rw [e1]; exact hk), Array.getElem_toList]
  rw [g i (by omega), g j hj]
  exact this
theorem Zel (nm : Nat → ByteArray) (n : Nat) : (Zi1 nm n).length = n := by simpa using (ZkK nm n).1.length_eq
theorem ZrP (nm : Nat → ByteArray) (n : Nat) : ∀ i ∈ Zi1 nm n, i < n := fun i hi => by simpa using (ZkK nm n).1.mem_iff.1 hi
def ZjV {α : Type} (nm : α → ByteArray) (d : α) (xs : List α) : List α := (Zi1 (fun i => nm (xs.getD i d)) xs.length).map fun i => xs.getD i d
section
variable {P : Program} {w0 : World} {st : St} {M : Mem} {w : World}
theorem RelSt.setVec (h : RelSt w0 M st w) {id ver sz : Nat} {cs cs' : List AV} {w' : World} (hid : st.rows[id]? = some (.vec ver sz cs)) (hb : Below w0.heap.size w w') (hoth : ∀ b, b < w.heap.size → b ≠ M.blk id → w'.heap[b]? = w.heap[b]?)
  {c' : Array Value} {ty : TypeId} (hc : w'.heap[M.blk id]? = some (.cells c' ty (0, 0))) (hsz : c'.size = M.cap id * sz) (hle : cs'.length ≤ c'.size) (hone : ∀ x ∈ cs', x.one = true) (hR : ∀ i (h1 : i < c'.size) (h2 : i < cs'.length), R w0 M w c'[i] cs'[i]) :
  Ext w0 M w M w' ∧ RelSt w0 M { st with rows := st.rows.set id (.vec ver sz cs') } w' := by
 have hidl : id < st.rows.length := (List.getElem?_eq_some_iff.1 hid).1
 have hidN : id < M.NR := by rw [h.NR]; exact hidl
 obtain ⟨f1, f2, f3, f4, f5, f6, f7, c, ty0, f8, f9, f10, f11, f12⟩ := h.row id _ hid
 have hko : KeepsObj w w' := fun b o h1 h2 => by
  have hlt := (Array.getElem?_eq_some_iff.1 h1).1
  by_cases q : b = M.blk id
  ·
   subst q; rw [f8] at h1; cases h1; cases h2
  ·
   exact (hoth b hlt q).trans h1
 have hx : Ext w0 M w M w' :=
  ⟨Nat.le_refl _, fun _ _ => rfl, Nat.le_refl _, fun _ _ => ⟨Nat.le_refl _, fun _ => ⟨rfl, rfl, rfl⟩⟩, fun b off v hi hv => by
   have hlt := World.block_lt_of_cell? w _ hv
   refine ⟨?_, hi⟩
   have q : b ≠ M.blk id := by
    rintro rfl
    rcases hi with hi | hi
    ·
     omega
    ·
     rw [f4] at hi; omega
   unfold World.cell? at hv ⊢
   simp only [hoth b hlt q] at hv ⊢
   exact hv, hb.size, Nat.le_refl _, fun _ _ => rfl, fun _ h1 h2 => absurd h2 (Nat.not_lt.2 h1), fun b o h1 h2 _ => hko b o h1 h2⟩
 refine ⟨hx, h.below.trans hb, h.N, by simp [h.NR], fun b hb' => h.top b (Nat.le_trans hb.size hb'), h.inj, fun l cs0 hl => ?_, fun i x hi => ?_, h.rowinj, h.loop.mono hx rfl hko⟩
 ·
  obtain ⟨a1, a2, c2, ty2, a3, a4, a5, a6⟩ := h.box l cs0 hl
  have hlN : l < M.N := by rw [h.N]; exact (List.getElem?_eq_some_iff.1 hl).1
  exact ⟨a1, a2, c2, ty2, by rw [hoth _ (Array.getElem?_eq_some_iff.1 a3).1 (f5 l hlN)]; exact a3, a4, a5, fun i h1 h2 => (a6 i h1 h2).mono hx⟩
 ·
  by_cases q : i = id
  ·
   subst q
   rw [List.getElem?_set_self hidl] at hi
   cases hi
   exact ⟨f1, f2, f3, f4, f5, f6, f7, c', ty, hc, hsz, hle, hone, fun i h1 h2 => (hR i h1 h2).mono hx⟩
  ·
   rw [List.getElem?_set_ne (Ne.symm q)] at hi
   have hiN : i < M.NR := by rw [h.NR]; exact (List.getElem?_eq_some_iff.1 hi).1
   have hk := h.row i x hi
   have hne : M.blk i ≠ M.blk id := fun e => q (h.rowinj i id hiN hidN e)
   exact hk.keep hx rfl rfl rfl rfl rfl hk.ne (hoth _ hk.lt hne)
theorem Zq8 {ρ : Ren} (L : SlLaysF0.n6 P ρ) (hen : Zha P (ρ.f 6)) (k : Nat) (aE : ∀ w, (isAgg (ρ.t 24)).run P w = .ok true w) (zE : ∀ w, (Go.sizeOf (ρ.t 24)).run P w = .ok (k + 1) w) (g : FuncId) (hg : Zha P g)
  (hcmp : ∀ (s s' : ByteArray) (r r' : List Value) (W : World), r.length = k → r'.length = k → (∀ v ∈ r, v.oneCell' = true) → (∀ v ∈ r', v.oneCell' = true) →
   Calls P g #[.agg (.string s :: r).toArray, .agg (.string s' :: r').toArray] W fun e w' => e = .returned (.int .i64 (Lib.compareBytes s.data.toList s'.data.toList)) ∧ ∃ q os', w' = grow (W.drewN q) os')
  {α : Type} (f : α → AV) (nm : α → ByteArray) (d : α) (l : List α) (hf : ∀ x, ∃ r, f x = .agg (.val (.string (nm x)) :: r) ∧ r.length = k) {rid ver : Nat} (hid : st.rows[rid]? = some (.vec ver (k + 1) (l.flatMap fun x => (f x).cells))) (hn : 0 < l.length) (hz : l.length < 4611686018427387904) :
  ACalls P w0 (ρ.f 6) [.vec rid ver 0 l.length, .clo g []] st fun r s => r = .tup [] ∧ s = { st with rows := st.rows.set rid (.vec ver (k + 1) ((ZjV nm d l).flatMap fun x => (f x).cells)) } := by
 refine ⟨hen, fun M w vals hst hrow => ?_⟩
 obtain ⟨v0, v1, rfl⟩ : ∃ v0 v1, vals = #[v0, v1] := by
  have hs := hrow.1
  simp only [List.length_cons, List.length_nil] at hs
  match vals, hs with
  | ⟨[a, b]⟩, _ => exact ⟨a, b, rfl⟩
 have h0 : R w0 M w v0 (.vec rid ver 0 l.length) := hrow.2 0 (by simp) (by simp)
 have h1 : R w0 M w v1 (.clo g []) := hrow.2 1 (by simp) (by simp)
 obtain ⟨cs1, rfl, hc1⟩ := ZnA h1
 have : cs1 = #[] := Array.size_eq_zero_iff.1 hc1.1
 subst this
 have hfl : ∀ x, (f x).cells.length = k + 1 := fun x => by obtain ⟨r, e, hr⟩ := hf x; rw [e]; simp [AV.cells, hr]
 have hcl : (l.flatMap fun x => (f x).cells).length = l.length * (k + 1) := Zhp fun x _ => hfl x
 obtain ⟨f1, f2, f3, f4, f5, f6, f7, c, ty, f8, f9, f10, f11, f12⟩ := hst.row rid _ hid
 cases h0 with
 | @vec _ _ _ _ p cap hi hver hh =>
 obtain ⟨rfl, hcap, hm⟩ := hh f1.symm
 have hblk : M.blk rid < w.heap.size := (Array.getElem?_eq_some_iff.1 f8).1
 have hle : l.length * (k + 1) ≤ c.size := by rw [← hcl]; exact f10
 -- the elements, by their number
 let enc : Nat → List Value := fun i => if i < l.length then (c.toList.drop (i * (k + 1))).take (k + 1) else .string (nm d) :: List.replicate k (.int .i64 0)
 have bnd : ∀ i, i < l.length → i * (k + 1) + (k + 1) ≤ c.size := fun i hi => by
  have : (i + 1) * (k + 1) ≤ l.length * (k + 1) := Nat.mul_le_mul_right _ hi
  rw [Nat.succ_mul] at this; omega
 have hk : ∀ i, (enc i).length = k + 1 := fun i => by
  simp only [enc]; split
  ·
   rename_i q; have := bnd i q; simp; omega
  ·
   simp
 have eget : ∀ i, i < l.length → ∀ j, j < k + 1 → (enc i)[j]? = c[i * (k + 1) + j]? := fun i hi j hj => by
  simp only [enc, if_pos hi]
  rw [List.getElem?_take_of_lt hj, List.getElem?_drop, Array.getElem?_toList]
 have cR : ∀ i (hi : i < l.length) j (hj : j < k + 1), ∃ v x, c[i * (k + 1) + j]? = some v ∧ (f l[i]).cells[j]? = some x ∧ x.one = true ∧ R w0 M w v x := fun i hi j hj => by
  have hb := bnd i hi
  have hlt : i * (k + 1) + j < c.size := by omega
  have hlt2 : i * (k + 1) + j < (l.flatMap fun x => (f x).cells).length := by rw [hcl]; have : (i + 1) * (k + 1) ≤ l.length * (k + 1) := Nat.mul_le_mul_right _ hi; rw [Nat.succ_mul] at this; omega
  have e := ZjA (f := fun x => (f x).cells) (xs := l) (fun x _ => hfl x) i hi j hj
  rw [List.getElem?_eq_getElem hlt2] at e
  exact ⟨_, _, Array.getElem?_eq_getElem hlt, e.symm, f11 _ (List.getElem_mem _), f12 _ hlt hlt2⟩
 have hone : ∀ i, ∀ v ∈ enc i, v.oneCell' = true := fun i v hv => by
  by_cases q : i < l.length
  ·
   obtain ⟨j, hj, rfl⟩ := List.mem_iff_getElem.1 hv
   have hj' : j < k + 1 := by rw [hk] at hj; exact hj
   obtain ⟨v, x, e1, e2, e3, e4⟩ := cR i q j hj'
   have := eget i q j hj'
   rw [List.getElem?_eq_getElem hj, e1] at this
   cases this
   exact e4.oneCell e3
  ·
   simp only [enc, if_neg q, List.mem_cons, List.mem_replicate] at hv
   rcases hv with rfl | ⟨_, rfl⟩ <;> rfl
 let nmI : Nat → ByteArray := fun i => nm (l.getD i d)
 have henc : ∀ i, ∃ r, enc i = .string (nmI i) :: r ∧ r.length = k := fun i => by
  by_cases q : i < l.length
  ·
   obtain ⟨v, x, e1, e2, e3, e4⟩ := cR i q 0 (by omega)
   obtain ⟨r, er, hr⟩ := hf l[i]
   rw [er] at e2
   simp only [AV.cells, List.getElem?_cons_zero, Option.some.injEq] at e2
   subst e2
   have ev : v = .string (nm l[i]) := by cases e4; rfl
   subst ev
   have hg := eget i q 0 (by omega)
   rw [e1] at hg
   cases he : enc i with
   | nil => rw [he] at hg; cases hg
   | cons y ys =>
    rw [he] at hg
    simp only [List.getElem?_cons_zero, Option.some.injEq] at hg
    have hl := hk i
    rw [he] at hl
    refine ⟨ys, ?_, by simpa using hl⟩
    simp only [nmI, List.getD_eq_getElem?_getD, List.getElem?_eq_getElem q, Option.getD_some, hg]
  ·
   exact ⟨List.replicate k (.int .i64 0), by simp only [enc, nmI, if_neg q, List.getD_eq_getElem?_getD, List.getElem?_eq_none (Nat.le_of_not_lt q), Option.getD_none], by simp⟩
 let cf : Nat → Nat → Int := fun i j => Lib.compareBytes (nmI i).data.toList (nmI j).data.toList
 have hlays : CmpLays P g #[] enc (k + 1) cf (M.blk rid) 0 (Array.range l.length).size w := by
  intro m os dk hdk x y
  obtain ⟨r, e1, e2⟩ := henc x
  obtain ⟨r', e3, e4⟩ := henc y
  have a1 := hone x
  have a2 := hone y
  rw [e1] at a1
  rw [e3] at a2
  have := hcmp (nmI x) (nmI y) r r' (sortWorldK enc (k + 1) w (M.blk rid) 0 m dk os) e2 e4 (fun v hv => a1 v (List.mem_cons_of_mem _ hv)) (fun v hv => a2 v (List.mem_cons_of_mem _ hv))
  simp only [e1, e3, cf]
  exact this
 have hH : HoldsK enc (k + 1) w (M.blk rid) 0 (Array.range l.length) := by
  intro t ht
  rw [size_flatK, Array.size_range] at ht
  rw [get_flatK _ _ _ _ (by simpa using ht)]
  have hq : t / (k + 1) < l.length := Nat.div_lt_of_lt_mul (by rw [Nat.mul_comm]; exact ht)
  have hr : t % (k + 1) < k + 1 := Nat.mod_lt _ (by omega)
  have e1 : ((Array.range l.length)[t / (k + 1)]! : Nat) = t / (k + 1) := by simp [hq]
  have e2 := eget _ hq _ hr
  have e3 : t / (k + 1) * (k + 1) + t % (k + 1) = t := by rw [Nat.mul_comm]; exact Nat.div_add_mod t (k + 1)
  rw [e3] at e2
  rw [e1]
  have hlt : t < c.size := by omega
  have hl2 : t % (k + 1) < (enc (t / (k + 1))).length := by rw [hk]; exact hr
  rw [getElem!_pos (enc (t / (k + 1))) _ hl2]
  rw [List.getElem?_eq_getElem hl2, Array.getElem?_eq_getElem hlt] at e2
  refine ⟨?_, ?_⟩
  ·
   simp only [World.cell?, f8, Nat.zero_add, id_eq]
   rw [Array.getElem?_eq_getElem hlt]
   exact e2.symm
  ·
   simp [World.frozen?, f8]
 have hS := AnyQ.slices_SortFunc_eq L (k + 1) aE zE enc hk hone cf (ZtJ nmI) g #[] (M.blk rid) 0 cap (Array.range l.length) w (fun a w' => by
   have := hg a w'
   exact this) hlays hH hblk (by simpa using hz)
 simp only [Array.size_range] at hS
 have e0 : (some ⟨M.blk rid, 0 * M.rsz rid, none⟩ : Option Addr) = some ⟨M.blk rid, 0, none⟩ := by rw [Nat.zero_mul]
 rw [e0]
 refine hS.mono ?_
 rintro en w' ⟨rfl, m, os, rfl⟩
 -- what the sort leaves
 let D := pdq (ltOf cf) (Array.range l.length) 0 l.length (Lib.bitLen l.length) true true
 have hD : D.toList = Zi1 nmI l.length := rfl
 have hDs : D.size = l.length := by rw [← Array.length_toList, hD, Zel]
 have hDi : ∀ i, i < l.length → (D[i]! : Nat) < l.length := fun i hi => by
  have hi' : i < D.size := by omega
  rw [getElem!_pos D i hi']
  exact ZrP nmI l.length _ (by rw [← hD]; exact Array.getElem_mem_toList hi')
 have hDg : ∀ i (hi : i < l.length), (Zi1 nmI l.length)[i]'(by rw [Zel]; exact hi) = (D[i]! : Nat) := fun i hi => by
  have hi' : i < D.size := by omega
  rw [getElem!_pos D i hi', ← Array.getElem_toList]
  simp only [hD]
 let F := flatK enc (k + 1) D
 have hF : F.size = l.length * (k + 1) := by simp only [F, size_flatK, hDs]
 let c' : Array Value := putCells id 0 F c
 have hsl : (ZjV nm d l).length = l.length := by simp only [ZjV, List.length_map]; exact Zel _ _
 have hcl' : ((ZjV nm d l).flatMap fun x => (f x).cells).length = l.length * (k + 1) := by rw [Zhp fun x _ => hfl x, hsl]
 have key : ∀ t, t < l.length * (k + 1) → ∃ v x, c'[t]? = some v ∧ ((ZjV nm d l).flatMap fun x => (f x).cells)[t]? = some x ∧ x.one = true ∧ R w0 M w v x := fun t ht => by
  have hq : t / (k + 1) < l.length := Nat.div_lt_of_lt_mul (by rw [Nat.mul_comm]; exact ht)
  have hr : t % (k + 1) < k + 1 := Nat.mod_lt _ (by omega)
  have e3 : t / (k + 1) * (k + 1) + t % (k + 1) = t := by rw [Nat.mul_comm]; exact Nat.div_add_mod t (k + 1)
  obtain ⟨v, x, e1, e2, e4, e5⟩ := cR _ (hDi _ hq) _ hr
  refine ⟨v, x, ?_, ?_, e4, e5⟩
  ·
   have hlt : t < c.size := by omega
   simp only [c', putCells, Array.getElem?_mapIdx, Array.getElem?_eq_getElem hlt, Option.map_some, Nat.zero_add, Nat.zero_le, true_and, hF, if_pos ht, Nat.sub_zero, id_eq]
   simp only [F]
   rw [get_flatK _ _ _ _ (by rw [hDs]; exact ht)]
   have hl2 : t % (k + 1) < (enc (D[t / (k + 1)]!)).length := by rw [hk]; exact hr
   rw [getElem!_pos (enc (D[t / (k + 1)]!)) _ hl2, ← List.getElem?_eq_getElem hl2, eget _ (hDi _ hq) _ hr]
   exact e1
  ·
   have e6 := ZjA (f := fun x => (f x).cells) (xs := ZjV nm d l) (fun x _ => hfl x) (t / (k + 1)) (by rw [hsl]; exact hq) (t % (k + 1)) hr
   rw [e3] at e6
   rw [e6]
   have e7 : (ZjV nm d l)[t / (k + 1)]'(by rw [hsl]; exact hq) = l[(D[t / (k + 1)]! : Nat)]'(hDi _ hq) := by
    simp only [ZjV, List.getElem_map]
    rw [show (Zi1 (fun i => nm (l.getD i d)) l.length)[t / (k + 1)]'(by rw [Zel]; exact hq) = (D[t / (k + 1)]! : Nat) from hDg _ hq]
    rw [List.getD_eq_getElem?_getD, List.getElem?_eq_getElem (hDi _ hq), Option.getD_some]
   rw [e7]
   exact e2
 have hcs' : c'.size = c.size := by simp [c', putCells]
 have hheap : (sortWorldK enc (k + 1) w (M.blk rid) 0 m D os).heap = w.heap.modify (M.blk rid) (onCells (putCells id 0 F)) ++ os := rfl
 have hoth : ∀ b, b < w.heap.size → b ≠ M.blk rid → (sortWorldK enc (k + 1) w (M.blk rid) 0 m D os).heap[b]? = w.heap[b]? := fun b hb hne => by
  rw [hheap, Array.getElem?_append_left (by simpa using hb), Array.getElem?_modify, if_neg (fun q => hne q.symm)]
 obtain ⟨x1, x2⟩ := hst.setVec (c' := c') (ty := ty) (cs' := (ZjV nm d l).flatMap fun x => (f x).cells) (w' := sortWorldK enc (k + 1) w (M.blk rid) 0 m D os) hid
  ⟨rfl, rfl, rfl, by rw [hheap]; simp, fun b hb => hoth b (Nat.lt_of_lt_of_le hb hst.base_le) (by omega)⟩ hoth
  (by rw [hheap, Array.getElem?_append_left (by simpa using hblk), Array.getElem?_modify, if_pos rfl, f8]; rfl) (by rw [hcs']; exact f9) (by rw [hcl', hcs']; exact hle)
  (fun x hx => by
   obtain ⟨t, ht, rfl⟩ := List.mem_iff_getElem.1 hx
   rw [hcl'] at ht
   obtain ⟨v, y, _, e2, e3, _⟩ := key t ht
   rw [List.getElem?_eq_getElem (by rw [hcl']; exact ht)] at e2
   cases e2
   exact e3)
  (fun t h1 h2 => by
   rw [hcl'] at h2
   obtain ⟨v, y, e1, e2, _, e4⟩ := key t h2
   rw [List.getElem?_eq_getElem (by rw [hcl']; exact h2)] at e2
   rw [Array.getElem?_eq_getElem h1] at e1
   cases e1; cases e2
   exact e4)
 exact ⟨.tuple #[], M, .tup [], _, rfl, ⟨rfl, rfl⟩, x1, x2, .tup rfl (fun i h1 _ => absurd h1 (by simp))⟩
end
structure VOne (Rw rows : List RowA) (sz : Nat) (xs : List AV) (x : AV) : Prop where
 pre : Rw <+: rows
 calm : ∀ r ∈ rows.drop Rw.length, ∀ y ∈ r.cells, ∀ a b c, Under a b c y
 at_ : (xs = [] ∧ x = .list [] .seed) ∨ ∃ id ver, x = .vec id ver 0 xs.length ∧ 0 < xs.length ∧ Rw.length ≤ id ∧ rows[id]? = some (.vec ver sz (xs.flatMap AV.cells))
theorem VOne.none (Rw : List RowA) (sz : Nat) : VOne Rw Rw sz [] (.list [] .seed) := ⟨List.prefix_refl _, by simp, .inl ⟨rfl, rfl⟩⟩
theorem VOne.of_eq {Rw rows : List RowA} {sz : Nat} {xs ys : List AV} {x : AV} (h : VOne Rw rows sz xs x) (he : xs = ys) : VOne Rw rows sz ys x := he ▸ h
theorem VOne.len {Rw rows : List RowA} {sz : Nat} {xs : List AV} {x : AV} (h : VOne Rw rows sz xs x) : Rw.length ≤ rows.length := h.pre.length_le
theorem VOne.under {Rw rows : List RowA} {sz : Nat} {xs : List AV} {x : AV} (h : VOne Rw rows sz xs x) (nb nl : Nat) : Under nb rows.length nl x := by
 rcases h.at_ with ⟨_, rfl⟩ | ⟨id, ver, rfl, _, _, h3⟩
 ·
  exact .list (by simp) trivial
 ·
  exact .vec (List.getElem?_eq_some_iff.1 h3).1
theorem VOne.cell {Rw rows : List RowA} {sz : Nat} {xs : List AV} {x : AV} (h : VOne Rw rows sz xs x) : x.cells = [x] ∧ ZaN x = true ∧ x.pubCell.pubCell = x.pubCell := by
 rcases h.at_ with ⟨_, rfl⟩ | ⟨id, ver, rfl, _, _, h3⟩ <;> exact ⟨rfl, rfl, rfl⟩
theorem VOne.append {P : Program} {t el : TypeId} {sz by8 : Nat} {ag : Bool} {Rw rows : List RowA} {xs : List AV} {x y : AV} (h : VOne Rw rows sz xs x) (he : elT P t = some (el, sz, ag, by8)) (hz : (Zcj P el).isSome = true) (hs : 0 < sz)
  (hb : (xs.length + 1) * by8 ≤ 140737488355328) (hb2 : xs.length + 1 ≤ 4611686018427387904) (hy : y.cells.length = sz ∧ ZaN y = true) (hp : y.pub = y) (hu : ∀ c ∈ y.cells, ∀ a b d, Under a b d c) (hxs : ∀ z ∈ xs, z.cells.length = sz) :
  ∃ x' rows', VOne Rw rows' sz (xs ++ [y]) x' ∧ ∀ (B : List (List AV)) (L : List LoopA) (o2 : Own), Zbo P ⟨B, rows, L⟩ t x (.list [y] o2) = (True, x', ⟨B, rows', L⟩) := by
 have hl := h.len
 have ob : ZbM P el sz by8 xs.length [y] = True := by
  simp only [ZbM, hs, hz, List.length_singleton, hb, hb2, true_and, List.mem_singleton, forall_eq, hy, and_self]
 rcases h.at_ with ⟨rfl, rfl⟩ | ⟨id, ver, rfl, h1, h2, h3⟩
 ·
  refine ⟨.vec rows.length 0 0 1, rows ++ [.vec 0 sz y.cells], ⟨h.pre.trans (List.prefix_append _ _), fun r hr z hz' a b c => ?_, .inr ⟨rows.length, 0, rfl, by simp, hl, by simp⟩⟩, fun B L o2 => ?_⟩
  ·
   rw [List.drop_append_of_le_length hl] at hr
   rcases List.mem_append.1 hr with hr | hr
   ·
    exact h.calm r hr z hz' a b c
   ·
    simp only [List.mem_singleton] at hr; subst hr; exact hu z hz' a b c
  ·
   simp only [Zbo, he, ZaI, Zbw, List.length_singleton, List.length_nil, List.flatMap_cons, List.flatMap_nil, List.append_nil, hp]
   rw [show ZbM P el sz by8 0 [y] = True from ob]
   simp
 ·
  have hlt := (List.getElem?_eq_some_iff.1 h3).1
  have hcl : (xs.flatMap AV.cells).length = xs.length * sz := Zhp hxs
  refine ⟨.vec id (ver + 1) 0 (xs.length + 1), rows.set id (.vec (ver + 1) sz (xs.flatMap AV.cells ++ y.cells)), ⟨Zfe h.pre h2 _, fun r hr z hz' a b c => ?_, .inr ⟨id, ver + 1, by rw [List.length_append]; rfl, by simp, h2, by simp [hlt, List.flatMap_append]⟩⟩, fun B L o2 => ?_⟩
  ·
   rw [List.drop_set, if_neg (by omega)] at hr
   rcases List.mem_or_eq_of_mem_set hr with hr | rfl
   ·
    exact h.calm r hr z hz' a b c
   ·
    rcases List.mem_append.1 hz' with q | q
    ·
     exact h.calm (.vec ver sz (xs.flatMap AV.cells)) (by
      rw [List.mem_iff_getElem?]
      exact ⟨id - Rw.length, by rw [List.getElem?_drop, Nat.add_sub_cancel' h2]; exact h3⟩) z q a b c
    ·
     exact hu z q a b c
  ·
   simp only [Zbo, he, ZaI, Zbw, List.length_singleton, List.flatMap_cons, List.flatMap_nil, List.append_nil, hp, ZfF, h3, if_true]
   rw [ob]
   simp only [hcl, true_and, Nat.le_refl, and_self, Prod.mk.injEq, true_and, List.take_of_length_le (Nat.le_of_eq hcl)]
section
variable {P : Program} {w0 : World} {n : Nat} {e : Env} {st : St} {M0 : Mem} {W0 : World} {ro : Option Nat} {Q : AQ} {c : Code}
theorem tdV {B0 B bs X : List (List AV)} {Rw rows : List RowA} {L : List LoopA} {sz : Nat} {xs : List AV} {x : AV} (hN : M0.N = B0.length) (hNR : M0.NR = Rw.length) (hNL : M0.NL = L.length) (hc : Calm B0.length Rw.length L.length ⟨B, Rw, L⟩) (ho : VOne Rw rows sz xs x)
  (h : awp P w0 n M0 W0 ro c Q e ⟨B ++ bs, rows, L⟩) (hB : B.length = B0.length := by first | rfl | simp only [List.length_set])
  (hbs : ∀ cs ∈ bs, ∀ x ∈ cs, Under (B0.length + bs.length) rows.length L.length x := by (simp +decide only [go_sem, Nat.reduceAdd]) <;> (try (repeat' apply And.intro)) <;> first | omega | assumption)
  (he : Zb2 (B0.length + bs.length) rows.length L.length e := by (simp +decide only [go_sem, Nat.reduceAdd, Zb2]) <;> (try (repeat' apply And.intro)) <;> first | omega | assumption) : awp P w0 n M0 W0 ro c Q e ⟨B ++ (bs ++ X), rows, L⟩ := by
 rw [← hB] at hN hc hbs he
 clear hB B0
 have hl := ho.len
 have e1 : St.cut ⟨B ++ (bs ++ X), rows, L⟩ (B.length + bs.length) rows.length L.length = ⟨B ++ bs, rows, L⟩ := by
  simp only [St.cut, List.take_length, ← List.append_assoc]
  rw [List.take_left' (by simp)]
 refine ZjI (B.length + bs.length) rows.length L.length (by simp) (Nat.le_refl _) (Nat.le_refl _) (by omega) (by omega) (by omega) ?_ he (by rw [e1]; exact h)
 rw [e1]
 refine ⟨fun r hr x hx => ?_, fun cs hcs x hx => ?_, fun la hla k x hx ht => ?_⟩
 ·
  obtain ⟨t, rfl⟩ := ho.pre
  rcases List.mem_append.1 hr with hr | hr
  ·
   exact Zbh (by omega) (by omega) (Nat.le_refl _) (hc.rows r hr x hx)
  ·
   exact ho.calm r (by simpa using hr) x hx _ _ _
 ·
  rcases List.mem_append.1 hcs with hcs | hcs
  ·
   exact Zbh (by omega) (by omega) (Nat.le_refl _) (hc.boxes cs hcs x hx)
  ·
   exact hbs cs hcs x hx
 ·
  exact Zbh (by omega) (by omega) (Nat.le_refl _) (hc.loops la hla k x hx ht)
theorem ZpS {sz : Nat} {ys : List AV} (hy : ∀ y ∈ ys, ∃ cs, y = .agg cs ∧ cs.length = sz) : ZpR sz true (ys.flatMap AV.cells) 0 ys.length = ys := by
 have hl : ∀ y ∈ ys, y.cells.length = sz := fun y h => by obtain ⟨cs, rfl, q⟩ := hy y h; exact q
 refine List.ext_getElem (by simp [ZpR]) (fun i h1 h2 => ?_)
 simp only [ZpR, List.getElem_map, List.getElem_range, Nat.zero_add, Zlg, if_true]
 obtain ⟨cs, e, q⟩ := hy _ (List.getElem_mem h2)
 rw [e]
 congr 1
 refine List.ext_getElem? fun j => ?_
 by_cases hj : j < sz
 ·
  rw [List.getElem?_take_of_lt hj, List.getElem?_drop, ZjA hl i h2 j hj, e]; rfl
 ·
  rw [List.getElem?_eq_none (by simp; omega), List.getElem?_eq_none (by omega)]
end
end Go.Ev
namespace Go.Proofs
open Go.Shelf
def Tryz.laysSort_ren : Go.Shelf.Ren := ⟨fun | 6 => 218 | 15 => 237 | 14 => 236 | 28 => 257 | 29 => 258 | 20 => 249 | 21 => 250 | 22 => 251 | 23 => 252 | 24 => 253 | 25 => 254 | 26 => 255 | 27 => 256 | 46 => 263 | 47 => 264 | 48 => 265 | 49 => 266 | 50 => 267 | 57 => 270 | n => n, fun | 22 => 44 | 24 => 75 | 25 => 155 | 3 => 3 | 39 => 180 | 0 => 0 | 53 => 220 | 55 => 216 | 4 => 4 | 46 => 239 | 45 => 238 | 50 => 111 | 5 => 5 | 9 => 9 | 66 => 249 | 70 => 84 | 76 => 254 | 77 => 170 | n => n, fun | n => n⟩
theorem Tryz.laysSort : Go.Proofs.SlLaysF0.n6 Tryz.prog Tryz.laysSort_ren := {
 mixed := by kernel_rfl
 f6 := ⟨Tryz.f218.name, by decide, Tryz.func218.trans (congrArg some (by kernel_rfl))⟩
 f14 := ⟨Tryz.f236.name, by decide, Tryz.func236.trans (congrArg some (by kernel_rfl))⟩
 f15 := Tryz.func237.trans (congrArg some (by kernel_rfl))
 f20 := ⟨Tryz.f249.name, by decide, Tryz.func249.trans (congrArg some (by kernel_rfl))⟩
 f21 := ⟨Tryz.f250.name, by decide, Tryz.func250.trans (congrArg some (by kernel_rfl))⟩
 f22 := ⟨Tryz.f251.name, by decide, Tryz.func251.trans (congrArg some (by kernel_rfl))⟩
 f23 := ⟨Tryz.f252.name, by decide, Tryz.func252.trans (congrArg some (by kernel_rfl))⟩
 f24 := ⟨Tryz.f253.name, by decide, Tryz.func253.trans (congrArg some (by kernel_rfl))⟩
 f25 := ⟨Tryz.f254.name, by decide, Tryz.func254.trans (congrArg some (by kernel_rfl))⟩
 f26 := ⟨Tryz.f255.name, by decide, Tryz.func255.trans (congrArg some (by kernel_rfl))⟩
 f27 := ⟨Tryz.f256.name, by decide, Tryz.func256.trans (congrArg some (by kernel_rfl))⟩
 f28 := Tryz.func257.trans (congrArg some (by kernel_rfl))
 f29 := Tryz.func258.trans (congrArg some (by kernel_rfl))
 f46 := ⟨Tryz.f263.name, by decide, Tryz.func263.trans (congrArg some (by kernel_rfl))⟩
 f47 := Tryz.func264.trans (congrArg some (by kernel_rfl))
 f48 := Tryz.func265.trans (congrArg some (by kernel_rfl))
 f49 := ⟨Tryz.f266.name, by decide, Tryz.func266.trans (congrArg some (by kernel_rfl))⟩
 f50 := ⟨Tryz.f267.name, by decide, Tryz.func267.trans (congrArg some (by kernel_rfl))⟩
 f57 := ⟨Tryz.f270.name, by decide, Tryz.func270.trans (congrArg some (by kernel_rfl))⟩
 t0 := Tryz.underlying0
 a0 := Tryz.isAgg0
 z0 := Tryz.sizeOf0
 v0 := Tryz.zeroValue0
 t3 := Tryz.underlying3
 a3 := Tryz.isAgg3
 z3 := Tryz.sizeOf3
 v3 := Tryz.zeroValue3
 t4 := Tryz.underlying4
 a4 := Tryz.isAgg4
 z4 := Tryz.sizeOf4
 v4 := Tryz.zeroValue4
 t5 := Tryz.underlying5
 a5 := Tryz.isAgg5
 z5 := Tryz.sizeOf5
 v5 := Tryz.zeroValue5
 t9 := Tryz.underlying9
 a9 := Tryz.isAgg9
 z9 := Tryz.sizeOf9
 v9 := Tryz.zeroValue9
 t22 := Tryz.underlying44
 a22 := Tryz.isAgg44
 z22 := Tryz.sizeOf44
 v22 := Tryz.zeroValue44
 t25 := Tryz.underlying155
 a25 := Tryz.isAgg155
 z25 := Tryz.sizeOf155
 v25 := Tryz.zeroValue155
 t39 := Tryz.underlying180
 a39 := Tryz.isAgg180
 z39 := Tryz.sizeOf180
 v39 := Tryz.zeroValue180
 t45 := Tryz.underlying238
 a45 := Tryz.isAgg238
 z45 := Tryz.sizeOf238
 v45 := Tryz.zeroValue238
 t46 := Tryz.underlying239
 a46 := Tryz.isAgg239
 z46 := Tryz.sizeOf239
 v46 := Tryz.zeroValue239
 t50 := Tryz.underlying111
 a50 := Tryz.isAgg111
 z50 := Tryz.sizeOf111
 v50 := Tryz.zeroValue111
 t53 := Tryz.underlying220
 a53 := Tryz.isAgg220
 z53 := Tryz.sizeOf220
 v53 := Tryz.zeroValue220
 t55 := Tryz.underlying216
 a55 := Tryz.isAgg216
 z55 := Tryz.sizeOf216
 v55 := Tryz.zeroValue216
 t66 := Tryz.underlying249
 a66 := Tryz.isAgg249
 z66 := Tryz.sizeOf249
 v66 := Tryz.zeroValue249
 t70 := Tryz.underlying84
 a70 := Tryz.isAgg84
 z70 := Tryz.sizeOf84
 v70 := Tryz.zeroValue84
 t76 := Tryz.underlying254
 a76 := Tryz.isAgg254
 z76 := Tryz.sizeOf254
 v76 := Tryz.zeroValue254
 t77 := Tryz.underlying170
 a77 := Tryz.isAgg170
 z77 := Tryz.sizeOf170
 v77 := Tryz.zeroValue170 }
end Go.Proofs
namespace Go.Proofs.YtgpmlelfkjfbiaaGreatDoor
open Go Go.RowKit Go.Ev Go.Shelf Go.Sort Go.Lib
theorem ZpH (s s' : ByteArray) (r r' : List Value) (W : World) (h1 : r.length = 6) (h2 : r'.length = 6) (h3 : ∀ v ∈ r, v.oneCell' = true) (h4 : ∀ v ∈ r', v.oneCell' = true) :
  Calls Tryz.prog 219 #[.agg (.string s :: r).toArray, .agg (.string s' :: r').toArray] W fun e w' => e = .returned (.int .i64 (Lib.compareBytes s.data.toList s'.data.toList)) ∧ ∃ q os', w' = grow (W.drewN q) os' := by
 have hcon := fun W' => Tryz.strings_Compare s s' W'
 change ∀ W', Calls Tryz.prog 141 _ _ _ at hcon
 generalize Lib.compareBytes s.data.toList s'.data.toList = z at hcon ⊢
 match r, h1 with
 | [a1, a2, a3, a4, a5, a6], _ =>
 match r', h2 with
 | [b1, b2, b3, b4, b5, b6], _ =>
 simp only [List.mem_cons, List.not_mem_nil, or_false, forall_eq_or_imp, forall_eq] at h3 h4
 go_enter Tryz.func219, Tryz.ntmps219
 go_wp2_with (go_at_call 141; refine (hcon _).mono ?_; rintro e w' ⟨rfl, rfl⟩)
 go_ret
 exact ⟨rfl, 0, _, by rw [alloc_eq_grow, alloc_eq_grow, grow_grow]; rfl⟩
def ZhE : String := (Rows.schemaLeavesRow.laid.map (·.1)).getD 2 default
abbrev Pow10 (w : World) : Prop := Lib.TabIs Tryz.prog w ZhE .u64 Lib.pow10Tab
theorem Pow10.below {w0 w : World} (h : Pow10 w0) (hb : Below w0.heap.size w0 w) : Pow10 w := by
 unfold Pow10 Lib.TabIs World.var? at *
 cases hg : Tryz.prog.globalNamed ZhE with
 | none => rw [hg] at h; cases h
 | some g =>
  rw [hg] at h
  simp only [Option.bind_some] at h ⊢
  cases hx : w0.heap[g]? with
  | none => rw [hx] at h; cases h
  | some o =>
   rw [hb.block g (Array.getElem?_eq_some_iff.1 hx).1]
   exact h
theorem ZkW (u : Nat) : Lib.nDigits u ≤ u / 10 + 1 := by
 induction u using Nat.strongRecOn with
 | _ u ih =>
  by_cases h : u < 10
  ·
   rw [Lib.nDigits_small h]; omega
  ·
   rw [Lib.nDigits_big h]
   have := ih (u / 10) (by omega)
   omega
theorem ZqL (n : Int) (h : -9223372036854775808 ≤ n ∧ n ≤ 9223372036854775807) : (Lib.itoa n).length ≤ maxLen := by
 unfold Lib.itoa maxLen
 split
 ·
  rw [List.length_cons, Lib.decDigits_length]; have := ZkW n.natAbs; omega
 ·
  rw [Lib.decDigits_length]; have := ZkW n.toNat; omega
theorem Zsu (w0 : World) (B : List (List AV)) (Rw : List RowA) (L : List LoopA) (hP : Pow10 w0) (n : Int) (hn : -9223372036854775808 ≤ n ∧ n ≤ 9223372036854775807) :
  ACalls Tryz.prog w0 157 [.val (.int .i64 n)] ⟨B, Rw, L⟩ fun v s' => v = .val (.string ⟨(Lib.itoa n).toArray⟩) ∧ s' = ⟨B, Rw, L⟩ :=
 Zgl (ZaH Tryz.func157 rfl (by decide)) (by
  show decide ((Lib.itoa n).toArray.size ≤ maxLen) = true
  rw [List.size_toArray]
  exact decide_eq_true (ZqL n hn)) fun M w vals hb hrow => by
  have := Zlq (us := [.int .i64 n]) hrow
  subst this
  refine (Any.strconv_Itoa Tryz.laysM171 n hn.1 hn.2 w (hP.below hb)).mono ?_
  rintro e w' ⟨rfl, k, os, rfl⟩
  refine ⟨rfl, rfl, rfl, rfl, by simp [grow], fun i hi => ?_⟩
  show (grow (w.drewN k) os).heap[i]? = w.heap[i]?
  rw [heap_grow_old (w.drewN k) os hi]
  rfl
end Go.Proofs.YtgpmlelfkjfbiaaGreatDoor
namespace Go.Proofs.YtgpmlelfkjfbiaaGreatDoor
open Go Go.RowKit Go.Ev
def ZcZ (rec : Vl → Int → Int → Option (Bool × Int)) (n : Nat)  (pla2_k25 : Int) : Option (Bool × Int) :=
 some ((true, pla2_k25))
def ZbA (rec : Vl → Int → Int → Option (Bool × Int)) (n : Nat) (a0 : Vl) (a1 : Int) : Nat → Int → Int → Option (Bool × Int)
 | 0, _, _ => none
 | m + 1, x8_l28, pla2_l28 =>
  if decide (x8_l28 < ((a0.fields.length : Int))) then
   (idx a0.fields x8_l28).bind fun x34 =>
   if decide (100 < ((x34.1.size : Int))) then
    some ((false, pla2_l28))
   else
    if I64 (a1 - 1) then
     (rec x34.2 (a1 - 1) pla2_l28).bind fun y39 =>
     if !y39.1 then
      some ((false, y39.2))
     else
      if I64 (x8_l28 + 1) then
       (ZbA rec n a0 a1 m) (x8_l28 + 1) y39.2
      else none
    else none
  else
   ZcZ rec n pla2_l28
def Zdb (rec : Vl → Int → Int → Option (Bool × Int)) (n : Nat) (a0 : Vl) (a1 : Int) (pla2_k9 : Int) : Option (Bool × Int) :=
 ZbA rec n a0 a1 n 0 pla2_k9
def Zbz (rec : Vl → Int → Int → Option (Bool × Int)) (n : Nat) (a0 : Vl) (a1 : Int) : Nat → Int → Int → Option (Bool × Int)
 | 0, _, _ => none
 | m + 1, x7_l12, pla2_l12 =>
  if decide (x7_l12 < ((a0.list.length : Int))) then
   (idx a0.list x7_l12).bind fun x18 =>
   if I64 (a1 - 1) then
    (rec x18 (a1 - 1) pla2_l12).bind fun y20 =>
    if !y20.1 then
     some ((false, y20.2))
    else
     if I64 (x7_l12 + 1) then
      (Zbz rec n a0 a1 m) (x7_l12 + 1) y20.2
     else none
   else none
  else
   Zdb rec n a0 a1 pla2_l12
def Zdz (rec : Vl → Int → Int → Option (Bool × Int)) (n : Nat) (a0 : Vl) (a1 : Int) (a2 : Int) : Option (Bool × Int) :=
 if I64 (a2 - 1) then
  if ((decide ((a2 - 1) < 0)) || (decide (a1 = 0))) || (decide (2000 < ((a0.text.size : Int)))) then
   some ((false, a2 - 1))
  else
   Zbz rec n a0 a1 n 0 (a2 - 1)
 else none
def ZbG : Nat → Vl → Int → Int → Option (Bool × Int)
 | 0, _, _, _ => none
 | n + 1, a0, a1, a2 => Zdz (ZbG n) n a0 a1 a2
def Ze1 (w0 : World) (F : Vl → Int → Int → Option (Bool × Int)) : Prop := ∀ (B : List (List AV)) (Rw : List RowA) (L : List LoopA) (a0 : Vl) (a1 : Int) (la2 : Nat) (a2 : Int) (hla2 : B[la2]? = some ([.val (.int .i64 a2)])) (r : Bool × Int), F a0 a1 a2 = some r → ACalls Tryz.prog w0 58 [.agg (a0.cs), .val (.int .i64 a1), .box la2 0] ⟨B, Rw, L⟩ fun x st => x = .val (.bool r.1) ∧ st = ⟨(B.set la2 [.val (.int .i64 r.2)]), Rw, L⟩
theorem ZhD (w0 : World) (rec : Vl → Int → Int → Option (Bool × Int)) (ih : Ze1 w0 rec) (n : Nat) : Ze1 w0 (Zdz rec n) := by
 intro B Rw L a0 a1 la2 a2 hla2 r h
 rw [Zdz] at h
 refine hd [.tmp 6] Tryz.func58 Tryz.ntmps58 fun M0 W0 hN hNR hNL hcalm hu hO hs => ?_
 simp only [Zav]
 have hltla2 := (List.getElem?_eq_some_iff.1 hla2).1
 have hs := And.intro (Zag hla2) hs
 refine rg [1, 2, 3] hs ?_
 obtain ⟨hg3, h⟩ := Zac h
 refine rg [1, 2, 3] hs ?_
 apply Zab; intro K4 hK4
 refine rg [1, 2, 3, 27] hs ?_
 refine cnd h hs (fun hs h => ?_) (fun hs h => ?_)
 ·
  have hb6 := hs.1
  refine rg [6] hs ?_
  apply Zah; simp +decide only [go_sem, Nat.reduceAdd, Zag hla2, hb6]
  have hgt := Option.some.inj h; subst hgt
  first | refine ZaG (Zaj hcalm ev) (by simp only [List.length_set]) hO.pre ev ⟨?_, rfl⟩ | refine Zbg (Zaj hcalm ev) (by simp only [List.length_set]) hO.pre ev ⟨?_, rfl⟩
  first | rfl | (simp +decide only [go_sem, Nat.reduceAdd, Zag hla2, hb6]; done) | (simp +decide only [go_sem, Nat.reduceAdd, Vl.cs, Ty.cs, Zag hla2, hb6]; done)
 have hb6 := hs.1
 refine sk [1, 2, 3] hs hK4 ?_
 clear hK4
 refine Zai (fun e st => ∃ (pla2_k9 : Int) (Xk9 : List (List AV)) (Rk9 : List RowA), e = [(1, true, .val (.int .i64 a1)), (2, true, .box la2 0), (3, true, .box B.length 0)] ∧ st = ⟨(B.set la2 ([.val (.int .i64 pla2_k9)])) ++ ([a0.cs] ++ Xk9), Rk9, L⟩ ∧ Owns Rw Rk9 [] ∧ Zdb rec n a0 a1 pla2_k9 = some r) ?_ ?_
 ·
  intro K10 hK10
  refine rg [1, 2, 3, 7] hs ?_
  apply Zad
  refine Zal (fun m e st => ∃ (x7_l12 : Int) (pla2_l12 : Int) (Xl12 : List (List AV)) (Rl12 : List RowA), e = [(1, true, .val (.int .i64 a1)), (2, true, .box la2 0), (3, true, .box B.length 0), (7, true, .val (.int .i64 x7_l12))] ∧ st = ⟨(B.set la2 ([.val (.int .i64 pla2_l12)])) ++ ([a0.cs] ++ Xl12), Rl12, L⟩ ∧ Owns Rw Rl12 [] ∧ Zbz rec n a0 a1 m x7_l12 pla2_l12 = some r) n ⟨0, (a2 - 1), ([]), Rw, ef hs, ef hs, hO, h⟩ ?_
  rintro ml12 e st ⟨x7_l12, pla2_l12, Xl12, Rl12, rfl, rfl, hO, h⟩ Ul12 Vl12
  cases ml12 with
  | zero => cases h
  | succ ml12 =>
  rw [Zbz] at h
  refine Zbb hN hNR hNL (by simp only [List.length_set]) (Zaj hcalm ev) hO (by (simp +decide only [go_sem, Nat.reduceAdd]) <;> (try (repeat' apply And.intro)) <;> first | omega | assumption) (by (simp +decide only [go_sem, Nat.reduceAdd, Zb2]) <;> (try (repeat' apply And.intro)) <;> first | omega | assumption) ?_
  apply Zab; intro K13 hK13
  refine rg [1, 2, 3, 7, 32] hs ?_
  refine cnd h hs (fun hs h => ?_) (fun hs h => ?_)
  rotate_left
  ·
   have hb15 := hs.1
   refine sx [1, 2, 3] hs hK10 ?_
   exact ⟨pla2_l12, ([]), Rl12, ef hs, ef hs, hO, h⟩
  have hb15 := hs.1
  refine sk [1, 2, 3, 7] hs hK13 ?_
  clear hK13
  apply Zab; intro K16 hK16
  apply Zad
  obtain ⟨x18, hx18, h⟩ := bind_some h
  obtain ⟨hx18a, hx18b, hx18c⟩ := Zar hx18
  have hx18d := Zay (f := avV) hx18c
  obtain ⟨hg19, h⟩ := Zac h
  obtain ⟨y20, hy20, h⟩ := bind_some h
  have hs := And.intro hx18d hs
  refine rc 2 [1, 2, 3, 7, 44] hs ?_; intro K17 hK17
  refine Zca _ (ih _ _ _ x18 (a1 - 1) la2 pla2_l12 (ef hs) _ hy20) (hv hs) ?_; rintro _ _ ⟨rfl, rfl⟩
  refine ne hs hK17 ?_
  clear hK17
  refine cnd h hs (fun hs h => ?_) (fun hs h => ?_)
  ·
   have hb21 := hs.1
   refine rg [6] hs ?_
   apply Zah; simp +decide only [go_sem, Nat.reduceAdd, Zag hla2, hb6, hb15, hx18d, hb21]
   have hgt := Option.some.inj h; subst hgt
   first | refine ZaG (Zaj hcalm ev) (by simp only [List.length_set]) hO.pre ev ⟨?_, rfl⟩ | refine Zbg (Zaj hcalm ev) (by simp only [List.length_set]) hO.pre ev ⟨?_, rfl⟩
   first | rfl | (simp +decide only [go_sem, Nat.reduceAdd, Zag hla2, hb6, hb15, hx18d, hb21]; done) | (simp +decide only [go_sem, Nat.reduceAdd, Vl.cs, Ty.cs, Zag hla2, hb6, hb15, hx18d, hb21]; done)
  have hb21 := hs.1
  refine sk [1, 2, 3, 7] hs hK16 ?_
  clear hK16
  obtain ⟨hg23, h⟩ := Zac h
  refine rl [1, 2, 3, 7] hs (fun e s => Vl12 ml12 e s (Nat.lt_succ_self _)) ?_
  exact ⟨(x7_l12 + 1), y20.2, ([]), Rl12, ef hs, ef hs, hO, h⟩
 ·
  clear h; rintro e st ⟨pla2_k9, Xk9, Rk9, rfl, rfl, hO, h⟩
  rw [Zdb] at h
  refine Zbb hN hNR hNL (by simp only [List.length_set]) (Zaj hcalm ev) hO (by (simp +decide only [go_sem, Nat.reduceAdd]) <;> (try (repeat' apply And.intro)) <;> first | omega | assumption) (by (simp +decide only [go_sem, Nat.reduceAdd, Zb2]) <;> (try (repeat' apply And.intro)) <;> first | omega | assumption) ?_
  refine Zai (fun e st => ∃ (pla2_k25 : Int) (Xk25 : List (List AV)) (Rk25 : List RowA), e = [] ∧ st = ⟨(B.set la2 ([.val (.int .i64 pla2_k25)])) ++ ([a0.cs] ++ Xk25), Rk25, L⟩ ∧ Owns Rw Rk25 [] ∧ ZcZ rec n pla2_k25 = some r) ?_ ?_
  ·
   intro K26 hK26
   refine rg [1, 2, 3, 8] hs ?_
   apply Zad
   refine Zal (fun m e st => ∃ (x8_l28 : Int) (pla2_l28 : Int) (Xl28 : List (List AV)) (Rl28 : List RowA), e = [(1, true, .val (.int .i64 a1)), (2, true, .box la2 0), (3, true, .box B.length 0), (8, true, .val (.int .i64 x8_l28))] ∧ st = ⟨(B.set la2 ([.val (.int .i64 pla2_l28)])) ++ ([a0.cs] ++ Xl28), Rl28, L⟩ ∧ Owns Rw Rl28 [] ∧ ZbA rec n a0 a1 m x8_l28 pla2_l28 = some r) n ⟨0, pla2_k9, ([]), Rk9, ef hs, ef hs, hO, h⟩ ?_
   rintro ml28 e st ⟨x8_l28, pla2_l28, Xl28, Rl28, rfl, rfl, hO, h⟩ Ul28 Vl28
   cases ml28 with
   | zero => cases h
   | succ ml28 =>
   rw [ZbA] at h
   refine Zbb hN hNR hNL (by simp only [List.length_set]) (Zaj hcalm ev) hO (by (simp +decide only [go_sem, Nat.reduceAdd]) <;> (try (repeat' apply And.intro)) <;> first | omega | assumption) (by (simp +decide only [go_sem, Nat.reduceAdd, Zb2]) <;> (try (repeat' apply And.intro)) <;> first | omega | assumption) ?_
   apply Zab; intro K29 hK29
   refine rg [1, 2, 3, 8, 49] hs ?_
   refine cnd h hs (fun hs h => ?_) (fun hs h => ?_)
   rotate_left
   ·
    have hb31 := hs.1
    refine sx [] hs hK26 ?_
    exact ⟨pla2_l28, ([]), Rl28, ef hs, ef hs, hO, h⟩
   have hb31 := hs.1
   refine sk [1, 2, 3, 8] hs hK29 ?_
   clear hK29
   apply Zab; intro K32 hK32
   apply Zad
   apply Zab; intro K33 hK33
   obtain ⟨x34, hx34a, hx34b, hx34d, h⟩ := ix avF h
   rcases Bool.eq_false_or_eq_true (decide (100 < ((x34.1.size : Int)))) with hf35 | hf35
   ·
    replace h := Za2 h hf35
    apply Zae 2 [1, 2, 3, 8, 72]
    rw [Zaa]; simp +decide only [go_sem, Nat.reduceAdd, Zag hla2, hb6, hb31, hx34d, hf35]
    (repeat' apply And.intro) <;> first | refine ZaL ?_ | exact cl
    rw [Zaa]; simp +decide only [go_sem, Nat.reduceAdd, Zag hla2, hb6, hb31, hx34d, hf35]
    (repeat' apply And.intro) <;> first | refine hK33 _ _ ?_ | exact cl
    clear hK33
    have hs := And.intro hx34d hs
    have hs := And.intro hf35 hs
    refine Zaz true ev (ef hs) (fun hb36 => ?_) (fun hb36 => by cases hb36)
    refine rg [6] hs ?_
    apply Zah; simp +decide only [go_sem, Nat.reduceAdd, Zag hla2, hb6, hb31, hx34d, hf35]
    have hgt := Option.some.inj h; subst hgt
    first | refine ZaG (Zaj hcalm ev) (by simp only [List.length_set]) hO.pre ev ⟨?_, rfl⟩ | refine Zbg (Zaj hcalm ev) (by simp only [List.length_set]) hO.pre ev ⟨?_, rfl⟩
    first | rfl | (simp +decide only [go_sem, Nat.reduceAdd, Zag hla2, hb6, hb31, hx34d, hf35]; done) | (simp +decide only [go_sem, Nat.reduceAdd, Vl.cs, Ty.cs, Zag hla2, hb6, hb31, hx34d, hf35]; done)
   ·
    replace h := ZaZ h hf35
    obtain ⟨hg38, h⟩ := Zac h
    obtain ⟨y39, hy39, h⟩ := bind_some h
    have hs := And.intro hx34d hs
    have hs := And.intro hf35 hs
    refine rk 2 [1, 2, 3, 8, 72] hs ?_
    refine Zca _ (ih _ _ _ x34.2 (a1 - 1) la2 pla2_l28 (ef hs) _ hy39) (hv hs) ?_; rintro _ _ ⟨rfl, rfl⟩
    refine ne hs hK33 ?_
    clear hK33
    refine cnd h hs (fun hs h => ?_) (fun hs h => ?_)
    ·
     have hb40 := hs.1
     refine rg [6] hs ?_
     apply Zah; simp +decide only [go_sem, Nat.reduceAdd, Zag hla2, hb6, hb31, hx34d, hf35, hb40]
     have hgt := Option.some.inj h; subst hgt
     first | refine ZaG (Zaj hcalm ev) (by simp only [List.length_set]) hO.pre ev ⟨?_, rfl⟩ | refine Zbg (Zaj hcalm ev) (by simp only [List.length_set]) hO.pre ev ⟨?_, rfl⟩
     first | rfl | (simp +decide only [go_sem, Nat.reduceAdd, Zag hla2, hb6, hb31, hx34d, hf35, hb40]; done) | (simp +decide only [go_sem, Nat.reduceAdd, Vl.cs, Ty.cs, Zag hla2, hb6, hb31, hx34d, hf35, hb40]; done)
    have hb40 := hs.1
    refine sk [1, 2, 3, 8] hs hK32 ?_
    clear hK32
    obtain ⟨hg42, h⟩ := Zac h
    refine rl [1, 2, 3, 8] hs (fun e s => Vl28 ml28 e s (Nat.lt_succ_self _)) ?_
    exact ⟨(x8_l28 + 1), y39.2, ([]), Rl28, ef hs, ef hs, hO, h⟩
  ·
   clear h; rintro e st ⟨pla2_k25, Xk25, Rk25, rfl, rfl, hO, h⟩
   rw [ZcZ] at h
   refine Zbb hN hNR hNL (by simp only [List.length_set]) (Zaj hcalm ev) hO (by (simp +decide only [go_sem, Nat.reduceAdd]) <;> (try (repeat' apply And.intro)) <;> first | omega | assumption) (by (simp +decide only [go_sem, Nat.reduceAdd, Zb2]) <;> (try (repeat' apply And.intro)) <;> first | omega | assumption) ?_
   refine rg [6] hs ?_
   apply Zah; simp +decide only [go_sem, Nat.reduceAdd, Zag hla2, hb6]
   have hgt := Option.some.inj h; subst hgt
   first | refine ZaG (Zaj hcalm ev) (by simp only [List.length_set]) hO.pre ev ⟨?_, rfl⟩ | refine Zbg (Zaj hcalm ev) (by simp only [List.length_set]) hO.pre ev ⟨?_, rfl⟩
   first | rfl | (simp +decide only [go_sem, Nat.reduceAdd, Zag hla2, hb6]; done) | (simp +decide only [go_sem, Nat.reduceAdd, Vl.cs, Ty.cs, Zag hla2, hb6]; done)
theorem Zgf (w0 : World) : ∀ n : Nat, Ze1 w0 (ZbG n)
 | 0 => fun _ _ _ _ _ _ _ _ _ h => (nomatch h)
 | n + 1 => ZhD w0 (ZbG n) (Zgf w0 n) n
def Zcr (n : Nat) (a0 : Vl) : Option Bool :=
 (ZbG n a0 12 300).bind fun y4 =>
 some (y4.1)
theorem ZiX (w0 : World) (n : Nat) (B : List (List AV)) (Rw : List RowA) (L : List LoopA) (a0 : Vl) (r : Bool) (h : Zcr n a0 = some r) :
  ACalls Tryz.prog w0 20 [.agg (a0.cs)] ⟨B, Rw, L⟩ fun x st => x = .val (.bool r) ∧ st = ⟨B, Rw, L⟩ := by
 rw [Zcr] at h
 refine hd [.tmp 2] Tryz.func20 Tryz.ntmps20 fun M0 W0 hN hNR hNL hcalm hu hO hs => ?_
 simp only [Zav]
 refine rg [1] hs ?_
 refine rg [1, 3] hs ?_
 obtain ⟨y4, hy4, h⟩ := bind_some h
 refine rc 2 [2] hs ?_; intro K3 hK3
 refine Zca _ (Zgf w0 n _ _ _ a0 12 (B.length + 1) 300 ev _ hy4) (hv hs) ?_; rintro _ _ ⟨rfl, rfl⟩
 refine ne hs hK3 ?_
 clear hK3
 exact rt h hs hcalm hO
def Zeg (rec : Ty → Int → Int → Option (Bool × Int)) (n : Nat) (again_l42 : Int → Int → Option (Bool × Int)) (x9_l42 : Int) (pla2_k47 : Int) : Option (Bool × Int) :=
 if I64 (x9_l42 + 1) then
  again_l42 (x9_l42 + 1) pla2_k47
 else none
def Ze3 (rec : Ty → Int → Int → Option (Bool × Int)) (n : Nat)  (pla2_k39 : Int) : Option (Bool × Int) :=
 some ((true, pla2_k39))
def Zb3 (rec : Ty → Int → Int → Option (Bool × Int)) (n : Nat) (again_l42 : Int → Int → Option (Bool × Int)) (x9_l42 : Int) (x50 : Int × ByteArray × Int × Ty × List Vl) (y54 : Bool × Int) : Nat → Int → Option (Bool × Int)
 | 0, _ => none
 | m + 1, x11_l58 =>
  if decide (x11_l58 < ((x50.2.2.2.2.length : Int))) then
   (idx x50.2.2.2.2 x11_l58).bind fun x64 =>
   (Zcr n x64).bind fun y65 =>
   if !y65 then
    some ((false, y54.2))
   else
    if I64 (x11_l58 + 1) then
     (Zb3 rec n again_l42 x9_l42 x50 y54 m) (x11_l58 + 1)
    else none
  else
   Zeg rec n again_l42 x9_l42 y54.2
def ZbS (rec : Ty → Int → Int → Option (Bool × Int)) (n : Nat) (a0 : Ty) (a1 : Int) : Nat → Int → Int → Option (Bool × Int)
 | 0, _, _ => none
 | m + 1, x9_l42, pla2_l42 =>
  if decide (x9_l42 < ((a0.fields.length : Int))) then
   (idx a0.fields x9_l42).bind fun x50 =>
   if I64 (a1 - 1) then
    (rec x50.2.2.2.1 (a1 - 1) pla2_l42).bind fun y54 =>
    if ((!y54.1) || (decide (3 < ((x50.2.2.2.2.length : Int))))) || (decide (100 < ((x50.2.1.size : Int)))) then
     some ((false, y54.2))
    else
     Zb3 rec n (ZbS rec n a0 a1 m) x9_l42 x50 y54 n 0
   else none
  else
   Ze3 rec n pla2_l42
def Ze7 (rec : Ty → Int → Int → Option (Bool × Int)) (n : Nat) (a0 : Ty) (a1 : Int) (pla2_k23 : Int) : Option (Bool × Int) :=
 ZbS rec n a0 a1 n 0 pla2_k23
def Zdn (rec : Ty → Int → Int → Option (Bool × Int)) (n : Nat) (a0 : Ty) (a1 : Int) : Nat → Int → Int → Option (Bool × Int)
 | 0, _, _ => none
 | m + 1, x8_l26, pla2_l26 =>
  if decide (x8_l26 < ((a0.elem.length : Int))) then
   (idx a0.elem x8_l26).bind fun x32 =>
   if I64 (a1 - 1) then
    (rec x32 (a1 - 1) pla2_l26).bind fun y34 =>
    if !y34.1 then
     some ((false, y34.2))
    else
     if I64 (x8_l26 + 1) then
      (Zdn rec n a0 a1 m) (x8_l26 + 1) y34.2
     else none
   else none
  else
   Ze7 rec n a0 a1 pla2_l26
def ZeJ (rec : Ty → Int → Int → Option (Bool × Int)) (n : Nat) (a0 : Ty) (a1 : Int) (a2 : Int) : Option (Bool × Int) :=
 Zdn rec n a0 a1 n 0 (a2 - 1)
def Zb5 (rec : Ty → Int → Int → Option (Bool × Int)) (n : Nat) (a0 : Ty) (a1 : Int) (a2 : Int) : Nat → Int → Option (Bool × Int)
 | 0, _ => none
 | m + 1, x7_l12 =>
  if decide (x7_l12 < ((a0.words.length : Int))) then
   (idx a0.words x7_l12).bind fun x18 =>
   if decide (2000 < ((x18.size : Int))) then
    some ((false, a2 - 1))
   else
    if I64 (x7_l12 + 1) then
     (Zb5 rec n a0 a1 a2 m) (x7_l12 + 1)
    else none
  else
   ZeJ rec n a0 a1 a2 
def ZgQ (rec : Ty → Int → Int → Option (Bool × Int)) (n : Nat) (a0 : Ty) (a1 : Int) (a2 : Int) : Option (Bool × Int) :=
 if I64 (a2 - 1) then
  if ((decide ((a2 - 1) < 0)) || (decide (a1 = 0))) || (decide (70 < ((a0.words.length : Int)))) then
   some ((false, a2 - 1))
  else
   Zb5 rec n a0 a1 a2 n 0
 else none
def Zdr : Nat → Ty → Int → Int → Option (Bool × Int)
 | 0, _, _, _ => none
 | n + 1, a0, a1, a2 => ZgQ (Zdr n) n a0 a1 a2
def Ziz (w0 : World) (F : Ty → Int → Int → Option (Bool × Int)) : Prop := ∀ (B : List (List AV)) (Rw : List RowA) (L : List LoopA) (a0 : Ty) (a1 : Int) (la2 : Nat) (a2 : Int) (hla2 : B[la2]? = some ([.val (.int .i64 a2)])) (r : Bool × Int), F a0 a1 a2 = some r → ACalls Tryz.prog w0 49 [.agg (a0.cs), .val (.int .i64 a1), .box la2 0] ⟨B, Rw, L⟩ fun x st => x = .val (.bool r.1) ∧ st = ⟨(B.set la2 [.val (.int .i64 r.2)]), Rw, L⟩
theorem Zll (w0 : World) (rec : Ty → Int → Int → Option (Bool × Int)) (ih : Ziz w0 rec) (n : Nat) : Ziz w0 (ZgQ rec n) := by
 intro B Rw L a0 a1 la2 a2 hla2 r h
 rw [ZgQ] at h
 refine hd [.tmp 6] Tryz.func49 Tryz.ntmps49 fun M0 W0 hN hNR hNL hcalm hu hO hs => ?_
 simp only [Zav]
 have hltla2 := (List.getElem?_eq_some_iff.1 hla2).1
 have hs := And.intro (Zag hla2) hs
 refine rg [1, 2, 3] hs ?_
 obtain ⟨hg3, h⟩ := Zac h
 refine rg [1, 2, 3] hs ?_
 apply Zab; intro K4 hK4
 refine rg [1, 2, 3, 30] hs ?_
 refine cnd h hs (fun hs h => ?_) (fun hs h => ?_)
 ·
  have hb6 := hs.1
  refine rg [6] hs ?_
  apply Zah; simp +decide only [go_sem, Nat.reduceAdd, Zag hla2, hb6]
  have hgt := Option.some.inj h; subst hgt
  first | refine ZaG (Zaj hcalm ev) (by simp only [List.length_set]) hO.pre ev ⟨?_, rfl⟩ | refine Zbg (Zaj hcalm ev) (by simp only [List.length_set]) hO.pre ev ⟨?_, rfl⟩
  first | rfl | (simp +decide only [go_sem, Nat.reduceAdd, Zag hla2, hb6]; done) | (simp +decide only [go_sem, Nat.reduceAdd, Vl.cs, Ty.cs, Zag hla2, hb6]; done)
 have hb6 := hs.1
 refine sk [1, 2, 3] hs hK4 ?_
 clear hK4
 refine Zai (fun e st => ∃ (Xk9 : List (List AV)) (Rk9 : List RowA), e = [(1, true, .val (.int .i64 a1)), (2, true, .box la2 0), (3, true, .box B.length 0)] ∧ st = ⟨(B.set la2 ([.val (.int .i64 (a2 - 1))])) ++ ([a0.cs] ++ Xk9), Rk9, L⟩ ∧ Owns Rw Rk9 [] ∧ ZeJ rec n a0 a1 a2  = some r) ?_ ?_
 ·
  intro K10 hK10
  refine rg [1, 2, 3, 7] hs ?_
  apply Zad
  refine Zal (fun m e st => ∃ (x7_l12 : Int) (Xl12 : List (List AV)) (Rl12 : List RowA), e = [(1, true, .val (.int .i64 a1)), (2, true, .box la2 0), (3, true, .box B.length 0), (7, true, .val (.int .i64 x7_l12))] ∧ st = ⟨(B.set la2 ([.val (.int .i64 (a2 - 1))])) ++ ([a0.cs] ++ Xl12), Rl12, L⟩ ∧ Owns Rw Rl12 [] ∧ Zb5 rec n a0 a1 a2 m x7_l12 = some r) n ⟨0, ([]), Rw, ef hs, ef hs, hO, h⟩ ?_
  rintro ml12 e st ⟨x7_l12, Xl12, Rl12, rfl, rfl, hO, h⟩ Ul12 Vl12
  cases ml12 with
  | zero => cases h
  | succ ml12 =>
  rw [Zb5] at h
  refine Zbb hN hNR hNL (by simp only [List.length_set]) (Zaj hcalm ev) hO (by (simp +decide only [go_sem, Nat.reduceAdd]) <;> (try (repeat' apply And.intro)) <;> first | omega | assumption) (by (simp +decide only [go_sem, Nat.reduceAdd, Zb2]) <;> (try (repeat' apply And.intro)) <;> first | omega | assumption) ?_
  apply Zab; intro K13 hK13
  refine rg [1, 2, 3, 7, 35] hs ?_
  refine cnd h hs (fun hs h => ?_) (fun hs h => ?_)
  rotate_left
  ·
   have hb15 := hs.1
   refine sx [1, 2, 3] hs hK10 ?_
   exact ⟨([]), Rl12, ef hs, ef hs, hO, h⟩
  have hb15 := hs.1
  refine sk [1, 2, 3, 7] hs hK13 ?_
  clear hK13
  apply Zab; intro K16 hK16
  apply Zad
  obtain ⟨x18, hx18, h⟩ := bind_some h
  obtain ⟨hx18a, hx18b, hx18c⟩ := Zar hx18
  have hx18d := Zay (f := avS) hx18c
  have hs := And.intro hx18d hs
  refine rg [1, 2, 3, 7, 44] hs ?_
  refine cnd h hs (fun hs h => ?_) (fun hs h => ?_)
  ·
   have hb19 := hs.1
   refine rg [6] hs ?_
   apply Zah; simp +decide only [go_sem, Nat.reduceAdd, Zag hla2, hb6, hb15, hx18d, hb19]
   have hgt := Option.some.inj h; subst hgt
   first | refine ZaG (Zaj hcalm ev) (by simp only [List.length_set]) hO.pre ev ⟨?_, rfl⟩ | refine Zbg (Zaj hcalm ev) (by simp only [List.length_set]) hO.pre ev ⟨?_, rfl⟩
   first | rfl | (simp +decide only [go_sem, Nat.reduceAdd, Zag hla2, hb6, hb15, hx18d, hb19]; done) | (simp +decide only [go_sem, Nat.reduceAdd, Vl.cs, Ty.cs, Zag hla2, hb6, hb15, hx18d, hb19]; done)
  have hb19 := hs.1
  refine sk [1, 2, 3, 7] hs hK16 ?_
  clear hK16
  obtain ⟨hg21, h⟩ := Zac h
  refine rl [1, 2, 3, 7] hs (fun e s => Vl12 ml12 e s (Nat.lt_succ_self _)) ?_
  exact ⟨(x7_l12 + 1), ([]), Rl12, ef hs, ef hs, hO, h⟩
 ·
  clear h; rintro e st ⟨Xk9, Rk9, rfl, rfl, hO, h⟩
  rw [ZeJ] at h
  refine Zbb hN hNR hNL (by simp only [List.length_set]) (Zaj hcalm ev) hO (by (simp +decide only [go_sem, Nat.reduceAdd]) <;> (try (repeat' apply And.intro)) <;> first | omega | assumption) (by (simp +decide only [go_sem, Nat.reduceAdd, Zb2]) <;> (try (repeat' apply And.intro)) <;> first | omega | assumption) ?_
  refine Zai (fun e st => ∃ (pla2_k23 : Int) (Xk23 : List (List AV)) (Rk23 : List RowA), e = [(1, true, .val (.int .i64 a1)), (2, true, .box la2 0), (3, true, .box B.length 0)] ∧ st = ⟨(B.set la2 ([.val (.int .i64 pla2_k23)])) ++ ([a0.cs] ++ Xk23), Rk23, L⟩ ∧ Owns Rw Rk23 [] ∧ Ze7 rec n a0 a1 pla2_k23 = some r) ?_ ?_
  ·
   intro K24 hK24
   refine rg [1, 2, 3, 8] hs ?_
   apply Zad
   refine Zal (fun m e st => ∃ (x8_l26 : Int) (pla2_l26 : Int) (Xl26 : List (List AV)) (Rl26 : List RowA), e = [(1, true, .val (.int .i64 a1)), (2, true, .box la2 0), (3, true, .box B.length 0), (8, true, .val (.int .i64 x8_l26))] ∧ st = ⟨(B.set la2 ([.val (.int .i64 pla2_l26)])) ++ ([a0.cs] ++ Xl26), Rl26, L⟩ ∧ Owns Rw Rl26 [] ∧ Zdn rec n a0 a1 m x8_l26 pla2_l26 = some r) n ⟨0, (a2 - 1), ([]), Rk9, ef hs, ef hs, hO, h⟩ ?_
   rintro ml26 e st ⟨x8_l26, pla2_l26, Xl26, Rl26, rfl, rfl, hO, h⟩ Ul26 Vl26
   cases ml26 with
   | zero => cases h
   | succ ml26 =>
   rw [Zdn] at h
   refine Zbb hN hNR hNL (by simp only [List.length_set]) (Zaj hcalm ev) hO (by (simp +decide only [go_sem, Nat.reduceAdd]) <;> (try (repeat' apply And.intro)) <;> first | omega | assumption) (by (simp +decide only [go_sem, Nat.reduceAdd, Zb2]) <;> (try (repeat' apply And.intro)) <;> first | omega | assumption) ?_
   apply Zab; intro K27 hK27
   refine rg [1, 2, 3, 8, 49] hs ?_
   refine cnd h hs (fun hs h => ?_) (fun hs h => ?_)
   rotate_left
   ·
    have hb29 := hs.1
    refine sx [1, 2, 3] hs hK24 ?_
    exact ⟨pla2_l26, ([]), Rl26, ef hs, ef hs, hO, h⟩
   have hb29 := hs.1
   refine sk [1, 2, 3, 8] hs hK27 ?_
   clear hK27
   apply Zab; intro K30 hK30
   apply Zad
   obtain ⟨x32, hx32, h⟩ := bind_some h
   obtain ⟨hx32a, hx32b, hx32c⟩ := Zar hx32
   have hx32d := Zay (f := avT) hx32c
   obtain ⟨hg33, h⟩ := Zac h
   obtain ⟨y34, hy34, h⟩ := bind_some h
   have hs := And.intro hx32d hs
   refine rc 2 [1, 2, 3, 8, 61] hs ?_; intro K31 hK31
   refine Zca _ (ih _ _ _ x32 (a1 - 1) la2 pla2_l26 (ef hs) _ hy34) (hv hs) ?_; rintro _ _ ⟨rfl, rfl⟩
   refine ne hs hK31 ?_
   clear hK31
   refine cnd h hs (fun hs h => ?_) (fun hs h => ?_)
   ·
    have hb35 := hs.1
    refine rg [6] hs ?_
    apply Zah; simp +decide only [go_sem, Nat.reduceAdd, Zag hla2, hb6, hb29, hx32d, hb35]
    have hgt := Option.some.inj h; subst hgt
    first | refine ZaG (Zaj hcalm ev) (by simp only [List.length_set]) hO.pre ev ⟨?_, rfl⟩ | refine Zbg (Zaj hcalm ev) (by simp only [List.length_set]) hO.pre ev ⟨?_, rfl⟩
    first | rfl | (simp +decide only [go_sem, Nat.reduceAdd, Zag hla2, hb6, hb29, hx32d, hb35]; done) | (simp +decide only [go_sem, Nat.reduceAdd, Vl.cs, Ty.cs, Zag hla2, hb6, hb29, hx32d, hb35]; done)
   have hb35 := hs.1
   refine sk [1, 2, 3, 8] hs hK30 ?_
   clear hK30
   obtain ⟨hg37, h⟩ := Zac h
   refine rl [1, 2, 3, 8] hs (fun e s => Vl26 ml26 e s (Nat.lt_succ_self _)) ?_
   exact ⟨(x8_l26 + 1), y34.2, ([]), Rl26, ef hs, ef hs, hO, h⟩
  ·
   clear h; rintro e st ⟨pla2_k23, Xk23, Rk23, rfl, rfl, hO, h⟩
   rw [Ze7] at h
   refine Zbb hN hNR hNL (by simp only [List.length_set]) (Zaj hcalm ev) hO (by (simp +decide only [go_sem, Nat.reduceAdd]) <;> (try (repeat' apply And.intro)) <;> first | omega | assumption) (by (simp +decide only [go_sem, Nat.reduceAdd, Zb2]) <;> (try (repeat' apply And.intro)) <;> first | omega | assumption) ?_
   refine Zai (fun e st => ∃ (pla2_k39 : Int) (Xk39 : List (List AV)) (Rk39 : List RowA), e = [] ∧ st = ⟨(B.set la2 ([.val (.int .i64 pla2_k39)])) ++ ([a0.cs] ++ Xk39), Rk39, L⟩ ∧ Owns Rw Rk39 [] ∧ Ze3 rec n pla2_k39 = some r) ?_ ?_
   ·
    intro K40 hK40
    refine rg [1, 2, 3, 9] hs ?_
    apply Zad
    refine Zal (fun m e st => ∃ (x9_l42 : Int) (pla2_l42 : Int) (Xl42 : List (List AV)) (Rl42 : List RowA), e = [(1, true, .val (.int .i64 a1)), (2, true, .box la2 0), (3, true, .box B.length 0), (9, true, .val (.int .i64 x9_l42))] ∧ st = ⟨(B.set la2 ([.val (.int .i64 pla2_l42)])) ++ ([a0.cs] ++ Xl42), Rl42, L⟩ ∧ Owns Rw Rl42 [] ∧ ZbS rec n a0 a1 m x9_l42 pla2_l42 = some r) n ⟨0, pla2_k23, ([]), Rk23, ef hs, ef hs, hO, h⟩ ?_
    rintro ml42 e st ⟨x9_l42, pla2_l42, Xl42, Rl42, rfl, rfl, hO, h⟩ Ul42 Vl42
    cases ml42 with
    | zero => cases h
    | succ ml42 =>
    rw [ZbS] at h
    refine Zbb hN hNR hNL (by simp only [List.length_set]) (Zaj hcalm ev) hO (by (simp +decide only [go_sem, Nat.reduceAdd]) <;> (try (repeat' apply And.intro)) <;> first | omega | assumption) (by (simp +decide only [go_sem, Nat.reduceAdd, Zb2]) <;> (try (repeat' apply And.intro)) <;> first | omega | assumption) ?_
    apply Zab; intro K43 hK43
    refine rg [1, 2, 3, 9, 66] hs ?_
    refine cnd h hs (fun hs h => ?_) (fun hs h => ?_)
    rotate_left
    ·
     have hb45 := hs.1
     refine sx [] hs hK40 ?_
     exact ⟨pla2_l42, ([]), Rl42, ef hs, ef hs, hO, h⟩
    have hb45 := hs.1
    refine sk [1, 2, 3, 9] hs hK43 ?_
    clear hK43
    refine Zai (fun e st => ∃ (pla2_k47 : Int) (Xk47 : List (List AV)) (Rk47 : List RowA), e = [(1, true, .val (.int .i64 a1)), (2, true, .box la2 0), (3, true, .box B.length 0), (9, true, .val (.int .i64 x9_l42))] ∧ st = ⟨(B.set la2 ([.val (.int .i64 pla2_k47)])) ++ ([a0.cs] ++ Xk47), Rk47, L⟩ ∧ Owns Rw Rk47 [] ∧ Zeg rec n (ZbS rec n a0 a1 ml42) x9_l42 pla2_k47 = some r) ?_ ?_
    ·
     intro K48 hK48
     apply Zad
     obtain ⟨x50, hx50, h⟩ := bind_some h
     obtain ⟨hx50a, hx50b, hx50c⟩ := Zar hx50
     have hx50d := Zay (f := Zer) hx50c
     have hs := And.intro hx50d hs
     refine rg [1, 2, 3, 9, 10] hs ?_
     apply Zab; intro K51 hK51
     obtain ⟨hg53, h⟩ := Zac h
     obtain ⟨y54, hy54, h⟩ := bind_some h
     refine rc 2 [1, 2, 3, 9, 10, 92] hs ?_; intro K52 hK52
     refine Zca _ (ih _ _ _ x50.2.2.2.1 (a1 - 1) la2 pla2_l42 (ef hs) _ hy54) (hv hs) ?_; rintro _ _ ⟨rfl, rfl⟩
     refine ne hs hK52 ?_
     clear hK52
     refine cnd h hs (fun hs h => ?_) (fun hs h => ?_)
     ·
      have hb55 := hs.1
      refine rg [6] hs ?_
      apply Zah; simp +decide only [go_sem, Nat.reduceAdd, Zag hla2, hb6, hb45, hx50d, hb55]
      have hgt := Option.some.inj h; subst hgt
      first | refine ZaG (Zaj hcalm ev) (by simp only [List.length_set]) hO.pre ev ⟨?_, rfl⟩ | refine Zbg (Zaj hcalm ev) (by simp only [List.length_set]) hO.pre ev ⟨?_, rfl⟩
      first | rfl | (simp +decide only [go_sem, Nat.reduceAdd, Zag hla2, hb6, hb45, hx50d, hb55]; done) | (simp +decide only [go_sem, Nat.reduceAdd, Vl.cs, Ty.cs, Zag hla2, hb6, hb45, hx50d, hb55]; done)
     have hb55 := hs.1
     refine sk [1, 2, 3, 9, 10] hs hK51 ?_
     clear hK51
     refine rg [1, 2, 3, 9, 10, 11] hs ?_
     apply Zad
     refine Zal (fun m e st => ∃ (x11_l58 : Int) (Xl58 : List (List AV)) (Rl58 : List RowA), e = [(1, true, .val (.int .i64 a1)), (2, true, .box la2 0), (3, true, .box B.length 0), (9, true, .val (.int .i64 x9_l42)), (10, true, .box (B.length + 1) 0), (11, true, .val (.int .i64 x11_l58))] ∧ st = ⟨(B.set la2 ([.val (.int .i64 y54.2)])) ++ ([a0.cs, .val (.int .i64 x50.1) :: (.val (.string x50.2.1) :: (.val (.int .i64 x50.2.2.1) :: ((x50.2.2.2.1.cs) ++ ([.list (x50.2.2.2.2.map avV) .none]))))] ++ Xl58), Rl58, L⟩ ∧ Owns Rw Rl58 [] ∧ Zb3 rec n (ZbS rec n a0 a1 ml42) x9_l42 x50 y54 m x11_l58 = some r) n ⟨0, ([]), Rl42, ef hs, ef hs, hO, h⟩ ?_
     rintro ml58 e st ⟨x11_l58, Xl58, Rl58, rfl, rfl, hO, h⟩ Ul58 Vl58
     cases ml58 with
     | zero => cases h
     | succ ml58 =>
     rw [Zb3] at h
     refine Zbb hN hNR hNL (by simp only [List.length_set]) (Zaj hcalm ev) hO (by (simp +decide only [go_sem, Nat.reduceAdd]) <;> (try (repeat' apply And.intro)) <;> first | omega | assumption) (by (simp +decide only [go_sem, Nat.reduceAdd, Zb2]) <;> (try (repeat' apply And.intro)) <;> first | omega | assumption) ?_
     apply Zab; intro K59 hK59
     refine rg [1, 2, 3, 9, 10, 11, 97] hs ?_
     refine cnd h hs (fun hs h => ?_) (fun hs h => ?_)
     rotate_left
     ·
      have hb61 := hs.1
      refine sx [1, 2, 3, 9] hs hK48 ?_
      exact ⟨y54.2, ([.val (.int .i64 x50.1) :: (.val (.string x50.2.1) :: (.val (.int .i64 x50.2.2.1) :: ((x50.2.2.2.1.cs) ++ ([.list (x50.2.2.2.2.map avV) .none]))))]), Rl58, ef hs, ef hs, hO, h⟩
     have hb61 := hs.1
     refine sk [1, 2, 3, 9, 10, 11] hs hK59 ?_
     clear hK59
     apply Zab; intro K62 hK62
     apply Zad
     obtain ⟨x64, hx64, h⟩ := bind_some h
     obtain ⟨hx64a, hx64b, hx64c⟩ := Zar hx64
     have hx64d := Zay (f := avV) hx64c
     obtain ⟨y65, hy65, h⟩ := bind_some h
     have hs := And.intro hx64d hs
     refine rc 2 [1, 2, 3, 9, 10, 11, 106] hs ?_; intro K63 hK63
     refine Zaf _ (ZiX w0 n _ _ _ x64 _ hy65) (hv hs) ?_
     refine ne hs hK63 ?_
     clear hK63
     refine cnd h hs (fun hs h => ?_) (fun hs h => ?_)
     ·
      have hb66 := hs.1
      refine rg [6] hs ?_
      apply Zah; simp +decide only [go_sem, Nat.reduceAdd, Zag hla2, hb6, hb45, hx50d, hb55, hb61, hx64d, hb66]
      have hgt := Option.some.inj h; subst hgt
      first | refine ZaG (Zaj hcalm ev) (by simp only [List.length_set]) hO.pre ev ⟨?_, rfl⟩ | refine Zbg (Zaj hcalm ev) (by simp only [List.length_set]) hO.pre ev ⟨?_, rfl⟩
      first | rfl | (simp +decide only [go_sem, Nat.reduceAdd, Zag hla2, hb6, hb45, hx50d, hb55, hb61, hx64d, hb66]; done) | (simp +decide only [go_sem, Nat.reduceAdd, Vl.cs, Ty.cs, Zag hla2, hb6, hb45, hx50d, hb55, hb61, hx64d, hb66]; done)
     have hb66 := hs.1
     refine sk [1, 2, 3, 9, 10, 11] hs hK62 ?_
     clear hK62
     obtain ⟨hg68, h⟩ := Zac h
     refine rl [1, 2, 3, 9, 10, 11] hs (fun e s => Vl58 ml58 e s (Nat.lt_succ_self _)) ?_
     exact ⟨(x11_l58 + 1), ([]), Rl58, ef hs, ef hs, hO, h⟩
    ·
     clear h; rintro e st ⟨pla2_k47, Xk47, Rk47, rfl, rfl, hO, h⟩
     rw [Zeg] at h
     refine Zbb hN hNR hNL (by simp only [List.length_set]) (Zaj hcalm ev) hO (by (simp +decide only [go_sem, Nat.reduceAdd]) <;> (try (repeat' apply And.intro)) <;> first | omega | assumption) (by (simp +decide only [go_sem, Nat.reduceAdd, Zb2]) <;> (try (repeat' apply And.intro)) <;> first | omega | assumption) ?_
     obtain ⟨hg69, h⟩ := Zac h
     refine rl [1, 2, 3, 9] hs (fun e s => Vl42 ml42 e s (Nat.lt_succ_self _)) ?_
     exact ⟨(x9_l42 + 1), pla2_k47, ([]), Rk47, ef hs, ef hs, hO, h⟩
   ·
    clear h; rintro e st ⟨pla2_k39, Xk39, Rk39, rfl, rfl, hO, h⟩
    rw [Ze3] at h
    refine Zbb hN hNR hNL (by simp only [List.length_set]) (Zaj hcalm ev) hO (by (simp +decide only [go_sem, Nat.reduceAdd]) <;> (try (repeat' apply And.intro)) <;> first | omega | assumption) (by (simp +decide only [go_sem, Nat.reduceAdd, Zb2]) <;> (try (repeat' apply And.intro)) <;> first | omega | assumption) ?_
    refine rg [6] hs ?_
    apply Zah; simp +decide only [go_sem, Nat.reduceAdd, Zag hla2, hb6]
    have hgt := Option.some.inj h; subst hgt
    first | refine ZaG (Zaj hcalm ev) (by simp only [List.length_set]) hO.pre ev ⟨?_, rfl⟩ | refine Zbg (Zaj hcalm ev) (by simp only [List.length_set]) hO.pre ev ⟨?_, rfl⟩
    first | rfl | (simp +decide only [go_sem, Nat.reduceAdd, Zag hla2, hb6]; done) | (simp +decide only [go_sem, Nat.reduceAdd, Vl.cs, Ty.cs, Zag hla2, hb6]; done)
theorem ZjU (w0 : World) : ∀ n : Nat, Ziz w0 (Zdr n)
 | 0 => fun _ _ _ _ _ _ _ _ _ h => (nomatch h)
 | n + 1 => Zll w0 (Zdr n) (ZjU w0 n) n
def Zfn (n : Nat) (a0 : Ty) : Option Bool :=
 (Zdr n a0 12 200).bind fun y4 =>
 some (y4.1)
theorem ZnR (w0 : World) (n : Nat) (B : List (List AV)) (Rw : List RowA) (L : List LoopA) (a0 : Ty) (r : Bool) (h : Zfn n a0 = some r) :
  ACalls Tryz.prog w0 13 [.agg (a0.cs)] ⟨B, Rw, L⟩ fun x st => x = .val (.bool r) ∧ st = ⟨B, Rw, L⟩ := by
 rw [Zfn] at h
 refine hd [.tmp 2] Tryz.func13 Tryz.ntmps13 fun M0 W0 hN hNR hNL hcalm hu hO hs => ?_
 simp only [Zav]
 refine rg [1] hs ?_
 refine rg [1, 3] hs ?_
 obtain ⟨y4, hy4, h⟩ := bind_some h
 refine rc 2 [2] hs ?_; intro K3 hK3
 refine Zca _ (ZjU w0 n _ _ _ a0 12 (B.length + 1) 200 ev _ hy4) (hv hs) ?_; rintro _ _ ⟨rfl, rfl⟩
 refine ne hs hK3 ?_
 clear hK3
 exact rt h hs hcalm hO
def ZeY (a0 : Int × ByteArray × Int × Ty × List Vl) (a1 : ByteArray) : Bool :=
 sEq a0.2.1 a1
theorem Zmm (w0 : World) (B : List (List AV)) (Rw : List RowA) (L : List LoopA) (a0 : Int × ByteArray × Int × Ty × List Vl) (la1 : Nat) (a1 : ByteArray) (hla1 : B[la1]? = some ([.val (.string a1)])) (r : Bool) (h : ZeY a0 a1 = r) :
  ACalls Tryz.prog w0 71 [.agg (.val (.int .i64 a0.1) :: (.val (.string a0.2.1) :: (.val (.int .i64 a0.2.2.1) :: ((a0.2.2.2.1.cs) ++ ([.list (a0.2.2.2.2.map avV) .none]))))), .box la1 0] ⟨B, Rw, L⟩ fun x st => x = .val (.bool r) ∧ st = ⟨B, Rw, L⟩ := by
 rw [ZeY] at h
 refine hd [.tmp 3] Tryz.func71 Tryz.ntmps71 fun M0 W0 hN hNR hNL hcalm hu hO hs => ?_
 simp only [Zav]
 have hltla1 := (List.getElem?_eq_some_iff.1 hla1).1
 have hs := And.intro (Zag hla1) hs
 refine rg [1, 2] hs ?_
 refine rg [3] hs ?_
 apply Zah; simp +decide only [go_sem, Nat.reduceAdd, Zag hla1]
 subst h
 first | refine ZaG hcalm rfl hO.pre ev ⟨?_, rfl⟩ | refine Zbg hcalm rfl hO.pre ev ⟨?_, rfl⟩
 first | rfl | (simp +decide only [go_sem, Nat.reduceAdd, Zag hla1]; done) | (simp +decide only [go_sem, Nat.reduceAdd, Vl.cs, Ty.cs, Zag hla1]; done)
theorem Zlo (w0 : World) (B : List (List AV)) (Rw : List RowA) (L : List LoopA) (a0 : Int × ByteArray × Int × Ty × List Vl) (la1 : Nat) (a1 : ByteArray) (hla1 : B[la1]? = some ([.val (.string a1)])) :
  ACalls Tryz.prog w0 71 [.agg (.val (.int .i64 a0.1) :: (.val (.string a0.2.1) :: (.val (.int .i64 a0.2.2.1) :: ((a0.2.2.2.1.cs) ++ ([.list (a0.2.2.2.2.map avV) .none]))))), .box la1 0] ⟨B, Rw, L⟩ fun x st => x = .val (.bool (ZeY a0 a1)) ∧ st = ⟨B, Rw, L⟩ := Zmm w0 B Rw L a0 la1 a1 hla1 _ rfl
end Go.Proofs.YtgpmlelfkjfbiaaGreatDoor
