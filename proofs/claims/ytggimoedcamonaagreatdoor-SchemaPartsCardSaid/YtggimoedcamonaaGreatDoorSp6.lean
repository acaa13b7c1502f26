/-
  Part 6 of the proof: rules and walks that the claim's last text uses.
-/
import Derived.Test.YtggimoedcamonaaGreatDoorSp5
set_option linter.unusedSimpArgs false
set_option linter.unusedVariables false
set_option maxRecDepth 100000
set_option maxHeartbeats 4000000
namespace Go.Proofs.YtggimoedcamonaaGreatDoor
open Go Go.RowKit Go.Ev
mutual
def Zex (lv : Nat) : Ty → List (Nat × Ty)
 | .mk k a b c w e f => (lv, .mk k a b c w e f) :: (if k = 8 then ZoN (lv + 1) e else if k = 9 ∨ k = 10 then ZlM (lv + 1) f else [])
def ZoN (lv : Nat) : List Ty → List (Nat × Ty)
 | [] => []
 | v :: r => Zex lv v ++ ZoN lv r
def ZlM (lv : Nat) : List (Int × ByteArray × Int × Ty × List Vl) → List (Nat × Ty)
 | [] => []
 | (_, _, _, v, _) :: r => Zex lv v ++ ZlM lv r
end
theorem Zlc (lv : Nat) : ∀ l, ZoN lv l = l.flatMap (Zex lv)
 | [] => rfl
 | v :: r => by simp [ZoN, Zlc lv r]
theorem ZjP (lv : Nat) : ∀ l, ZlM lv l = (l.map (·.2.2.2.1)).flatMap (Zex lv)
 | [] => rfl
 | (_, _, _, v, _) :: r => by simp [ZlM, ZjP lv r]
theorem Zh3 (lv : Nat) (t : Ty) : Zex lv t = (lv, t) :: (Zbl t).flatMap (Zex (lv + 1)) := by
 obtain ⟨k, a, b, c, w, e, f⟩ := t
 simp only [Zex, Zbl, Ty.kind, Ty.elem, Ty.fields, Zlc, ZjP]
 by_cases h1 : k = 8
 ·
  simp only [h1, if_true]
 ·
  by_cases h2 : k = 9 ∨ k = 10
  ·
   simp only [h1, h2, if_true, if_false]
  ·
   simp only [h1, h2, if_false, List.flatMap_nil]
theorem ZcH (t x : Ty) (h : x ∈ Zbl t) : x.size < t.size := by
 unfold Zbl at h
 split at h
 ·
  exact t.elem_size x h
 ·
  split at h
  ·
   obtain ⟨p, hp, rfl⟩ := List.mem_map.1 h
   exact t.field_size p hp
  ·
   simp at h
theorem Zgu (t : Ty) : (Zbl t).length < t.size := by
 have := t.lens
 unfold Zbl
 split
 ·
  omega
 ·
  split
  ·
   simp; omega
  ·
   simp; have := t.size_pos; omega
def ZoP (p : Nat × Ty) : List AV := [.val (.int .i64 p.1), .agg p.2.cs]
def ZmL (w0 : World) (items : List (List AV)) (k : Nat) (J : Nat → St → Prop) (Jx : St → Prop) : Prop :=
 ∀ i SB SR SL x XB XL, J i ⟨SB, SR, SL⟩ → items[i]? = some x → ZiN Tryz.prog w0 k x ⟨SB ++ XB, SR, SL ++ XL⟩ fun r s' => ∃ TB TR TL b, r = .val (.bool b) ∧ s' = ⟨TB ++ XB, TR, TL ++ XL⟩ ∧ TB.length = SB.length ∧ SR.length ≤ TR.length ∧ TL.length = SL.length ∧ (b = true → J (i + 1) ⟨TB, TR, TL⟩) ∧ (b = false → Jx ⟨TB, TR, TL⟩)
def CapsT (sb k ly lb : Nat) (XB : List (List AV)) : Prop := sb ≤ ly ∧ sb ≤ lb ∧ XB[ly - sb]? = some [.yld k] ∧ XB[lb - sb]? = some [.clo 120 [.box ly 0, .box lb 0]]
theorem CapsT.more {sb k ly lb : Nat} {XB : List (List AV)} (h : CapsT sb k ly lb XB) (Y : List (List AV)) : CapsT sb k ly lb (XB ++ Y) := by
 obtain ⟨a, b, c, d⟩ := h
 exact ⟨a, b, by rw [List.getElem?_append_left (List.getElem?_eq_some_iff.1 c).1]; exact c, by rw [List.getElem?_append_left (List.getElem?_eq_some_iff.1 d).1]; exact d⟩
theorem CapsT.get {sb k ly lb : Nat} {XB : List (List AV)} (h : CapsT sb k ly lb XB) {SB : List (List AV)} (hs : SB.length = sb) : (SB ++ XB)[ly]? = some [.yld k] ∧ (SB ++ XB)[lb]? = some [.clo 120 [.box ly 0, .box lb 0]] := by
 obtain ⟨a, b, c, d⟩ := h
 subst hs
 exact ⟨by rw [List.getElem?_append_right a]; exact c, by rw [List.getElem?_append_right b]; exact d⟩
def ZmW (w0 : World) (items : List (List AV)) (k : Nat) (J : Nat → St → Prop) (Jx : St → Prop) (t : Ty) : Prop :=
 ∀ (lv i : Nat) (lvi : Int) (ly lb : Nat) SB SR SL XB XL, lv + t.size ≤ 1048576 → J i ⟨SB, SR, SL⟩ → lvi = lv → CapsT SB.length k ly lb XB → (∀ j x, (Zex lv t)[j]? = some x → items[i + j]? = some (ZoP x)) →
  ACalls Tryz.prog w0 120 [.agg t.cs, .val (.int .i64 lvi), .box ly 0, .box lb 0] ⟨SB ++ XB, SR, SL ++ XL⟩ fun r s' => ∃ TB TR TL XB' b, r = .val (.bool b) ∧ s' = ⟨TB ++ (XB ++ XB'), TR, TL ++ XL⟩ ∧ TB.length = SB.length ∧ SR.length ≤ TR.length ∧ TL.length = SL.length ∧ (b = true → J (i + (Zex lv t).length) ⟨TB, TR, TL⟩) ∧ (b = false → Jx ⟨TB, TR, TL⟩)
theorem ZkK (w0 : World) (items : List (List AV)) (k : Nat) (J : Nat → St → Prop) (Jx : St → Prop) (hY : ZmL w0 items k J Jx) (t : Ty) (ih : ∀ x, x.size < t.size → ZmW w0 items k J Jx x) : ZmW w0 items k J Jx t := by
 intro lv i lvi ly lb SB SR SL XB XL hlv h0 hle hcap hit
 subst hle
 obtain ⟨hy, hv⟩ := hcap.get (SB := SB) rfl
 have pl1 := t.lens
 have pl3 := Zgu t
 have hpre := Zh3 lv t
 obtain ⟨ps, hpe⟩ : ∃ ps, Zbl t = ps := ⟨_, rfl⟩
 have hit0 : items[i]? = some (ZoP (lv, t)) := by
  have := hit 0 (lv, t) (by rw [hpre]; rfl)
  simpa using this
 have hY1 := hY i SB SR SL _ (XB ++ [t.cs]) XL h0 hit0
 obtain ⟨BX, hBX⟩ : ∃ BX, SB ++ XB = BX := ⟨_, rfl⟩
 rw [← List.append_assoc, hBX] at hY1
 rw [hBX] at hy hv ⊢
 refine Zbh (rs := [.tmp 6]) Tryz.func120 rfl rfl Tryz.ntmps120 (Zat Tryz.func120 rfl (by decide)) (Nat.le_of_ble_eq_true rfl) ?_
 intro M0 W0 hN hNR hNL hcalm hu
 simp only [Zan]
 apply Zab; intro K1 hK1
 apply Zac 1 [1, 2, 3, 4]
 rw [Zaa]; simp +decide only [go_sem, Zag hy, Zag hv]
 (repeat' apply And.intro) <;> first | refine hK1 _ _ ?_ | (intros; omega) | (intros; simp_all; done) | (intros; simp only [Bool.or_eq_false_iff, Bool.or_eq_true, Bool.and_eq_true, Bool.and_eq_false_iff, decide_eq_true_eq, decide_eq_false_iff_not, bne_iff_ne] at *; omega)
 clear hK1
 apply Zab; intro K2 hK2
 apply Zab; intro K3 hK3
 apply Zac 2 [1, 3, 4, 13]
 rw [Zaa]; simp +decide only [go_sem, Zag hy, Zag hv]
 (repeat' apply And.intro) <;> first | refine ZhK _ (fun _ => hY1) (fun r s' hp _ => ?_) | (intros; omega) | (intros; simp_all; done) | (intros; simp only [Bool.or_eq_false_iff, Bool.or_eq_true, Bool.and_eq_true, Bool.and_eq_false_iff, decide_eq_true_eq, decide_eq_false_iff_not, bne_iff_ne] at *; omega)
 obtain ⟨TB, TR, TL, b, rfl, rfl, l1, l2, l3, hp1, hp2⟩ := hp rfl
 obtain ⟨hy, hv⟩ := hcap.get (SB := TB) l1
 have hBl : BX.length = (TB ++ XB).length := by rw [← hBX]; simp [l1]
 rw [hBl, ← List.append_assoc]
 obtain ⟨BX2, hBX2⟩ : ∃ B2, TB ++ XB = B2 := ⟨_, rfl⟩
 rw [hBX2] at hy hv ⊢
 rw [Zaa]; simp +decide only [go_sem, Zag hy, Zag hv]
 (repeat' apply And.intro) <;> first | refine hK3 _ _ ?_ | (intros; omega) | (intros; simp_all; done) | (intros; simp only [Bool.or_eq_false_iff, Bool.or_eq_true, Bool.and_eq_true, Bool.and_eq_false_iff, decide_eq_true_eq, decide_eq_false_iff_not, bne_iff_ne] at *; omega)
 clear hK3
 refine Zar _ (by simp +decide only [go_sem]) (by simp +decide only [go_sem]; rfl) (fun hb => ?_) (fun hb => ?_)
 ·
  simp only [Bool.not_eq_true'] at hb
  apply Zab; intro K4 hK4
  apply Zac 1 [6]
  rw [Zaa]; simp +decide only [go_sem, Zag hy, Zag hv]
  (repeat' apply And.intro) <;> first | refine hK4 _ _ ?_ | (intros; omega) | (intros; simp_all; done) | (intros; simp only [Bool.or_eq_false_iff, Bool.or_eq_true, Bool.and_eq_true, Bool.and_eq_false_iff, decide_eq_true_eq, decide_eq_false_iff_not, bne_iff_ne] at *; omega)
  clear hK4
  apply Zah; simp +decide only [go_sem]
  exact ⟨TB, TR, TL, [t.cs], false, rfl, by rw [← hBX2, List.append_assoc], l1, l2, l3, fun h => (by cases h), fun _ => hp2 hb⟩
 simp only [Bool.not_eq_false'] at hb
 apply ZaA; simp only [go_sem]
 (repeat' apply And.intro) <;> first | refine hK2 _ _ ?_ | (intros; omega) | (intros; simp_all; done) | (intros; simp only [Bool.or_eq_false_iff, Bool.or_eq_true, Bool.and_eq_true, Bool.and_eq_false_iff, decide_eq_true_eq, decide_eq_false_iff_not, bne_iff_ne] at *; omega)
 clear hK2
 apply Zab; intro K5 hK5
 apply Zab; intro K6 hK6
 apply Zac 2 [1, 3, 15, 16, 17]
 rw [Zaa]; simp +decide only [go_sem, Zag hy, Zag hv]
 (repeat' apply And.intro) <;> first | refine Zec _ (ZiQ w0 2000000 _ _ _ t (Zbl t) (ZnE 2000000 t (by omega) (by omega))) ?_ | (intros; omega) | (intros; simp_all; done) | (intros; simp only [Bool.or_eq_false_iff, Bool.or_eq_true, Bool.and_eq_true, Bool.and_eq_false_iff, decide_eq_true_eq, decide_eq_false_iff_not, bne_iff_ne] at *; omega)
 rw [hpe] at pl3 hpre ⊢
 rw [Zaa]; simp +decide only [go_sem, Zag hy, Zag hv]
 (repeat' apply And.intro) <;> first | refine hK6 _ _ ?_ | (intros; omega) | (intros; simp_all; done) | (intros; simp only [Bool.or_eq_false_iff, Bool.or_eq_true, Bool.and_eq_true, Bool.and_eq_false_iff, decide_eq_true_eq, decide_eq_false_iff_not, bne_iff_ne] at *; omega)
 clear hK6
 apply Zae
 refine Zak (fun m e st => ∃ (q : Nat) (UB : List (List AV)) (UR : List RowA) (UL : List LoopA) (XB' : List (List AV)), q ≤ ps.length ∧ m = ps.length - q ∧ J (i + 1 + ((ps.take q).flatMap (Zex (lv + 1))).length) ⟨UB, UR, UL⟩ ∧ UB.length = SB.length ∧ SR.length ≤ UR.length ∧ UL.length = SL.length ∧ e = [(1, true, .val (.int .i64 lv)), (3, true, .box lb 0), (15, true, .list (ps.map avT) .none), (16, true, .val (.int .i64 ps.length)), (17, true, .val (.int .i64 q))] ∧ st = ⟨UB ++ (XB ++ XB'), UR, UL ++ XL⟩) ps.length ⟨0, TB, TR, TL, [t.cs], by omega, rfl, by simpa using hp1 hb, l1, l2, l3, rfl, by rw [← hBX2, List.append_assoc]⟩ ?_
 rintro m e st ⟨q, UB, UR, UL, XB', hq, rfl, hj, m1, m2, m3, rfl, rfl⟩ KR hKR
 obtain ⟨x, hx⟩ : ∃ x, (ps.map avT).getD q .junk = x := ⟨_, rfl⟩
 obtain ⟨hy, hv⟩ := hcap.get (SB := UB) m1
 obtain ⟨BX3, hBX3⟩ : ∃ B3, UB ++ XB = B3 := ⟨_, rfl⟩
 rw [← List.append_assoc]
 rw [hBX3] at hy hv ⊢
 apply Zab; intro K7 hK7
 apply Zac 1 [1, 3, 15, 16, 17, 18]
 rw [Zaa]; simp +decide only [go_sem, hx, Zag hy, Zag hv]
 (repeat' apply And.intro) <;> first | refine hK7 _ _ ?_ | (intros; omega) | (intros; simp_all; done) | (intros; simp only [Bool.or_eq_false_iff, Bool.or_eq_true, Bool.and_eq_true, Bool.and_eq_false_iff, decide_eq_true_eq, decide_eq_false_iff_not, bne_iff_ne] at *; omega)
 clear hK7
 apply Zab; intro K8 hK8
 refine Zar _ (by simp +decide only [go_sem]) (by simp +decide only [go_sem]; rfl) (fun hb => ?_) (fun hb => ?_)
 rotate_left
 ·
  simp only [Bool.or_eq_true, Bool.or_eq_false_iff, Bool.and_eq_true, Bool.and_eq_false_iff, decide_eq_true_eq, decide_eq_false_iff_not, Bool.not_eq_true', Bool.not_eq_false', Bool.not_eq_eq_eq_not, Bool.not_true, Bool.not_false] at hb
  apply Zfa; simp +decide only [go_sem, hx, Zag hy, Zag hv]
  (repeat' apply And.intro) <;> first | refine hK5 _ _ ?_ | (intros; omega) | (intros; simp_all; done) | (intros; simp only [Bool.or_eq_false_iff, Bool.or_eq_true, Bool.and_eq_true, Bool.and_eq_false_iff, decide_eq_true_eq, decide_eq_false_iff_not, bne_iff_ne] at *; omega)
  clear hK5
  apply Zab; intro K9 hK9
  apply Zac 1 [6]
  rw [Zaa]; simp +decide only [go_sem, hx, Zag hy, Zag hv]
  (repeat' apply And.intro) <;> first | refine hK9 _ _ ?_ | (intros; omega) | (intros; simp_all; done) | (intros; simp only [Bool.or_eq_false_iff, Bool.or_eq_true, Bool.and_eq_true, Bool.and_eq_false_iff, decide_eq_true_eq, decide_eq_false_iff_not, bne_iff_ne] at *; omega)
  clear hK9
  apply Zah; simp +decide only [go_sem]
  refine ⟨UB, UR, UL, XB', true, rfl, by rw [← hBX3, List.append_assoc], m1, m2, m3, fun _ => ?_, fun h => (by cases h)⟩
  rw [List.take_of_length_le (by omega)] at hj
  rw [hpre, List.length_cons, show i + ((ps.flatMap (Zex (lv + 1))).length + 1) = i + 1 + (ps.flatMap (Zex (lv + 1))).length by omega]
  exact hj
 simp only [Bool.or_eq_true, Bool.or_eq_false_iff, Bool.and_eq_true, Bool.and_eq_false_iff, decide_eq_true_eq, decide_eq_false_iff_not, Bool.not_eq_true', Bool.not_eq_false', Bool.not_eq_eq_eq_not, Bool.not_true, Bool.not_false] at hb
 have hql : q < ps.length := by omega
 have hx2 : (ps.map avT).getD q .junk = avT (ps[q]'hql) := Zav (List.getElem?_eq_getElem hql)
 rw [hx] at hx2
 subst hx2
 have hfs := ZgQ (Zex (lv + 1)) ps q hql
 have hitq : ∀ j x, (Zex (lv + 1) (ps[q]'hql))[j]? = some x → items[i + 1 + ((ps.take q).flatMap (Zex (lv + 1))).length + j]? = some (ZoP x) := fun j x hjx => by
  have h1 := Zhj (Zex (lv + 1)) ps q hql j x hjx
  have h2 := hit (((ps.take q).flatMap (Zex (lv + 1))).length + j + 1) x (by rw [hpre, List.getElem?_cons_succ, h1])
  rw [show i + 1 + ((ps.take q).flatMap (Zex (lv + 1))).length + j = i + (((ps.take q).flatMap (Zex (lv + 1))).length + j + 1) by omega]
  exact h2
 have hszq := ZcH t (ps[q]'hql) (by rw [hpe]; exact List.getElem_mem hql)
 have ih3 := ih (ps[q]'hql) hszq (lv + 1) (i + 1 + ((ps.take q).flatMap (Zex (lv + 1))).length) ((lv + 1 : Nat) : Int) ly lb UB UR UL (XB ++ (XB' ++ [(ps[q]'hql).cs])) XL (by omega) hj rfl (by rw [m1]; exact hcap.more _) hitq
 rw [← List.append_assoc, hBX3] at ih3
 apply ZaA; simp only [go_sem]
 (repeat' apply And.intro) <;> first | refine hK8 _ _ ?_ | (intros; omega) | (intros; simp_all; done) | (intros; simp only [Bool.or_eq_false_iff, Bool.or_eq_true, Bool.and_eq_true, Bool.and_eq_false_iff, decide_eq_true_eq, decide_eq_false_iff_not, bne_iff_ne] at *; omega)
 clear hK8
 apply Zab; intro K10 hK10
 apply Zae
 apply Zab; intro K11 hK11
 apply Zac 1 [1, 3, 8, 15, 16, 17]
 rw [Zaa]; simp +decide only [go_sem, hx, Zag hy, Zag hv]
 (repeat' apply And.intro) <;> first | refine hK11 _ _ ?_ | (intros; omega) | (intros; simp_all; done) | (intros; simp only [Bool.or_eq_false_iff, Bool.or_eq_true, Bool.and_eq_true, Bool.and_eq_false_iff, decide_eq_true_eq, decide_eq_false_iff_not, bne_iff_ne] at *; omega)
 clear hK11
 apply Zab; intro K12 hK12
 apply Zac 2 [1, 3, 15, 16, 17, 26]
 rw [Zaa]; simp +decide only [go_sem, hx, Zag hy, Zag hv]
 (repeat' apply And.intro) <;> first | refine Zfd _ ih3 ?_ | (intros; omega) | (intros; simp_all; done) | (intros; simp only [Bool.or_eq_false_iff, Bool.or_eq_true, Bool.and_eq_true, Bool.and_eq_false_iff, decide_eq_true_eq, decide_eq_false_iff_not, bne_iff_ne] at *; omega)
 rintro r s' ⟨VB, VR, VL, XB2, b2, rfl, rfl, n1, n2, n3, np1, np2⟩
 rw [Zaa]; simp +decide only [go_sem, hx, Zag hy, Zag hv]
 (repeat' apply And.intro) <;> first | refine hK12 _ _ ?_ | (intros; omega) | (intros; simp_all; done) | (intros; simp only [Bool.or_eq_false_iff, Bool.or_eq_true, Bool.and_eq_true, Bool.and_eq_false_iff, decide_eq_true_eq, decide_eq_false_iff_not, bne_iff_ne] at *; omega)
 clear hK12
 refine Zar _ (by simp +decide only [go_sem]) (by simp +decide only [go_sem]; rfl) (fun hb => ?_) (fun hb => ?_)
 ·
  simp only [Bool.not_eq_true'] at hb
  apply Zab; intro K13 hK13
  apply Zac 1 [6]
  rw [Zaa]; simp +decide only [go_sem, hx, Zag hy, Zag hv]
  (repeat' apply And.intro) <;> first | refine hK13 _ _ ?_ | (intros; omega) | (intros; simp_all; done) | (intros; simp only [Bool.or_eq_false_iff, Bool.or_eq_true, Bool.and_eq_true, Bool.and_eq_false_iff, decide_eq_true_eq, decide_eq_false_iff_not, bne_iff_ne] at *; omega)
  clear hK13
  apply Zah; simp +decide only [go_sem]
  exact ⟨VB, VR, VL, XB' ++ ([(ps[q]'hql).cs] ++ XB2), false, rfl, by simp, by omega, by omega, by omega, fun h => (by cases h), fun _ => np2 hb⟩
 simp only [Bool.not_eq_false'] at hb
 apply ZaA; simp only [go_sem]
 (repeat' apply And.intro) <;> first | refine hK10 _ _ ?_ | (intros; omega) | (intros; simp_all; done) | (intros; simp only [Bool.or_eq_false_iff, Bool.or_eq_true, Bool.and_eq_true, Bool.and_eq_false_iff, decide_eq_true_eq, decide_eq_false_iff_not, bne_iff_ne] at *; omega)
 clear hK10
 apply Zac 1 [1, 3, 15, 16, 17]
 rw [Zaa]; simp +decide only [go_sem, hx, Zag hy, Zag hv]
 (repeat' apply And.intro) <;> first | refine hKR (ps.length - (q + 1)) _ _ ?_ ⟨q + 1, VB, VR, VL, XB' ++ ([(ps[q]'hql).cs] ++ XB2), ?_, rfl, ?_, ?_, ?_, ?_, ?_, ?_⟩ | (intros; omega) | (intros; simp_all; done)
 ·
  omega
 ·
  omega
 ·
  rw [hfs]; have := np1 hb; rwa [Nat.add_assoc (i + 1)] at this
 ·
  omega
 ·
  omega
 ·
  omega
 ·
  simp
 ·
  simp
theorem ZjL (w0 : World) (items : List (List AV)) (k : Nat) (J : Nat → St → Prop) (Jx : St → Prop) (hY : ZmL w0 items k J Jx) : ∀ (n : Nat) (t : Ty), t.size ≤ n → ZmW w0 items k J Jx t
 | 0, t, h => by have := t.size_pos; omega
 | n + 1, t, h => ZkK w0 items k J Jx hY t fun x hx => ZjL w0 items k J Jx hY n x (by omega)
def Zew (t : Ty) : List (List AV) := (Zex 1 t).map ZoP
theorem ZlD (w0 : World) (t : Ty) (ht : t.size < 1048576) (l : Nat) : Zrh Tryz.prog w0 119 [.box l 0] (Zew t) (fun st => st.boxes[l]? = some t.cs) := by
 intro k J Jx hJ hY s0 h0
 have hR : ZmL w0 (Zew t) k J (fun s => Jx s) := by
  intro i SB SR SL x XB XL hj hx
  have := hY i ⟨SB, SR, SL⟩ x ⟨XB, [], XL⟩ rfl hj hx
  simp only [St.ext, List.append_nil] at this
  intro M w vals h1 h2
  obtain ⟨fn, tmps, asg, body, e1, e2⟩ := this M w vals h1 h2
  refine ⟨fn, tmps, asg, body, e1, fun n => (e2 n).mono ?_⟩
  intro en w' hc
  refine hc.mono ?_
  rintro r s ⟨⟨TB, TR, TL⟩, rfl, ⟨q1, q2, q3⟩, hp⟩
  rcases hp with ⟨rfl, hp⟩ | ⟨rfl, hp⟩
  ·
   exact ⟨TB, TR, TL, true, rfl, rfl, q1, q2, q3, fun _ => hp, fun h => (by cases h)⟩
  ·
   exact ⟨TB, TR, TL, false, rfl, rfl, q1, q2, q3, fun h => (by cases h), fun _ => hp⟩
 obtain ⟨hbox, hkl⟩ := hJ _ _ h0
 obtain ⟨SB, SR, SL⟩ := s0
 simp only at hbox hkl
 have hc : CapsT SB.length k SB.length (SB.length + 1) [[.yld k], [.clo 120 [.box SB.length 0, .box (SB.length + 1) 0]]] := ⟨Nat.le_refl _, by omega, by simp, by simp⟩
 have hvis := ZjL w0 (Zew t) k J Jx hR t.size t (Nat.le_refl _) 1 0 1 SB.length (SB.length + 1) SB SR SL _ [] (by omega) h0 rfl hc (fun j x hx => by simp [Zew, hx])
 simp only [List.append_nil, Nat.zero_add] at hvis
 refine Zbh (rs := []) Tryz.func119 rfl rfl Tryz.ntmps119 (Zat Tryz.func119 rfl (by decide)) (Nat.le_of_ble_eq_true rfl) ?_
 intro M0 W0 hN hNR hNL hcalm hu
 simp only [Zan]
 apply Zab; intro K1 hK1
 apply Zac 1 [1, 2]
 rw [Zaa]; simp +decide only [go_sem, Zag hbox]
 (repeat' apply And.intro) <;> first | refine hK1 _ _ ?_ | (intros; omega) | (intros; simp_all; done) | (intros; simp only [Bool.or_eq_false_iff, Bool.or_eq_true, Bool.and_eq_true, Bool.and_eq_false_iff, decide_eq_true_eq, decide_eq_false_iff_not, bne_iff_ne] at *; omega)
 clear hK1
 apply Zab; intro K2 hK2
 apply Zac 1 [1, 2, 3]
 rw [Zaa]; simp +decide only [go_sem, Zag hbox]
 (repeat' apply And.intro) <;> first | refine hK2 _ _ ?_ | (intros; omega) | (intros; simp_all; done) | (intros; simp only [Bool.or_eq_false_iff, Bool.or_eq_true, Bool.and_eq_true, Bool.and_eq_false_iff, decide_eq_true_eq, decide_eq_false_iff_not, bne_iff_ne] at *; omega)
 clear hK2
 apply Zab; intro K3 hK3
 apply Zac 1 [1, 3]
 rw [Zaa]; simp +decide only [go_sem, Zag hbox]
 (repeat' apply And.intro) <;> first | refine hK3 _ _ ?_ | (intros; omega) | (intros; simp_all; done) | (intros; simp only [Bool.or_eq_false_iff, Bool.or_eq_true, Bool.and_eq_true, Bool.and_eq_false_iff, decide_eq_true_eq, decide_eq_false_iff_not, bne_iff_ne] at *; omega)
 clear hK3
 apply Zac 2 []
 rw [Zaa]; simp +decide only [go_sem, Zag hbox]
 (repeat' apply And.intro) <;> first | refine Zfd _ hvis ?_ | (intros; omega) | (intros; simp_all; done) | (intros; simp only [Bool.or_eq_false_iff, Bool.or_eq_true, Bool.and_eq_true, Bool.and_eq_false_iff, decide_eq_true_eq, decide_eq_false_iff_not, bne_iff_ne] at *; omega)
 rintro r s' ⟨TB, TR, TL, XB', b, rfl, rfl, l1, l2, l3, hp1, hp2⟩
 rw [Zaa]; simp +decide only [go_sem]
 refine ⟨⟨TB, TR, TL⟩, ⟨[[.yld k], [.clo 120 [.box SB.length 0, .box (SB.length + 1) 0]]] ++ XB', [], []⟩, rfl, by simp [St.ext], ?_⟩
 cases b with
 | true => left; have := hp1 rfl; simpa [Zew] using this
 | false => right; exact hp2 rfl
theorem Zgc (t : Ty) : (Zew t).length = (Zex 1 t).length := by simp [Zew]
theorem Ziy (t : Ty) (i : Nat) (x : List AV) (h : (Zew t)[i]? = some x) : ∃ p, (Zex 1 t)[i]? = some p ∧ x = [.val (.int .i64 p.1), .agg p.2.cs] ∧ i < (Zex 1 t).length := by
 simp only [Zew, List.getElem?_map, Option.map_eq_some_iff] at h
 obtain ⟨p, h1, rfl⟩ := h
 exact ⟨p, h1, rfl, (List.getElem?_eq_some_iff.1 h1).1⟩
theorem Zit (t : Ty) (x : List AV) (h : x ∈ Zew t) : x.length = 2 := by
 obtain ⟨p, _, rfl⟩ := List.mem_map.1 h
 rfl
theorem Zqy (w0 : World) (B : List (List AV)) (Rw : List RowA) (L : List LoopA) (t : Ty) :
  ACalls Tryz.prog w0 79 [.agg t.cs] ⟨B, Rw, L⟩ fun r st => r = .clo 119 [.box B.length 0] ∧ st = ⟨B ++ [t.cs], Rw, L⟩ := by
 refine Zbh (rs := [.tmp 2]) Tryz.func79 rfl rfl Tryz.ntmps79 (Zat Tryz.func79 rfl (by decide)) (Nat.le_of_ble_eq_true rfl) ?_
 intro M0 W0 hN hNR hNL hcalm hu
 simp only [Zan]
 apply Zab; intro K1 hK1
 apply Zac 1 [1]
 rw [Zaa]; simp +decide only [go_sem]
 (repeat' apply And.intro) <;> first | refine hK1 _ _ ?_ | (intros; omega) | (intros; simp_all; done) | (intros; simp only [Bool.or_eq_false_iff, Bool.or_eq_true, Bool.and_eq_true, Bool.and_eq_false_iff, decide_eq_true_eq, decide_eq_false_iff_not, bne_iff_ne] at *; omega)
 clear hK1
 apply Zab; intro K2 hK2
 apply Zac 1 [2]
 rw [Zaa]; simp +decide only [go_sem]
 (repeat' apply And.intro) <;> first | refine hK2 _ _ ?_ | (intros; omega) | (intros; simp_all; done) | (intros; simp only [Bool.or_eq_false_iff, Bool.or_eq_true, Bool.and_eq_true, Bool.and_eq_false_iff, decide_eq_true_eq, decide_eq_false_iff_not, bne_iff_ne] at *; omega)
 clear hK2
 apply Zah; simp +decide only [go_sem]
 skip
def ZcO  : List (Nat × Ty) → Int → Option Int
 | [], b1_r6 =>
  some (b1_r6)
 | p_r6 :: rest, b1_r6 =>
  (ZcO  rest) ((if b1_r6 < (p_r6.1 : Int) then (p_r6.1 : Int) else b1_r6))
def ZfG (a0 : Ty) : Option Int :=
 if a0.size < 1048576 then
  ZcO  (Zex 1 a0) 0
 else none
theorem ZiR (w0 : World) (B : List (List AV)) (Rw : List RowA) (L : List LoopA) (a0 : Ty) (r : Int) (h : ZfG a0 = some r) :
  ACalls Tryz.prog w0 43 [.agg (a0.cs)] ⟨B, Rw, L⟩ fun x st => x = .val (.int .i64 r) ∧ st = ⟨B, Rw, L⟩ := by
 rw [ZfG] at h
 refine hd [.tmp 2] Tryz.func43 Tryz.ntmps43 fun M0 W0 hN hNR hNL hcalm hu hO hs => ?_
 simp only [Zan]
 refine rg [1] hs ?_
 refine rg [1, 3] hs ?_
 apply Zab; intro K3 hK3
 refine rc 2 [3, 6] hs ?_; intro K4 hK4
 refine ZbN _ (Zqy w0 _ _ _ a0) (hv hs) ?_; rintro _ _ ⟨rfl, rfl⟩
 refine ne hs hK4 ?_
 clear hK4
 apply Zae
 obtain ⟨hg5, h⟩ := Zad h
 refine ZfF (Zew a0) (fun st => st.boxes[(B.length + 2)]? = some a0.cs) (fun i st => ∃ (b1_r6 : Int) (Rr6 : List RowA), st = ⟨B ++ ([a0.cs, [.val (.int .i64 b1_r6)], a0.cs]), Rr6, L⟩ ∧ Owns Rw Rr6 [] ∧ ZcO  ((Zex 1 a0).drop i) b1_r6 = some r) (fun _ _ => False) ev ev (ZlD w0 a0 hg5 _) (fun x hx => Zit a0 x hx) (by decide) ?_ ⟨0, Rw, ef hs, hO, h⟩ (fun _ _ h => h.elim) ?_ ?_ ?_
 ·
  rintro i st la ⟨b1_r6, Rr6, rfl, hO, h⟩ _ _; simp +decide [St.push]
 ·
  rintro i s1 ⟨XB, XR, XL⟩ x M1 W1 l la la' hX hI hlike hloops hx hra K hK
  obtain ⟨p_r6, hpi, rfl, hi⟩ := Ziy a0 i x hx
  (try simp only at hX)
  subst hX
  obtain ⟨b1_r6, Rr6, rfl, hO, h⟩ := hI
  rw [Zg4 hpi, ZcO] at h
  have hra0_r6 := hO
  simp only [St.ext, St.push, List.append_assoc, List.append_nil]
  apply Zac 1 [3, 4]
  rw [Zaa]; simp +decide only [go_sem, Nat.reduceAdd]
  (repeat' apply And.intro) <;> first | refine hK _ _ (by simp [St.ext, St.push]) (fun KQ hKQ => ?_) | exact cl
  clear hK
  dsimp only [St.ext, St.push]
  apply Zae
  apply Zac 1 [3]
  rw [Zaa]; simp +decide only [go_sem, Nat.reduceAdd]
  (repeat' apply And.intro) <;> first | refine hKQ _ _ _ ⟨⟨B ++ [a0.cs, [.val (.int .i64 ((if b1_r6 < (p_r6.1 : Int) then (p_r6.1 : Int) else b1_r6)))], a0.cs], Rr6, L⟩, [], by first | rfl | (simp only [List.append_assoc, List.append_nil, List.cons_append, List.nil_append]; done), ⟨by simp, by first | exact Nat.le_refl _ | (have := hO.len; simp; omega), rfl⟩, rfl, ⟨((if b1_r6 < (p_r6.1 : Int) then (p_r6.1 : Int) else b1_r6)), Rr6, ef hs, hO, h⟩, ?_⟩ | exact cl
  exact .inl rfl
 ·
  rintro s la ⟨XB, XR, XL⟩ hXR ⟨b1_r6, Rr6, rfl, hO, h⟩ _ _
  simp only at hXR
  subst hXR
  rw [List.drop_eq_nil_of_le (by rw [Zgc]; exact Nat.le_refl _), ZcO] at h
  simp only [St.ext, St.push, List.append_assoc, List.append_nil]
  (repeat' apply And.intro) <;> first | refine hK3 _ _ ?_ | exact cl
  clear hK3
  refine Zgd (bs := [a0.cs, [.val (.int .i64 b1_r6)], a0.cs]) hN hNR hNL rfl hcalm hO (by (simp +decide only [go_sem, Nat.reduceAdd]) <;> (try (repeat' apply And.intro)) <;> first | omega | assumption) (by (simp +decide only [go_sem, Nat.reduceAdd, ZbC]) <;> (try (repeat' apply And.intro)) <;> first | omega | assumption) ?_
  refine rg [2] hs ?_
  exact rt h hs hcalm hO
 ·
  rintro ex s la X hX h; exact h.elim
def Zc6  : List (Nat × Ty) → Int → Option Int
 | [], b1_r6 =>
  some (b1_r6)
 | p_r6 :: rest, b1_r6 =>
  if I64 (b1_r6 + 1) then
   (Zc6  rest) (b1_r6 + 1)
  else none
def Zhb (a0 : Ty) : Option Int :=
 if a0.size < 1048576 then
  Zc6  (Zex 1 a0) 0
 else none
theorem ZhW (w0 : World) (B : List (List AV)) (Rw : List RowA) (L : List LoopA) (a0 : Ty) (r : Int) (h : Zhb a0 = some r) :
  ACalls Tryz.prog w0 41 [.agg (a0.cs)] ⟨B, Rw, L⟩ fun x st => x = .val (.int .i64 r) ∧ st = ⟨B, Rw, L⟩ := by
 rw [Zhb] at h
 refine hd [.tmp 2] Tryz.func41 Tryz.ntmps41 fun M0 W0 hN hNR hNL hcalm hu hO hs => ?_
 simp only [Zan]
 refine rg [1] hs ?_
 refine rg [1, 3] hs ?_
 apply Zab; intro K3 hK3
 refine rc 2 [3, 5] hs ?_; intro K4 hK4
 refine ZbN _ (Zqy w0 _ _ _ a0) (hv hs) ?_; rintro _ _ ⟨rfl, rfl⟩
 refine ne hs hK4 ?_
 clear hK4
 apply Zae
 obtain ⟨hg5, h⟩ := Zad h
 refine ZfF (Zew a0) (fun st => st.boxes[(B.length + 2)]? = some a0.cs) (fun i st => ∃ (b1_r6 : Int) (Rr6 : List RowA), st = ⟨B ++ ([a0.cs, [.val (.int .i64 b1_r6)], a0.cs]), Rr6, L⟩ ∧ Owns Rw Rr6 [] ∧ Zc6  ((Zex 1 a0).drop i) b1_r6 = some r) (fun _ _ => False) ev ev (ZlD w0 a0 hg5 _) (fun x hx => Zit a0 x hx) (by decide) ?_ ⟨0, Rw, ef hs, hO, h⟩ (fun _ _ h => h.elim) ?_ ?_ ?_
 ·
  rintro i st la ⟨b1_r6, Rr6, rfl, hO, h⟩ _ _; simp +decide [St.push]
 ·
  rintro i s1 ⟨XB, XR, XL⟩ x M1 W1 l la la' hX hI hlike hloops hx hra K hK
  obtain ⟨p_r6, hpi, rfl, hi⟩ := Ziy a0 i x hx
  (try simp only at hX)
  subst hX
  obtain ⟨b1_r6, Rr6, rfl, hO, h⟩ := hI
  rw [Zg4 hpi, Zc6] at h
  have hra0_r6 := hO
  simp only [St.ext, St.push, List.append_assoc, List.append_nil]
  refine Zcx (Zck [3] _) ?_ (ZaK _ _)
  apply ZaA; simp +decide only [go_sem, Nat.reduceAdd]
  (repeat' apply And.intro) <;> first | refine hK _ _ (by simp [St.ext, St.push]) (fun KQ hKQ => ?_) | exact cl
  clear hK
  dsimp only [St.ext, St.push]
  apply Zae
  obtain ⟨hg7, h⟩ := Zad h
  apply Zac 1 [3]
  rw [Zaa]; simp +decide only [go_sem, Nat.reduceAdd]
  (repeat' apply And.intro) <;> first | refine hKQ _ _ _ ⟨⟨B ++ [a0.cs, [.val (.int .i64 (b1_r6 + 1))], a0.cs], Rr6, L⟩, [], by first | rfl | (simp only [List.append_assoc, List.append_nil, List.cons_append, List.nil_append]; done), ⟨by simp, by first | exact Nat.le_refl _ | (have := hO.len; simp; omega), rfl⟩, rfl, ⟨(b1_r6 + 1), Rr6, ef hs, hO, h⟩, ?_⟩ | exact cl
  exact .inl rfl
 ·
  rintro s la ⟨XB, XR, XL⟩ hXR ⟨b1_r6, Rr6, rfl, hO, h⟩ _ _
  simp only at hXR
  subst hXR
  rw [List.drop_eq_nil_of_le (by rw [Zgc]; exact Nat.le_refl _), Zc6] at h
  simp only [St.ext, St.push, List.append_assoc, List.append_nil]
  (repeat' apply And.intro) <;> first | refine hK3 _ _ ?_ | exact cl
  clear hK3
  refine Zgd (bs := [a0.cs, [.val (.int .i64 b1_r6)], a0.cs]) hN hNR hNL rfl hcalm hO (by (simp +decide only [go_sem, Nat.reduceAdd]) <;> (try (repeat' apply And.intro)) <;> first | omega | assumption) (by (simp +decide only [go_sem, Nat.reduceAdd, ZbC]) <;> (try (repeat' apply And.intro)) <;> first | omega | assumption) ?_
  refine rg [2] hs ?_
  exact rt h hs hcalm hO
 ·
  rintro ex s la X hX h; exact h.elim
def Zb4 (n : Nat) (a0 : Ty) : Option Bool :=
 (ZcU n ).bind fun y4 =>
 if !y4 then
  (ZcU n ).bind fun y8 =>
  some (y8)
 else
  (ZdN n a0).bind fun y9 =>
  if !y9 then
   (ZcU n ).bind fun y12 =>
   some (y12)
  else
   (Zhb a0).bind fun y14 =>
   (Zds n a0).bind fun y15 =>
   if decide (y14 = y15) then
    (ZfG a0).bind fun y17 =>
    (Zbx n a0).bind fun y18 =>
    if decide (y17 = y18) then
     (Zb3 n a0).bind fun y20 =>
     (ZbO n y20 a0).bind fun y21 =>
     some (y21)
    else
     some (false)
   else
    some (false)
theorem Zgo (w0 : World) (hP : Pow10 w0) (hT : Lib.Utf8Tabs 0 1 w0) (n : Nat) (B : List (List AV)) (Rw : List RowA) (L : List LoopA) (a0 : Ty) (r : Bool) (h : Zb4 n a0 = some r) :
  ACalls Tryz.prog w0 11 [.agg (a0.cs)] ⟨B, Rw, L⟩ fun x st => x = .val (.bool r) ∧ st = ⟨B, Rw, L⟩ := by
 rw [Zb4] at h
 refine hd [.tmp 2] Tryz.func11 Tryz.ntmps11 fun M0 W0 hN hNR hNL hcalm hu hO hs => ?_
 simp only [Zan]
 refine rg [1] hs ?_
 apply Zab; intro K2 hK2
 apply Zab; intro K3 hK3
 obtain ⟨y4, hy4, h⟩ := bind_some h
 rcases Bool.eq_false_or_eq_true (!y4) with hf5 | hf5
 ·
  replace h := ZaQ h hf5
  apply Zac 3 [1, 9]
  rw [Zaa]; simp +decide only [go_sem, Nat.reduceAdd, hf5]
  have hs := And.intro hf5 hs
  (repeat' apply And.intro) <;> first | refine Zaf _ (Zea w0 hP hT n _ _ _  _ hy4) (hv hs) ?_ | exact cl
  rw [Zaa]; simp +decide only [go_sem, Nat.reduceAdd, hf5]
  (repeat' apply And.intro) <;> first | refine Zay ?_ | exact cl
  rw [Zaa]; simp +decide only [go_sem, Nat.reduceAdd, hf5]
  (repeat' apply And.intro) <;> first | refine hK3 _ _ ?_ | exact cl
  clear hK3
  refine Zar true ev (ef hs) (fun hb6 => ?_) (fun hb6 => by cases hb6)
  obtain ⟨y8, hy8, h⟩ := bind_some h
  refine rc 2 [2] hs ?_; intro K7 hK7
  refine Zaf _ (Zea w0 hP hT n _ _ _  _ hy8) (hv hs) ?_
  refine ne hs hK7 ?_
  clear hK7
  exact rt h hs hcalm hO
 ·
  replace h := ZaO h hf5
  obtain ⟨y9, hy9, h⟩ := bind_some h
  have hs := And.intro hf5 hs
  refine rk 3 [1, 9] hs ?_
  refine Zaf _ (Zea w0 hP hT n _ _ _  _ hy4) (hv hs) ?_
  refine nc hs ?_
  refine Zaf _ (ZkN w0 n _ _ _ a0 _ hy9) (hv hs) ?_
  refine ne hs hK3 ?_
  clear hK3
  refine cnd h hs (fun hs h => ?_) (fun hs h => ?_)
  ·
   have hb10 := hs.1
   obtain ⟨y12, hy12, h⟩ := bind_some h
   refine rc 2 [2] hs ?_; intro K11 hK11
   refine Zaf _ (Zea w0 hP hT n _ _ _  _ hy12) (hv hs) ?_
   refine ne hs hK11 ?_
   clear hK11
   exact rt h hs hcalm hO
  have hb10 := hs.1
  refine sk [1] hs hK2 ?_
  clear hK2
  apply Zab; intro K13 hK13
  obtain ⟨y14, hy14, h⟩ := bind_some h
  obtain ⟨y15, hy15, h⟩ := bind_some h
  rcases Bool.eq_false_or_eq_true (decide (y14 = y15)) with hf16 | hf16
  ·
   replace h := ZaQ h hf16
   obtain ⟨y17, hy17, h⟩ := bind_some h
   obtain ⟨y18, hy18, h⟩ := bind_some h
   rcases Bool.eq_false_or_eq_true (decide (y17 = y18)) with hf19 | hf19
   ·
    replace h := ZaQ h hf19
    obtain ⟨y20, hy20, h⟩ := bind_some h
    obtain ⟨y21, hy21, h⟩ := bind_some h
    apply Zap mix 19 7 1 [2] (by kernel_rfl)
    rw [Zaa]; simp +decide only [go_sem, Nat.reduceAdd, hf5, hb10, hf16, hf19]
    have hs := And.intro hf16 hs
    have hs := And.intro hf19 hs
    (repeat' apply And.intro) <;> first | refine Zaf _ (ZhW w0 _ _ _ a0 _ hy14) (hv hs) ?_ | exact cl
    rw [Zaa]; simp +decide only [go_sem, Nat.reduceAdd, hf5, hb10, hf16, hf19]
    (repeat' apply And.intro) <;> first | refine Zaf _ (ZeY w0 n _ _ _ a0 _ hy15) (hv hs) ?_ | exact cl
    rw [Zaa]; simp +decide only [go_sem, Nat.reduceAdd, hf5, hb10, hf16, hf19]
    (repeat' apply And.intro) <;> first | refine Zaf _ (ZiR w0 _ _ _ a0 _ hy17) (hv hs) ?_ | exact cl
    rw [Zaa]; simp +decide only [go_sem, Nat.reduceAdd, hf5, hb10, hf16, hf19]
    (repeat' apply And.intro) <;> first | refine Zaf _ (ZfD w0 n _ _ _ a0 _ hy18) (hv hs) ?_ | exact cl
    rw [Zaa]; simp +decide only [go_sem, Nat.reduceAdd, hf5, hb10, hf16, hf19]
    (repeat' apply And.intro) <;> first | refine Zaf _ (Ze6 w0 n _ _ _ a0 _ hy20) (hv hs) ?_ | exact cl
    rw [Zaa]; simp +decide only [go_sem, Nat.reduceAdd, hf5, hb10, hf16, hf19]
    (repeat' apply And.intro) <;> first | refine Zaf _ (Zhz w0 n _ _ _ y20 a0 _ hy21) (hv hs) ?_ | exact cl
    rw [Zaa]; simp +decide only [go_sem, Nat.reduceAdd, hf5, hb10, hf16, hf19]
    (repeat' with_reducible apply And.intro) <;> first | (rw [Zaa]; simp +decide only [go_sem, Nat.reduceAdd, hf5, hb10, hf16, hf19]) | exact cl
    (repeat' apply And.intro) <;> first | refine hK13 _ _ ?_ | exact cl
    clear hK13
    exact rt h hs hcalm hO
   ·
    replace h := ZaO h hf19
    apply Zap mix 19 7 1 [2] (by kernel_rfl)
    rw [Zaa]; simp +decide only [go_sem, Nat.reduceAdd, hf5, hb10, hf16, hf19]
    have hs := And.intro hf16 hs
    have hs := And.intro hf19 hs
    (repeat' apply And.intro) <;> first | refine Zaf _ (ZhW w0 _ _ _ a0 _ hy14) (hv hs) ?_ | exact cl
    rw [Zaa]; simp +decide only [go_sem, Nat.reduceAdd, hf5, hb10, hf16, hf19]
    (repeat' apply And.intro) <;> first | refine Zaf _ (ZeY w0 n _ _ _ a0 _ hy15) (hv hs) ?_ | exact cl
    rw [Zaa]; simp +decide only [go_sem, Nat.reduceAdd, hf5, hb10, hf16, hf19]
    (repeat' apply And.intro) <;> first | refine Zaf _ (ZiR w0 _ _ _ a0 _ hy17) (hv hs) ?_ | exact cl
    rw [Zaa]; simp +decide only [go_sem, Nat.reduceAdd, hf5, hb10, hf16, hf19]
    (repeat' apply And.intro) <;> first | refine Zaf _ (ZfD w0 n _ _ _ a0 _ hy18) (hv hs) ?_ | exact cl
    rw [Zaa]; simp +decide only [go_sem, Nat.reduceAdd, hf5, hb10, hf16, hf19]
    (repeat' apply And.intro) <;> first | refine Zay ?_ | exact cl
    rw [Zaa]; simp +decide only [go_sem, Nat.reduceAdd, hf5, hb10, hf16, hf19]
    (repeat' apply And.intro) <;> first | refine Zay ?_ | exact cl
    rw [Zaa]; simp +decide only [go_sem, Nat.reduceAdd, hf5, hb10, hf16, hf19]
    (repeat' with_reducible apply And.intro) <;> first | (rw [Zaa]; simp +decide only [go_sem, Nat.reduceAdd, hf5, hb10, hf16, hf19]) | exact cl
    (repeat' apply And.intro) <;> first | refine hK13 _ _ ?_ | exact cl
    clear hK13
    exact rt h hs hcalm hO
  ·
   replace h := ZaO h hf16
   apply Zap mix 19 7 1 [2] (by kernel_rfl)
   rw [Zaa]; simp +decide only [go_sem, Nat.reduceAdd, hf5, hb10, hf16]
   have hs := And.intro hf16 hs
   (repeat' apply And.intro) <;> first | refine Zaf _ (ZhW w0 _ _ _ a0 _ hy14) (hv hs) ?_ | exact cl
   rw [Zaa]; simp +decide only [go_sem, Nat.reduceAdd, hf5, hb10, hf16]
   (repeat' apply And.intro) <;> first | refine Zaf _ (ZeY w0 n _ _ _ a0 _ hy15) (hv hs) ?_ | exact cl
   rw [Zaa]; simp +decide only [go_sem, Nat.reduceAdd, hf5, hb10, hf16]
   (repeat' apply And.intro) <;> first | refine Zay ?_ | exact cl
   rw [Zaa]; simp +decide only [go_sem, Nat.reduceAdd, hf5, hb10, hf16]
   (repeat' apply And.intro) <;> first | refine Zay ?_ | exact cl
   rw [Zaa]; simp +decide only [go_sem, Nat.reduceAdd, hf5, hb10, hf16]
   (repeat' apply And.intro) <;> first | refine Zay ?_ | exact cl
   rw [Zaa]; simp +decide only [go_sem, Nat.reduceAdd, hf5, hb10, hf16]
   (repeat' apply And.intro) <;> first | refine Zay ?_ | exact cl
   rw [Zaa]; simp +decide only [go_sem, Nat.reduceAdd, hf5, hb10, hf16]
   (repeat' with_reducible apply And.intro) <;> first | (rw [Zaa]; simp +decide only [go_sem, Nat.reduceAdd, hf5, hb10, hf16]) | exact cl
   (repeat' apply And.intro) <;> first | refine hK13 _ _ ?_ | exact cl
   clear hK13
   exact rt h hs hcalm hO
theorem ZpS (n : Nat) (t : Ty) (hs : t.fields.length ≤ 1000000000) : ∀ (k m i : Nat) (x : List Ty), i + k = t.fields.length → k < m → x.length = i → ZbH n t m x i = some (x ++ (t.fields.drop i).map fun p => p.2.2.2.1)
 | k, 0, i, _, _, h, _ => absurd h (Nat.not_lt_zero _)
 | 0, m + 1, i, x, hi, _, _ => by
  rw [ZbH, ZaJ, decide_eq_false (by omega)]
  simp only [Bool.false_eq_true, if_false, ZbD]
  rw [List.drop_eq_nil_of_le (by omega), List.map_nil, List.append_nil]
 | k + 1, m + 1, i, x, hi, hm, hx => by
  have hlt : i < t.fields.length := by omega
  rw [ZbH, ZaJ, decide_eq_true hlt]
  simp only [if_true, ZaL hlt, Option.bind_some]
  rw [if_pos (by omega), if_pos (Za7 (by omega))]
  have ih := ZpS n t hs k m (i + 1) (x ++ [t.fields[i].2.2.2.1]) (by omega) (by omega) (by simp [hx])
  rw [List.drop_eq_getElem_cons hlt, List.map_cons]
  rw [List.append_assoc] at ih
  exact ih
theorem ZiB (n : Nat) (t : Ty) (hn : t.fields.length < n) (hs : t.fields.length ≤ 1000000000) (hs2 : t.elem.length ≤ 1000000000) : Zdh n t = some (Zbl t) := by
 rw [Zdh, Zbl]
 by_cases h1 : t.kind = 8
 ·
  rw [if_pos (decide_eq_true h1), if_pos h1, if_pos (by omega), ZcQ, decide_eq_false (show ¬ t.kind = 9 by omega), decide_eq_false (show ¬ t.kind = 10 by omega), if_neg (by decide), ZbD]
 rw [if_neg (by rw [decide_eq_true_eq]; exact h1), if_neg h1, ZcQ]
 by_cases h2 : t.kind = 9 ∨ t.kind = 10
 ·
  rw [if_pos h2, if_pos (by rw [Bool.or_eq_true, decide_eq_true_eq, decide_eq_true_eq]; exact h2)]
  have := ZpS n t hs t.fields.length n 0 [] (by omega) hn rfl
  rw [List.drop_zero, List.nil_append] at this
  exact this
 ·
  rw [if_neg h2, if_neg (by rw [Bool.or_eq_true, decide_eq_true_eq, decide_eq_true_eq]; exact h2), ZbD]
theorem Zly : ∀ l : List Ty, Zdw l = (l.map Ty.size).sum
 | [] => rfl
 | v :: r => by simp [Zdw, Zly r]
theorem Zkd : ∀ l : List TF, ZbX l = (l.map fun p => p.2.2.2.1.size).sum
 | [] => rfl
 | (_, _, _, v, _) :: r => by simp [ZbX, Zkd r]
theorem Zl3 (t : Ty) : ((Zbl t).map Ty.size).sum < t.size := by
 have c := t.size_eq
 unfold Zbl
 split
 ·
  rw [← Zly]; omega
 ·
  split
  ·
   rw [List.map_map]
   have := Zkd t.fields
   have e : (t.fields.map (Ty.size ∘ fun p => p.2.2.2.1)).sum = ZbX t.fields := this.symm
   omega
  ·
   simp; omega
theorem ZfC : ∀ (k : Nat) (t : Ty) (lv : Nat), t.size ≤ k → (Zex lv t).length ≤ t.size
 | 0, t, lv, h => absurd h (by have := t.size_pos; omega)
 | k + 1, t, lv, h => by
  have h1 := Zl3 t
  rw [Zh3, List.length_cons, List.length_flatMap]
  have hall : ∀ x ∈ Zbl t, (Zex (lv + 1) x).length ≤ x.size := fun x hx => ZfC k x (lv + 1) (by have := ZcH t x hx; omega)
  have : ((Zbl t).map fun x => (Zex (lv + 1) x).length).sum ≤ ((Zbl t).map Ty.size).sum := by
   clear h1
   generalize Zbl t = l at hall
   induction l with
   | nil => simp
   | cons a r ih =>
    have := hall a (List.mem_cons_self ..)
    have := ih fun x hx => hall x (List.mem_cons_of_mem _ hx)
    simp only [List.map_cons, List.sum_cons]
    omega
  omega
theorem Zlj : ∀ (l : List (Nat × Ty)) (c : Int), 0 ≤ c → c + l.length ≤ 1000000000 → Zc6 l c = some (c + l.length)
 | [], c, _, _ => by rw [Zc6]; simp
 | p :: r, c, h1, h2 => by
  rw [List.length_cons] at h2
  rw [Zc6, if_pos (by unfold I64; omega), Zlj r (c + 1) (by omega) (by omega), List.length_cons]
  congr 1
  omega
theorem Zks (rec : Ty → Option Int) (n : Nat) (ys : List Ty) (f : Ty → Nat) (hr : ∀ x ∈ ys, rec x = some (f x : Int)) (hl : ys.length ≤ 1000000) : ∀ (k m i c : Nat), i + k = ys.length → k < m → c + ((ys.drop i).map f).sum ≤ 1000000 → ZcC rec n ys m (c : Int) i = some ((c + ((ys.drop i).map f).sum : Nat) : Int)
 | k, 0, i, c, _, h, _ => absurd h (Nat.not_lt_zero _)
 | 0, m + 1, i, c, hi, _, _ => by
  rw [ZcC, ZaJ, decide_eq_false (show ¬ i < ys.length by omega), List.drop_eq_nil_of_le (by omega)]
  rfl
 | k + 1, m + 1, i, c, hi, hm, hc => by
  have hlt : i < ys.length := by omega
  rw [List.drop_eq_getElem_cons hlt, List.map_cons, List.sum_cons] at hc
  rw [ZcC, ZaJ, decide_eq_true hlt]
  simp only [if_true, ZaL hlt, Option.bind_some, hr _ (List.getElem_mem hlt)]
  rw [if_pos (by unfold I64; omega), if_pos (Za7 (by omega)), List.drop_eq_getElem_cons hlt, List.map_cons, List.sum_cons, ← Nat.add_assoc]
  exact Zks rec n ys f hr hl k m (i + 1) (c + f ys[i]) (by omega) (by omega) (by omega)
theorem Zkw : ∀ (n : Nat) (t : Ty) (lv : Nat), t.size < n → t.size ≤ 900000 → Zds n t = some ((Zex lv t).length : Int)
 | 0, t, lv, h, _ => absurd h (Nat.not_lt_zero _)
 | n + 1, t, lv, h, hs => by
  have h1 := ZfC t.size t lv (Nat.le_refl _)
  have hp := Zgu t
  have hl := t.lens
  have e := Zks (Zds n) n (Zbl t) (fun x => (Zex (lv + 1) x).length) (fun x hx => Zkw n x (lv + 1) (by have := ZcH t x hx; omega) (by have := ZcH t x hx; omega)) (by omega) (Zbl t).length n 0 1 (by omega) (by omega)
  rw [Zh3, List.length_cons, List.length_flatMap] at h1
  rw [List.drop_zero] at e
  have e2 := e (by omega)
  rw [Zds, Zf0, ZiB n t (by omega) (by omega) (by omega), Option.bind_some, Zh3, List.length_cons, List.length_flatMap, Nat.add_comm]
  exact e2
def ZgW (a b : Int) : Int := if a < b then b else a
def Zi8 (l : List (Nat × Ty)) (b : Int) : Int := l.foldl (fun b p => ZgW b p.1) b
theorem Zke : ∀ (l : List (Nat × Ty)) (b : Int), ZcO l b = some (Zi8 l b)
 | [], b => rfl
 | p :: r, b => by rw [ZcO]; exact Zke r _
theorem Znu (l m : List (Nat × Ty)) (b : Int) : Zi8 (l ++ m) b = Zi8 m (Zi8 l b) := List.foldl_append ..
theorem ZnK (a b : Int) : a ≤ ZgW a b ∧ b ≤ ZgW a b ∧ (ZgW a b = a ∨ ZgW a b = b) := by unfold ZgW; split <;> omega
theorem Zh1 (f : Ty → Int) (lv : Nat) : ∀ (ys : List Ty), (∀ y ∈ ys, ∀ b : Int, Zi8 (Zex lv y) b = ZgW b (lv + f y - 1)) → ∀ (b c : Int),
  Zi8 (ys.flatMap (Zex lv)) (ZgW b (lv - 1 + c)) = ZgW b (lv - 1 + ys.foldl (fun c y => ZgW c (f y)) c)
 | [], _, b, c => rfl
 | y :: r, h, b, c => by
  have ih := Zh1 f lv r (fun z hz => h z (List.mem_cons_of_mem _ hz)) b (ZgW c (f y))
  rw [List.flatMap_cons, Znu, h y (List.mem_cons_self ..)]
  have e : ZgW (ZgW b (lv - 1 + c)) (lv + f y - 1) = ZgW b (lv - 1 + ZgW c (f y)) := by
   unfold ZgW; (repeat' split) <;> omega
  rw [e, ih]
  rfl
theorem ZiL (rec : Ty → Option Int) (n : Nat) (ys : List Ty) (f : Ty → Int) (hr : ∀ x ∈ ys, rec x = some (f x) ∧ f x ≤ 100000) (hl : ys.length ≤ 1000000) : ∀ (k m i : Nat) (c : Int), i + k = ys.length → k < m → 0 ≤ c → c ≤ 100000 →
  Zcc rec n ys m c i = some ((ys.drop i).foldl (fun c y => ZgW c (f y)) c + 1)
 | k, 0, i, c, _, h, _, _ => absurd h (Nat.not_lt_zero _)
 | 0, m + 1, i, c, hi, _, _, _ => by
  rw [Zcc, ZaJ, decide_eq_false (show ¬ i < ys.length by omega), List.drop_eq_nil_of_le (by omega), if_neg (by decide), Zeo, if_pos (by unfold I64; omega)]
  rfl
 | k + 1, m + 1, i, c, hi, hm, h1, h2 => by
  have hlt : i < ys.length := by omega
  obtain ⟨e, b⟩ := hr _ (List.getElem_mem hlt)
  rw [Zcc, ZaJ, decide_eq_true hlt]
  rw [if_pos rfl, ZaL hlt, Option.bind_some, e, Option.bind_some]
  have := ZnK c (f ys[i])
  rw [if_pos (Za7 (by omega)), List.drop_eq_getElem_cons hlt, List.foldl_cons]
  exact ZiL rec n ys f hr hl k m (i + 1) (ZgW c (f ys[i])) (by omega) (by omega) (by omega) (by omega)
theorem ZiT (f : Ty → Int) (z : Int) : ∀ (ys : List Ty) (c : Int), c ≤ z → (∀ y ∈ ys, f y ≤ z) → c ≤ ys.foldl (fun c y => ZgW c (f y)) c ∧ ys.foldl (fun c y => ZgW c (f y)) c ≤ z
 | [], c, h, _ => ⟨Int.le_refl _, h⟩
 | y :: r, c, h, hf => by
  have a := ZnK c (f y)
  have b := hf y (List.mem_cons_self ..)
  obtain ⟨i1, i2⟩ := ZiT f z r (ZgW c (f y)) (by omega) fun x hx => hf x (List.mem_cons_of_mem _ hx)
  exact ⟨by rw [List.foldl_cons]; omega, by rw [List.foldl_cons]; exact i2⟩
theorem ZiK : ∀ (n : Nat) (t : Ty), t.size < n → t.size ≤ 10000 → ∃ D : Int, Zbx n t = some D ∧ 1 ≤ D ∧ D ≤ t.size ∧ ∀ (lv : Nat) (b : Int), Zi8 (Zex lv t) b = ZgW b (lv + D - 1)
 | 0, t, h, _ => absurd h (Nat.not_lt_zero _)
 | n + 1, t, h, hs => by
  have hp := Zgu t
  have hl := t.lens
  let f : Ty → Int := fun x => (Zbx n x).getD 0
  have hf : ∀ x ∈ Zbl t, Zbx n x = some (f x) ∧ 1 ≤ f x ∧ f x ≤ x.size ∧ ∀ (lv : Nat) (b : Int), Zi8 (Zex lv x) b = ZgW b (lv + f x - 1) := fun x hx => by
   have hsz := ZcH t x hx
   obtain ⟨D, d1, d2, d3, d4⟩ := ZiK n x (by omega) (by omega)
   have e : f x = D := by show (Zbx n x).getD 0 = D; rw [d1]; rfl
   rw [e]; exact ⟨d1, d2, d3, d4⟩
  have e := ZiL (Zbx n) n (Zbl t) f (fun x hx => ⟨(hf x hx).1, by have := (hf x hx).2.2.1; have := ZcH t x hx; omega⟩) (by omega) (Zbl t).length n 0 0 (by omega) (by omega) (by decide) (by decide)
  rw [List.drop_zero] at e
  have hb := ZiT f (t.size - 1) (Zbl t) 0 (by have := t.size_pos; omega) (fun y hy => by have := (hf y hy).2.2.1; have := ZcH t y hy; omega)
  refine ⟨_, by rw [Zbx, Ze8, ZiB n t (by omega) (by omega) (by omega), Option.bind_some]; exact e, by omega, by omega, fun lv b => ?_⟩
  have hd := Zh1 f (lv + 1) (Zbl t) (fun y hy b => (hf y hy).2.2.2 (lv + 1) b) b 0
  rw [Zh3]
  show Zi8 ((Zbl t).flatMap (Zex (lv + 1))) (ZgW b (lv : Int)) = _
  rw [show ((lv + 1 : Nat) : Int) - 1 + 0 = (lv : Int) by omega] at hd
  rw [hd]
  congr 1
  omega
theorem Zk9 (n : Nat) (hn : 100000 ≤ n) (t : Ty) : Zb4 n t = some true := by
 have kn := Zpl n (by omega)
 rw [Zb4, kn]
 simp only [Option.bind_some, Bool.not_true, Bool.false_eq_true, if_false]
 obtain ⟨b, e, hb⟩ := ZpJ n (by omega) t
 rw [e]
 simp only [Option.bind_some]
 cases b with
 | false => rfl
 | true =>
 have ts := hb rfl
 have hts := ts.1
 have h1 := ZfC t.size t 1 (Nat.le_refl _)
 obtain ⟨D, d1, d2, d3, d4⟩ := ZiK n t (by omega) (by omega)
 simp only [Bool.not_true, Bool.false_eq_true, if_false]
 rw [Zhb, if_pos (by omega), Zlj _ 0 (by omega) (by omega), Option.bind_some, Zkw n t 1 (by omega) (by omega), Option.bind_some, if_pos (by rw [decide_eq_true_eq]; omega)]
 rw [ZfG, if_pos (by omega), Zke, Option.bind_some, d1, Option.bind_some, d4, if_pos]
 ·
  obtain ⟨c, c1, c2⟩ := Zgj n t t (by omega) (by omega) ts.2.2 ts.2.2
  rw [ZhD n t (by omega) (by omega) ts.2.2, Option.bind_some, c1, c2.2 rfl]
  rfl
 ·
  rw [decide_eq_true_eq]
  unfold ZgW
  split <;> omega
end Go.Proofs.YtggimoedcamonaaGreatDoor
