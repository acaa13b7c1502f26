/-
  Part 6 of the proof: rules and walks that the claim's last text uses.
-/
import Derived.Shelf.Spec.SlicesInsertGrow
import Derived.Test.YtgpmlelfkjfbiaaGreatDoorSv5
set_option linter.unusedSimpArgs false
set_option linter.unusedVariables false
set_option maxRecDepth 100000
set_option maxHeartbeats 4000000
namespace Go.Proofs.YtgpmlelfkjfbiaaGreatDoor
open Go Go.RowKit Go.Ev
def Zj3 (k : Int) (x : TF) : Prop := (1 ≤ x.2.2.1 ∧ x.2.2.1 ≤ 3) ∧ (k = 10 → x.2.2.1 = 1) ∧ (x.2.2.1 = 3 → x.2.2.2.2.length = 1) ∧ (x.2.2.1 ≠ 3 → x.2.2.2.2.length = 0)
theorem Zom {k : Int} {b : List TF} {x : TF} (h : ZhW k b x = 0) : Zj3 k x := by
 rw [ZhW] at h
 by_cases h1 : ZcE x.2.1 = true
 rotate_left
 ·
  rw [if_neg h1] at h; exact absurd h (by decide)
 rw [if_pos h1] at h
 by_cases h2 : ¬ (1 ≤ x.1 ∧ x.1 ≤ 9999)
 ·
  rw [if_pos h2] at h; exact absurd h (by decide)
 rw [if_neg h2] at h
 by_cases h3 : (b.any fun q => ZaQ q x) = true
 ·
  rw [if_pos h3] at h; exact absurd h (by decide)
 rw [if_neg h3] at h
 by_cases h4 : ¬ (1 ≤ x.2.2.1 ∧ x.2.2.1 ≤ 3) ∨ (k = 10 ∧ x.2.2.1 ≠ 1)
 ·
  rw [if_pos h4] at h; exact absurd h (by decide)
 rw [if_neg h4] at h
 by_cases h5 : x.2.2.1 = 3 ∧ x.2.2.2.2.length = 0
 ·
  rw [if_pos h5] at h; exact absurd h (by decide)
 rw [if_neg h5] at h
 by_cases h6 : 1 < x.2.2.2.2.length ∨ (x.2.2.1 ≠ 3 ∧ 0 < x.2.2.2.2.length)
 ·
  rw [if_pos h6] at h; exact absurd h (by decide)
 unfold Zj3
 omega
theorem Ziu {k : Int} : ∀ (l b : List TF), Zeh k b l = 0 → ∀ x ∈ l, Zj3 k x
 | [], _, _, x, hx => by simp at hx
 | y :: r, b, h, x, hx => by
  rw [Zeh] at h
  by_cases q : ZhW k b y = 0
  ·
   rw [if_pos q] at h
   rcases List.mem_cons.1 hx with rfl | hx
   ·
    exact Zom q
   ·
    exact Ziu r _ h x hx
  ·
   rw [if_neg q] at h; exact absurd h q
theorem Zoj {t : Ty} (h : ¬ ZaC t = true) : (t.kind ≠ 8 → t.elem.length = 0) ∧ (t.kind ≠ 9 → t.kind ≠ 10 → t.fields.length = 0) := by
 refine ⟨fun k => ?_, fun k1 k2 => ?_⟩
 ·
  rcases Nat.eq_zero_or_pos t.elem.length with e | e
  ·
   exact e
  ·
   exfalso; apply h; rw [ZaC, decide_eq_false k, decide_eq_true (show 0 < (t.elem.length : Int) by omega)]; simp
 ·
  rcases Nat.eq_zero_or_pos t.fields.length with e | e
  ·
   exact e
  ·
   exfalso; apply h; rw [ZaC, decide_eq_false k1, decide_eq_false k2, decide_eq_true (show 0 < (t.fields.length : Int) by omega)]; simp
theorem ZjM {t : Ty} (h : ZmX t = 0) : ¬ (t.kind < 1 ∨ 10 < t.kind) ∧ (t.kind ≠ 8 → t.elem.length = 0) ∧ (t.kind = 8 → t.elem.length = 1 ∧ 0 ≤ t.min ∧ t.min ≤ 256) ∧ (t.kind ≠ 9 → t.kind ≠ 10 → t.fields.length = 0) ∧ (t.kind = 10 → 0 < t.fields.length) ∧ ∀ x ∈ t.fields, Zj3 t.kind x := by
 obtain ⟨k1, k2, k3⟩ := Zhn h
 obtain ⟨n1, n2⟩ := Zoj k2
 rw [ZmX, if_neg k1, if_neg k2] at h
 by_cases h3 : t.kind = 4 ∧ 0 < t.words.length
 ·
  have := n2 (by omega) (by omega)
  have hf : t.fields = [] := List.length_eq_zero_iff.1 this
  exact ⟨k1, n1, by omega, n2, by omega, by rw [hf]; simp⟩
 rw [if_neg h3] at h
 by_cases h4 : ((2 ≤ t.kind ∧ t.kind ≤ 8) ∧ ZaW t (Zal t.kind).1 (Zal t.kind).2 = false) ∨ ¬ (0 ≤ t.scale ∧ t.scale ≤ 12)
 ·
  rw [if_pos h4] at h; exact absurd h (by decide)
 rw [if_neg h4, if_neg k3] at h
 by_cases h6 : 1 < t.elem.length
 ·
  rw [if_pos h6] at h; exact absurd h (by decide)
 rw [if_neg h6] at h
 by_cases h7 : 64 < t.fields.length
 ·
  rw [if_pos h7] at h; exact absurd h (by decide)
 rw [if_neg h7] at h
 refine ⟨k1, n1, fun k8 => ?_, n2, by omega, Ziu _ _ h⟩
 have hb : ZaW t (Zal t.kind).1 (Zal t.kind).2 = true := by
  cases q : ZaW t (Zal t.kind).1 (Zal t.kind).2
  ·
   exact absurd (Or.inl ⟨by omega, q⟩) h4
  ·
   rfl
 have e1 : (Zal t.kind) = (0, 256) := by rw [k8]; rfl
 rw [e1, ZaW] at hb
 simp only [Bool.and_eq_true, decide_eq_true_eq] at hb
 omega
theorem ZvU (n : Nat) (t : Ty) (v : Vl) (h1 : t.size + 1500 ≤ n) (h2 : v.size + 1500 ≤ n) (h3 : v.size < 1048576) (ht : t.small) (hv : v.ok) (gt : t.Good) : ∃ b, Zcd n t v = some b ∧ Zf8 n t v = some b := by
 rw [Zcd, Zf8, Zhj n v (by omega) h3 hv, Zj8 n v (by omega) (by omega) hv]
 simp only [Option.bind_some]
 by_cases h : ZoR v = 0
 ·
  rw [decide_eq_true h]
  simp only [if_true]
  obtain ⟨b, b1, b2⟩ := Zl0 n t v h1 h2 (by omega) ht hv gt (ZiA h)
  exact ⟨b, by rw [b1]; rfl, by rw [b2]; rfl⟩
 ·
  rw [decide_eq_false h]
  exact ⟨false, rfl, rfl⟩
def ZqZ (t : List Ty) (left : Int) (a b : Option (Int × Int)) : Prop :=
 ∃ e l1 l2, a = some (e, l1) ∧ b = some (e, l2) ∧ (e = 0 → l1 = l2 ∧ 0 ≤ l1 ∧ l1 ≤ left ∧ ∀ x ∈ t, x.Good)
theorem ZjT (r1 r2 : Ty → Int → Int → Option (Int × Int)) (n : Nat) (t : Ty) (lv : Int) (hlv : 0 ≤ lv ∧ lv ≤ 9) (hn : t.size + 2000 ≤ n) (ht : t.small) (hk : t.kind = 9 ∨ t.kind = 10) (hg : ∀ x ∈ t.fields, Zj3 t.kind x)
  (hr : ∀ p ∈ t.fields, ∀ left, 0 ≤ left → left ≤ 4096 → ZqZ [p.2.2.2.1] left (r1 p.2.2.2.1 (lv + 1) left) (r2 p.2.2.2.1 (lv + 1) left)) : ∀ (k m i : Nat) (left : Int), i + k = t.fields.length → k < m → 0 ≤ left → left ≤ 4096 →
  ZqZ ((t.fields.drop i).map fun p => p.2.2.2.1) left (Zbd r1 n t lv (t.fields.map fun p => p.2.2.2.1) m i left) (ZbN r2 n t lv m i left)
 | k, 0, i, _, _, h, _, _ => absurd h (Nat.not_lt_zero _)
 | 0, m + 1, i, left, hi, _, h1, h2 => by
  rw [Zbd, ZbN, Zao, Zao, decide_eq_false (show ¬ i < (t.fields.map fun p => p.2.2.2.1).length by rw [List.length_map]; omega), decide_eq_false (show ¬ i < t.fields.length by omega)]
  refine ⟨0, left, left, rfl, rfl, fun _ => ⟨rfl, h1, Int.le_refl _, ?_⟩⟩
  rw [List.drop_eq_nil_of_le (by omega)]; simp
 | k + 1, m + 1, i, left, hi, hm, h1, h2 => by
  have hlt : i < t.fields.length := by omega
  have hts := ht.1
  have hl := t.lens
  have hlt2 : i < (t.fields.map fun p => p.2.2.2.1).length := by rw [List.length_map]; exact hlt
  rw [Zbd, ZbN, Zao, Zao, decide_eq_true hlt2, decide_eq_true hlt]
  simp only [if_true, Zaj hlt2, Zaj hlt, Option.bind_some, List.getElem_map]
  rw [if_pos (by unfold I64; omega), if_pos (by unfold I64; omega)]
  obtain ⟨e, l1, l2, e1, e2, e3⟩ := hr _ (List.getElem_mem hlt) left h1 h2
  rw [e1, e2]
  simp only [Option.bind_some]
  by_cases h0 : e = 0
  rotate_left
  ·
   rw [decide_eq_false h0]
   exact ⟨e, l1, l2, rfl, rfl, fun q => absurd q h0⟩
  obtain ⟨rfl, w1, w2, w3⟩ := e3 h0
  have gx : (t.fields[i].2.2.2.1).Good := w3 _ (by simp)
  rw [decide_eq_true h0]
  simp only [Bool.not_true, Bool.false_eq_true, if_false]
  rw [if_pos (Zap (by omega)), if_pos (Zap (by omega))]
  obtain ⟨e', m1, m2, q1, q2, q3⟩ := ZjT r1 r2 n t lv hlv hn ht hk hg hr k m (i + 1) l1 (by omega) (by omega) w1 (by omega)
  have fin : ZqZ ((t.fields.drop i).map fun p => p.2.2.2.1) left (Zbd r1 n t lv (t.fields.map fun p => p.2.2.2.1) m ((i : Int) + 1) l1) (ZbN r2 n t lv m ((i : Int) + 1) l1) := by
   refine ⟨e', m1, m2, q1, q2, fun q => ?_⟩
   obtain ⟨z1, z2, z3, z4⟩ := q3 q
   refine ⟨z1, z2, by omega, fun x hx => ?_⟩
   rw [List.drop_eq_getElem_cons hlt, List.map_cons] at hx
   rcases List.mem_cons.1 hx with rfl | hx
   ·
    exact gx
   ·
    exact z4 x hx
  obtain ⟨g1, g2, g3, g4⟩ := hg _ (List.getElem_mem hlt)
  by_cases n3 : t.fields[i].2.2.1 = 3
  ·
   have k9 : t.kind = 9 := by
    rcases hk with hk | hk
    ·
     exact hk
    ·
     have := g2 hk; omega
   have hd := g3 n3
   have hi0 : idx t.fields[i].2.2.2.2 0 = some t.fields[i].2.2.2.2[0] := Zaj (k := 0) (by omega)
   obtain ⟨_, o2, o3, o4⟩ := (t.ok_eq.1 ht.2.2).2.2.2 _ (List.getElem_mem hlt)
   obtain ⟨v1, v2, v3⟩ := o4 _ (List.getElem_mem (show 0 < t.fields[i].2.2.2.2.length by omega))
   have a := t.field_size _ (List.getElem_mem hlt)
   obtain ⟨b, b1, b2⟩ := ZvU n t.fields[i].2.2.2.1 t.fields[i].2.2.2.2[0] (by omega) (by omega) (by omega) (Ty.small_field ht (List.getElem_mem hlt)) v3 gx
   rw [decide_eq_true k9, decide_eq_true n3, decide_eq_true (show 0 < (t.fields[i].2.2.2.2.length : Int) by omega)]
   simp only [if_true, hi0, Option.bind_some, b1, b2]
   cases b with
   | false => exact ⟨18, l1, l1, rfl, rfl, fun q => absurd q (by decide)⟩
   | true => exact fin
  ·
   have hd := g4 n3
   rw [decide_eq_false n3, decide_eq_false (show ¬ 0 < (t.fields[i].2.2.2.2.length : Int) by omega)]
   simp only [Bool.false_eq_true, if_false, ite_self]
   exact fin
theorem Ty.fit_of {t : Ty} {n : Nat} (ht : t.small) (hn : t.size + 2000 ≤ n) : t.fit n := by
 have hl := t.lens
 obtain ⟨h1, _, h3⟩ := ht
 obtain ⟨o1, o2, o3, o4⟩ := t.ok_eq.1 h3
 exact ⟨by omega, by omega, by omega, by omega, by omega, by omega, o2, fun p hp => (o4 p hp).1⟩
theorem ZgJ : ∀ (n : Nat) (t : Ty) (lv left : Int), t.size + 2001 ≤ n → t.small → 0 ≤ lv → lv ≤ 9 → 0 ≤ left → left ≤ 4096 → ZqZ [t] left (Zeq n t lv left) (Zfa n t lv left)
 | 0, t, _, _, h, _, _, _, _, _ => by omega
 | n + 1, t, lv, left, h, ht, l1, l2, h1, h2 => by
  have hl := t.lens
  have hts := ht.1
  have hfit := Ty.fit_of ht (show t.size + 2000 ≤ n by omega)
  rw [Zeq, Zhc, Zfa, ZjZ]
  by_cases c1 : left = 0
  ·
   rw [decide_eq_true c1]
   exact ⟨9, left, left, rfl, rfl, fun q => absurd q (by decide)⟩
  rw [decide_eq_false c1]
  simp only [Bool.false_eq_true, if_false]
  have hI : I64 (left - 1) := by unfold I64; omega
  by_cases c2 : 8 < lv
  ·
   rw [decide_eq_true c2]
   simp only [if_true, if_pos hI]
   exact ⟨23, left, left - 1, rfl, rfl, fun q => absurd q (by decide)⟩
  rw [decide_eq_false c2]
  simp only [Bool.false_eq_true, if_false, if_pos hI]
  rw [Zui n t hfit, ZqY n t hfit]
  simp only [Option.bind_some]
  by_cases c3 : ZmX t = 0
  rotate_left
  ·
   rw [decide_eq_false c3]
   exact ⟨ZmX t, left - 1, left - 1, rfl, rfl, fun q => absurd q c3⟩
  obtain ⟨f1, f2, f3, f4, f5, f6⟩ := ZjM c3
  rw [decide_eq_true c3]
  simp only [Bool.not_true, Bool.false_eq_true, if_false]
  rw [ZoW n t (by omega) (by omega)]
  simp only [Option.bind_some]
  by_cases k8 : t.kind = 8
  ·
   obtain ⟨z1, _, _⟩ := f3 k8
   obtain ⟨e, he⟩ : ∃ e, t.elem = [e] := List.length_eq_one_iff.1 z1
   have hm : e ∈ t.elem := by rw [he]; simp
   have hes := t.elem_size e hm
   obtain ⟨n', rfl⟩ : ∃ k, n = k + 2 := ⟨n - 2, by omega⟩
   obtain ⟨e1, m1, m2, q1, q2, q3⟩ := ZgJ (n' + 2) e (lv + 1) (left - 1) (by omega) (Ty.small_elem ht hm) (by omega) (by omega) (by omega) (by omega)
   have hf0 : t.fields = [] := List.length_eq_zero_iff.1 (f4 (by omega) (by omega))
   have hIl : I64 (lv + 1) := by unfold I64; omega
   rw [decide_eq_true k8, if_pos rfl, Znj, if_pos k8, he, show idx [e] 0 = some e from rfl]
   simp only [Option.bind_some]
   rw [if_pos hIl, q2, Zbd, if_pos (by simp), show idx [e] 0 = some e from rfl]
   simp only [Option.bind_some]
   rw [if_pos hIl, q1]
   simp only [Option.bind_some]
   by_cases c4 : e1 = 0
   ·
    obtain ⟨w1, w2, w3, w4⟩ := q3 c4
    subst c4
    rw [decide_eq_false (show ¬ t.kind = 9 by omega)]
    simp only [decide_true, Bool.not_true, Bool.false_eq_true, if_false]
    rw [if_pos (by decide), Zbd, if_neg (by simp)]
    refine ⟨0, m1, m2, rfl, rfl, fun _ => ⟨w1, w2, by omega, fun x hx => ?_⟩⟩
    rw [List.mem_singleton.1 hx]
    exact .mk t c3 (fun y hy => by rw [he] at hy; exact w4 y hy) (fun y hy => by rw [hf0] at hy; simp at hy)
   ·
    rw [decide_eq_false c4]
    exact ⟨e1, m1, m2, rfl, rfl, fun q => absurd q c4⟩
  ·
   rw [decide_eq_false k8, if_neg (by decide), Znj, if_neg k8]
   have he0 : t.elem = [] := List.length_eq_zero_iff.1 (f2 k8)
   by_cases k9 : t.kind = 9 ∨ t.kind = 10
   ·
    rw [if_pos k9]
    obtain ⟨e1, m1, m2, q1, q2, q3⟩ := ZjT (Zeq n) (Zfa n) n t lv ⟨l1, by omega⟩ (by omega) ht k9 f6 (fun p hp left' w1 w2 => by
     have := t.field_size p hp
     exact ZgJ n p.2.2.2.1 (lv + 1) left' (by omega) (Ty.small_field ht hp) (by omega) (by omega) w1 w2) t.fields.length n 0 (left - 1) (by omega) (by omega) (by omega) (by omega)
    refine ⟨e1, m1, m2, q1, q2, fun q => ?_⟩
    obtain ⟨w1, w2, w3, w4⟩ := q3 q
    rw [List.drop_zero] at w4
    refine ⟨w1, w2, by omega, fun x hx => ?_⟩
    rw [List.mem_singleton.1 hx]
    exact .mk t c3 (fun y hy => by rw [he0] at hy; simp at hy) (fun y hy => w4 _ (List.mem_map_of_mem (f := fun p : TF => p.2.2.2.1) hy))
   ·
    rw [if_neg k9]
    have hf0 : t.fields = [] := List.length_eq_zero_iff.1 (f4 (by omega) (by omega))
    obtain ⟨n', rfl⟩ : ∃ k, n = k + 1 := ⟨n - 1, by omega⟩
    rw [Zbd, if_neg (by simp), ZbN, if_neg (by simp [hf0])]
    refine ⟨0, left - 1, left - 1, rfl, rfl, fun _ => ⟨rfl, by omega, by omega, fun x hx => ?_⟩⟩
    rw [List.mem_singleton.1 hx]
    exact .mk t c3 (fun y hy => by rw [he0] at hy; simp at hy) (fun y hy => by rw [hf0] at hy; simp at hy)
theorem Zgy : ∀ (k : Nat) (v : Vl) (lv : Nat), v.size ≤ k → (ZfI lv v).length ≤ v.size
 | 0, v, lv, h => absurd h (by have := v.size_eq; omega)
 | k + 1, v, lv, h => by
  have h1 := ZlH v
  rw [ZgU, List.length_cons, List.length_flatMap]
  have : ((Za3 v).map fun x => (ZfI (lv + 1) x).length).sum ≤ ((Za3 v).map Vl.size).sum := by
   have hall : ∀ x ∈ Za3 v, (ZfI (lv + 1) x).length ≤ x.size := fun x hx => Zgy k x (lv + 1) (by have := ZdZ hx; omega)
   clear h1
   generalize Za3 v = l at hall
   induction l with
   | nil => simp
   | cons a r ih =>
    have := hall a (List.mem_cons_self ..)
    have := ih fun x hx => hall x (List.mem_cons_of_mem _ hx)
    simp only [List.map_cons, List.sum_cons]
    omega
  omega
theorem Znn : ∀ (l : List (Nat × Vl)) (c : Int), 0 ≤ c → c + l.length ≤ 1000000000 → Zdz l c = some (c + l.length)
 | [], c, _, _ => by rw [Zdz]; simp
 | p :: r, c, h1, h2 => by
  rw [List.length_cons] at h2
  rw [Zdz, if_pos (by unfold I64; omega), Znn r (c + 1) (by omega) (by omega), List.length_cons]
  congr 1
  omega
theorem ZrX (v : Vl) (hs : v.size < 1000000) : Zhp v = some ((ZfI 1 v).length : Int) := by
 have := Zgy v.size v 1 (Nat.le_refl _)
 rw [Zhp, if_pos (by omega), Znn _ 0 (by omega) (by omega)]
 congr 1
 omega
theorem Zl6 (rec : Vl → Option Int) (n : Nat) (ys : List Vl) (f : Vl → Nat) (hr : ∀ x ∈ ys, rec x = some (f x : Int)) (hl : ys.length ≤ 1000000) : ∀ (k m i c : Nat), i + k = ys.length → k < m → c + ((ys.drop i).map f).sum ≤ 1000000 → ZeQ rec n ys m (c : Int) i = some ((c + ((ys.drop i).map f).sum : Nat) : Int)
 | k, 0, i, c, _, h, _ => absurd h (Nat.not_lt_zero _)
 | 0, m + 1, i, c, hi, _, _ => by
  rw [ZeQ, Zao, decide_eq_false (show ¬ i < ys.length by omega), List.drop_eq_nil_of_le (by omega)]
  rfl
 | k + 1, m + 1, i, c, hi, hm, hc => by
  have hlt : i < ys.length := by omega
  rw [List.drop_eq_getElem_cons hlt, List.map_cons, List.sum_cons] at hc
  rw [ZeQ, Zao, decide_eq_true hlt]
  simp only [if_true, Zaj hlt, Option.bind_some, hr _ (List.getElem_mem hlt)]
  rw [if_pos (by unfold I64; omega), if_pos (Zap (by omega)), List.drop_eq_getElem_cons hlt, List.map_cons, List.sum_cons, ← Nat.add_assoc]
  exact Zl6 rec n ys f hr hl k m (i + 1) (c + f ys[i]) (by omega) (by omega) (by omega)
theorem ZlU : ∀ (n : Nat) (v : Vl) (lv : Nat), v.size < n → v.size ≤ 900000 → Zgd n v = some ((ZfI lv v).length : Int)
 | 0, v, lv, h, _ => absurd h (Nat.not_lt_zero _)
 | n + 1, v, lv, h, hs => by
  have h1 := Zgy v.size v lv (Nat.le_refl _)
  have hp := (Zel v).2.2
  have e := Zl6 (Zgd n) n (Za3 v) (fun x => (ZfI (lv + 1) x).length) (fun x hx => ZlU n x (lv + 1) (by have := ZdZ hx; omega) (by have := ZdZ hx; omega)) (by omega) (Za3 v).length n 0 1 (by omega) (by omega)
  rw [ZgU, List.length_cons, List.length_flatMap] at h1
  rw [List.drop_zero] at e
  have e2 := e (by omega)
  rw [Zgd, ZlT, ZjP n v (by omega) (by omega), Option.bind_some, ZgU, List.length_cons, List.length_flatMap, Nat.add_comm]
  exact e2
def RL (a b : Int) : Prop := a = b ∨ (4096 < a ∧ 4096 < b)
def LB (a b : Int) : Prop := 1 ≤ a ∧ 1 ≤ b ∧ a ≤ 4097 ∧ b ≤ 5000 ∧ RL a b
theorem Znh {a b : Int} (h1 : 1 ≤ a) (h2 : 1 ≤ b) (h : RL a b) : LB (if 4097 < a then 4097 else a) (if 5000 < b then 5000 else b) := by
 unfold LB RL at *
 split <;> split <;> omega
theorem ZjS (r1 r2 : Ty → Option Int) (n : Nat) (t : Ty) (hn : t.size + 2000 ≤ n) (ht : t.small) (hk : t.kind = 9) (hg : ∀ x ∈ t.fields, Zj3 t.kind x)
  (hr : ∀ p ∈ t.fields, ∃ a b, r1 p.2.2.2.1 = some a ∧ r2 p.2.2.2.1 = some b ∧ LB a b) : ∀ (k m i : Nat) (a b : Int), i + k = t.fields.length → k < m → 1 ≤ a → 1 ≤ b → a ≤ 5000 * (i + 1) → b ≤ 5000 * (i + 1) → RL a b →
  ∃ a' b', ZaU r1 n t m a i = some a' ∧ Zbg r2 n t m b i = some b' ∧ LB a' b'
 | k, 0, i, _, _, _, h, _, _, _, _, _ => absurd h (Nat.not_lt_zero _)
 | 0, m + 1, i, a, b, hi, _, h1, h2, _, _, h => by
  rw [ZaU, Zbg, Zao, decide_eq_false (show ¬ i < t.fields.length by omega)]
  exact ⟨_, _, rfl, rfl, Znh h1 h2 h⟩
 | k + 1, m + 1, i, a, b, hi, hm, h1, h2, h3, h4, h => by
  have hlt : i < t.fields.length := by omega
  have hts := ht.1
  have hl := t.lens
  rw [ZaU, Zbg, Zao, decide_eq_true hlt, decide_eq_true hk]
  simp only [if_true, Bool.true_or, Bool.and_self, Zaj hlt, Option.bind_some]
  have go : ∀ (c d : Int), 1 ≤ c → 1 ≤ d → c ≤ 5000 * ((i : Int) + 1 + 1) → d ≤ 5000 * ((i : Int) + 1 + 1) → RL c d → ∃ a' b', Zbu r1 n (ZaU r1 n t m) i c = some a' ∧ ZcQ r2 n (Zbg r2 n t m) i d = some b' ∧ LB a' b' := fun c d q1 q2 q3 q4 q5 => by
   rw [Zbu, ZcQ, if_pos (Zap (by omega)), if_pos (Zap (by omega))]
   exact ZjS r1 r2 n t hn ht hk hg hr k m (i + 1) c d (by omega) (by omega) q1 q2 (by push_cast; exact q3) (by push_cast; exact q4) q5
  obtain ⟨g1, g2, g3, g4⟩ := hg _ (List.getElem_mem hlt)
  by_cases n1 : t.fields[i].2.2.1 = 1
  ·
   obtain ⟨c, d, e1, e2, p1, p2, p3, p4, p5⟩ := hr _ (List.getElem_mem hlt)
   rw [decide_eq_true n1]
   simp only [if_true, e1, e2, Option.bind_some]
   rw [if_pos (by unfold I64; omega), if_pos (by unfold I64; omega)]
   exact go _ _ (by omega) (by omega) (by omega) (by omega) (by unfold RL at *; omega)
  rw [decide_eq_false n1]
  simp only [Bool.false_eq_true, if_false]
  by_cases n3 : t.fields[i].2.2.1 = 3
  ·
   have hd := g3 n3
   have hi0 : idx t.fields[i].2.2.2.2 0 = some t.fields[i].2.2.2.2[0] := Zaj (k := 0) (by omega)
   obtain ⟨_, o2, o3, o4⟩ := (t.ok_eq.1 ht.2.2).2.2.2 _ (List.getElem_mem hlt)
   obtain ⟨v1, v2, v3⟩ := o4 _ (List.getElem_mem (show 0 < t.fields[i].2.2.2.2.length by omega))
   have hp := Zgy _ t.fields[i].2.2.2.2[0] 1 (Nat.le_refl _)
   rw [decide_eq_true n3]
   simp only [if_true, hi0, Option.bind_some, ZrX _ (show t.fields[i].2.2.2.2[0].size < 1000000 by omega), ZlU n t.fields[i].2.2.2.2[0] 1 (by omega) (by omega)]
   rw [if_pos (by unfold I64; omega), if_pos (by unfold I64; omega)]
   exact go _ _ (by omega) (by omega) (by omega) (by omega) (by unfold RL at *; omega)
  ·
   rw [decide_eq_false n3]
   simp only [Bool.false_eq_true, if_false]
   exact go a b h1 h2 (by omega) (by omega) h
theorem ZvM {m a b : Int} (h1 : 1 ≤ m) (h2 : m ≤ 256) (h : LB a b) : a ≤ m * a ∧ b ≤ m * b ∧ m * a ≤ 256 * a ∧ m * b ≤ 256 * b ∧ RL (1 + m * a) (1 + m * b) := by
 obtain ⟨p1, p2, p3, p4, p5⟩ := h
 have q1 : 0 ≤ (m - 1) * a := Int.mul_nonneg (by omega) (by omega)
 have q2 : 0 ≤ (m - 1) * b := Int.mul_nonneg (by omega) (by omega)
 have q3 : 0 ≤ (256 - m) * a := Int.mul_nonneg (by omega) (by omega)
 have q4 : 0 ≤ (256 - m) * b := Int.mul_nonneg (by omega) (by omega)
 rw [Int.sub_mul] at q1 q2 q3 q4
 refine ⟨by omega, by omega, by omega, by omega, ?_⟩
 rcases p5 with rfl | p5
 ·
  exact .inl rfl
 ·
  exact .inr (by omega)
theorem Zfi : ∀ (n : Nat) (t : Ty), t.size + 2001 ≤ n → t.small → t.Good → ∃ a b, ZbU n t = some a ∧ Zd1 n t = some b ∧ LB a b
 | 0, t, h, _, _ => by omega
 | n + 1, t, h, ht, gt => by
  have hl := t.lens
  have hts := ht.1
  obtain ⟨f1, f2, f3, f4, f5, f6⟩ := ZjM (Zil gt)
  rw [ZbU, ZdX, Zd1, ZjD]
  have one : LB (if (4097 : Int) < 1 then 4097 else 1) (if (5000 : Int) < 1 then 5000 else 1) := Znh (by decide) (by decide) (.inl rfl)
  have nof : t.fields.length = 0 → ∀ c, Zds (Zd1 n) n t c = some (if 5000 < c then 5000 else c) := fun q c => by
   obtain ⟨n', rfl⟩ : ∃ k, n = k + 1 := ⟨n - 1, by omega⟩
   rw [Zds, Zbg, q]; rfl
  by_cases k8 : t.kind = 8
  ·
   obtain ⟨z1, z2, z3⟩ := f3 k8
   have hf0 := f4 (by omega) (by omega)
   have he2 : idx t.elem 0 = some t.elem[0] := Zaj (k := 0) (by omega)
   rw [decide_eq_true k8]
   simp only [if_true, Bool.true_and]
   by_cases hm : 0 < t.min
   ·
    have hem := List.getElem_mem (show 0 < t.elem.length by omega)
    have := t.elem_size _ hem
    obtain ⟨a, b, e1, e2, hb⟩ := Zfi n t.elem[0] (by omega) (Ty.small_elem ht hem) (Zg8 gt hem)
    obtain ⟨q1, q2, q3, q4, q5⟩ := ZvM (show 1 ≤ t.min by omega) z3 hb
    obtain ⟨p1, p2, p3, p4, _⟩ := hb
    rw [decide_eq_true hm]
    simp only [if_true, he2, Option.bind_some, e1, e2]
    rw [if_pos (by unfold I64; omega), if_pos (by unfold I64; omega), if_pos (by unfold I64; omega), if_pos (by unfold I64; omega), nof hf0]
    exact ⟨_, _, rfl, rfl, Znh (by omega) (by omega) q5⟩
   ·
    rw [decide_eq_false hm]
    simp only [Bool.false_eq_true, if_false]
    rw [nof hf0]
    exact ⟨_, _, rfl, rfl, one⟩
  rw [decide_eq_false k8]
  simp only [Bool.false_eq_true, if_false, Bool.false_and]
  by_cases k10 : t.kind = 10
  ·
   have hf := f5 k10
   have hfm := List.getElem_mem hf
   have hi0 : idx t.fields 0 = some t.fields[0] := Zaj (k := 0) hf
   have hnd := (f6 _ hfm).2.1 k10
   have := t.field_size _ hfm
   obtain ⟨a, b, e1, e2, p1, p2, p3, p4, p5⟩ := Zfi n t.fields[0].2.2.2.1 (by omega) (Ty.small_field ht hfm) (Zdq gt hfm)
   obtain ⟨n', rfl⟩ : ∃ k, n = k + 2 := ⟨n - 2, by omega⟩
   rw [decide_eq_true k10]
   simp only [if_true, hi0, Option.bind_some, e1]
   rw [if_pos (by unfold I64; omega), Zds, Zbg, if_pos (by simp; omega), hi0]
   simp only [Option.bind_some]
   rw [decide_eq_true hnd]
   simp only [if_true, e2, Option.bind_some]
   rw [if_pos (by unfold I64; omega), ZcQ, if_pos (by decide), Zbg, if_neg (by simp [k10])]
   exact ⟨_, _, rfl, rfl, Znh (by omega) (by omega) (by unfold RL at *; omega)⟩
  rw [decide_eq_false k10]
  simp only [Bool.false_eq_true, if_false]
  by_cases k9 : t.kind = 9
  ·
   rw [decide_eq_true k9]
   simp only [if_true, Zds]
   exact ZjS (ZbU n) (Zd1 n) n t (by omega) ht k9 f6 (fun p hp => by
    have := t.field_size p hp
    exact Zfi n p.2.2.2.1 (by omega) (Ty.small_field ht hp) (Zdq gt hp)) t.fields.length n 0 1 1 (by omega) (by omega) (by decide) (by decide) (by decide) (by decide) (.inl rfl)
  ·
   rw [decide_eq_false k9]
   simp only [Bool.false_eq_true, if_false]
   rw [nof (f4 k9 k10)]
   exact ⟨_, _, rfl, rfl, one⟩
theorem ZsG {a b c d : Int} (h : LB a b) (k : LB c d) : LB (if a < c then c else a) (if b < d then d else b) := by
 unfold LB RL at *
 split <;> split <;> omega
theorem Zta (r1 r2 : Ty → Option Int) (n : Nat) (t : Ty) (hl : t.fields.length ≤ 1000000000) (hr : ∀ p ∈ t.fields, ∃ a b, r1 p.2.2.2.1 = some a ∧ r2 p.2.2.2.1 = some b ∧ LB a b) : ∀ (k m i : Nat) (a b : Int), i + k = t.fields.length → k < m → LB a b →
  ∃ a' b', Za6 r1 n t m a i = some a' ∧ Zb2 r2 n t m b i = some b' ∧ LB a' b'
 | k, 0, i, _, _, _, h, _ => absurd h (Nat.not_lt_zero _)
 | 0, m + 1, i, a, b, hi, _, h => by
  rw [Za6, Zb2, Zao, decide_eq_false (show ¬ i < t.fields.length by omega)]
  exact ⟨_, _, rfl, rfl, h⟩
 | k + 1, m + 1, i, a, b, hi, hm, h => by
  have hlt : i < t.fields.length := by omega
  obtain ⟨c, d, e1, e2, p⟩ := hr _ (List.getElem_mem hlt)
  rw [Za6, Zb2, Zao, decide_eq_true hlt]
  rw [if_pos rfl, if_pos rfl, Zaj hlt, Option.bind_some, Option.bind_some, e1, e2, Option.bind_some, Option.bind_some]
  rw [if_pos (Zap (by omega)), if_pos (Zap (by omega))]
  exact Zta r1 r2 n t hl hr k m (i + 1) _ _ (by omega) (by omega) (ZsG h p)
theorem ZvL (r1 r2 : Ty → Option Int) (n : Nat) (t : Ty) (hl : t.fields.length ≤ 1000000000) (hn : t.fields.length < n) (hl2 : t.elem.length ≤ 1000000000) (hr : ∀ p ∈ t.fields, ∃ a b, r1 p.2.2.2.1 = some a ∧ r2 p.2.2.2.1 = some b ∧ LB a b)
  (hr2 : ∀ p ∈ t.elem, ∃ a b, r1 p = some a ∧ r2 p = some b ∧ LB a b) : ∀ (k m i : Nat) (a b : Int), i + k = t.elem.length → k < m → LB a b →
  ∃ a' b', Zbc r1 n t m a i = some a' ∧ Zcs r2 n t m b i = some b' ∧ LB a' b'
 | k, 0, i, _, _, _, h, _ => absurd h (Nat.not_lt_zero _)
 | 0, m + 1, i, a, b, hi, _, h => by
  rw [Zbc, Zcs, Zao, decide_eq_false (show ¬ i < t.elem.length by omega)]
  simp only [Bool.false_eq_true, if_false, Zcq, ZgD]
  exact Zta r1 r2 n t hl hr t.fields.length n 0 a b (by omega) hn h
 | k + 1, m + 1, i, a, b, hi, hm, h => by
  have hlt : i < t.elem.length := by omega
  obtain ⟨c, d, e1, e2, p⟩ := hr2 _ (List.getElem_mem hlt)
  rw [Zbc, Zcs, Zao, decide_eq_true hlt]
  rw [if_pos rfl, if_pos rfl, Zaj hlt, Option.bind_some, Option.bind_some, e1, e2, Option.bind_some, Option.bind_some]
  rw [if_pos (Zap (by omega)), if_pos (Zap (by omega))]
  exact ZvL r1 r2 n t hl hn hl2 hr hr2 k m (i + 1) _ _ (by omega) (by omega) (ZsG h p)
theorem ZeK : ∀ (n : Nat) (t : Ty), t.size + 2002 ≤ n → t.small → t.Good → ∃ a b, Zbm n t = some a ∧ Zc1 n t = some b ∧ LB a b
 | 0, t, h, _, _ => by omega
 | n + 1, t, h, ht, gt => by
  have hl := t.lens
  have hts := ht.1
  obtain ⟨a, b, e1, e2, hb⟩ := Zfi n t (by omega) ht gt
  rw [Zbm, Zcy, Zc1, Zhq, e1, e2]
  exact ZvL (Zbm n) (Zc1 n) n t (by omega) (by omega) (by omega) (fun p hp => by
   have := t.field_size p hp
   exact ZeK n _ (by omega) (Ty.small_field ht hp) (Zdq gt hp)) (fun p hp => by
   have := t.elem_size p hp
   exact ZeK n _ (by omega) (Ty.small_elem ht hp) (Zg8 gt hp)) t.elem.length n 0 a b (by omega) (by omega) hb
theorem ZpY (n : Nat) (t : Ty) (hn : 3000 ≤ n) (ht : t.small) : ∃ c, ZdM n t = some c ∧ Zjt n t = some c ∧ (c = 0 → t.Good) := by
 have hts := ht.1
 obtain ⟨e, l1, l2, e1, e2, e3⟩ := ZgJ n t 1 4096 (by omega) ht (by decide) (by decide) (by decide) (by decide)
 rw [ZdM, Zjt, e1, e2]
 simp only [Option.bind_some]
 by_cases h : e = 0
 ·
  obtain ⟨_, _, _, g⟩ := e3 h
  have gt : t.Good := g t (by simp)
  obtain ⟨a, b, q1, q2, p1, p2, p3, p4, p5⟩ := ZeK n t (by omega) ht gt
  rw [decide_eq_true h, q1, q2]
  simp only [Bool.not_true, Bool.false_eq_true, if_false, Option.bind_some]
  by_cases c : 4096 < a
  ·
   have c2 : 4096 < b := by unfold RL at p5; omega
   rw [decide_eq_true c, decide_eq_true c2]
   exact ⟨9, rfl, rfl, fun q => absurd q (by decide)⟩
  ·
   have c2 : ¬ 4096 < b := by unfold RL at p5; omega
   rw [decide_eq_false c, decide_eq_false c2]
   exact ⟨0, rfl, rfl, fun _ => gt⟩
 ·
  rw [decide_eq_false h]
  exact ⟨e, rfl, rfl, fun q => absurd q h⟩
theorem ZpU (k : Int) : ∀ (l b : List TF), Zeh k b l = 0 → ∀ x ∈ l, ∃ b', ZhW k b' x = 0
 | [], _, _, x, hx => absurd hx (by simp)
 | y :: r, b, h, x, hx => by
  rw [Zeh] at h
  by_cases q : ZhW k b y = 0
  ·
   rw [if_pos q] at h
   rcases List.mem_cons.1 hx with rfl | hx
   ·
    exact ⟨b, q⟩
   ·
    exact ZpU k r _ h x hx
  ·
   rw [if_neg q] at h; exact absurd h q
theorem Zmn {k : Int} {b : List TF} {x : TF} (h : ZhW k b x = 0) : ZcE x.2.1 = true ∧ (1 ≤ x.1 ∧ x.1 ≤ 9999) ∧ (1 ≤ x.2.2.1 ∧ x.2.2.1 ≤ 3) ∧ (k = 10 → x.2.2.1 = 1) ∧ (x.2.2.1 = 3 → x.2.2.2.2.length = 1) ∧ (x.2.2.1 ≠ 3 → x.2.2.2.2 = []) := by
 unfold ZhW at h
 by_cases h1 : ZcE x.2.1 = true
 ·
  rw [if_pos h1] at h
  by_cases h2 : ¬ (1 ≤ x.1 ∧ x.1 ≤ 9999)
  ·
   rw [if_pos h2] at h; exact absurd h (by decide)
  rw [if_neg h2] at h
  by_cases h3 : (b.any fun q => ZaQ q x) = true
  ·
   rw [if_pos h3] at h; exact absurd h (by decide)
  rw [if_neg h3] at h
  by_cases h4 : ¬ (1 ≤ x.2.2.1 ∧ x.2.2.1 ≤ 3) ∨ (k = 10 ∧ x.2.2.1 ≠ 1)
  ·
   rw [if_pos h4] at h; exact absurd h (by decide)
  rw [if_neg h4] at h
  by_cases h5 : x.2.2.1 = 3 ∧ x.2.2.2.2.length = 0
  ·
   rw [if_pos h5] at h; exact absurd h (by decide)
  rw [if_neg h5] at h
  by_cases h6 : 1 < x.2.2.2.2.length ∨ (x.2.2.1 ≠ 3 ∧ 0 < x.2.2.2.2.length)
  ·
   rw [if_pos h6] at h; exact absurd h (by decide)
  refine ⟨h1, by omega, by omega, by omega, by omega, fun q => ?_⟩
  have : x.2.2.2.2.length = 0 := by omega
  exact List.length_eq_zero_iff.1 this
 ·
  rw [if_neg h1] at h; exact absurd h (by decide)
structure Ty.Own (t : Ty) : Prop where
 kind : 1 ≤ t.kind ∧ t.kind ≤ 10
 words : t.kind = 4 → 0 < t.words.length → t.min = 0 ∧ t.max = 0 ∧ t.words.length ≤ 64 ∧ Zqy none t.words = 0
 nowords : t.kind ≠ 4 → t.words = []
 noelem : t.kind ≠ 8 → t.elem = []
 nofields : t.kind ≠ 9 → t.kind ≠ 10 → t.fields = []
 noscale : t.kind ≠ 3 → t.scale = 0
 nobounds : ¬ (2 ≤ t.kind ∧ t.kind ≤ 8) → t.min = 0 ∧ t.max = 0
 scale : 0 ≤ t.scale ∧ t.scale ≤ 12
 bounds : (2 ≤ t.kind ∧ t.kind ≤ 8) → ¬ (t.kind = 4 ∧ 0 < t.words.length) → (Zal t.kind).1 ≤ t.min ∧ t.max ≤ (Zal t.kind).2 ∧ t.min ≤ t.max
 elem : t.kind = 8 → ∃ e, t.elem = [e]
 cases : t.kind = 10 → 0 < t.fields.length
 fields : t.fields.length ≤ 64
 each : ∀ x ∈ t.fields, ZcE x.2.1 = true ∧ (1 ≤ x.1 ∧ x.1 ≤ 9999) ∧ (1 ≤ x.2.2.1 ∧ x.2.2.1 ≤ 3) ∧ (t.kind = 10 → x.2.2.1 = 1) ∧ (x.2.2.1 = 3 → x.2.2.2.2.length = 1) ∧ (x.2.2.1 ≠ 3 → x.2.2.2.2 = [])
 apart : Zeh t.kind [] t.fields = 0
theorem Ty.own_of {t : Ty} (h : ZmX t = 0) : t.Own := by
 have hu := Zhn h
 obtain ⟨k1, k2, k3⟩ := hu
 simp only [ZaC, Bool.or_eq_true, Bool.and_eq_true, Bool.not_eq_true', Bool.and_eq_false_iff, decide_eq_false_iff_not, decide_eq_true_eq, not_or, not_and] at k2
 obtain ⟨⟨⟨⟨u1, u2⟩, u3⟩, u4⟩, u5⟩ := k2
 have nw : t.kind ≠ 4 → t.words = [] := fun q => List.length_eq_zero_iff.1 (by have := u3 q; omega)
 have ne : t.kind ≠ 8 → t.elem = [] := fun q => List.length_eq_zero_iff.1 (by have := u4 q; omega)
 have nf : t.kind ≠ 9 → t.kind ≠ 10 → t.fields = [] := fun q q' => List.length_eq_zero_iff.1 (by have := u5 ⟨q, q'⟩; omega)
 have ns : t.kind ≠ 3 → t.scale = 0 := fun q => by
  have := u2 q
  by_cases z : t.scale = 0
  ·
   exact z
  ·
   exact absurd z this
 have nb : ¬ (2 ≤ t.kind ∧ t.kind ≤ 8) → t.min = 0 ∧ t.max = 0 := fun q => by
  have := u1 (by omega)
  omega
 have h0 := h
 rw [ZmX, if_neg k1, if_neg (by
  intro q
  simp only [ZaC, Bool.or_eq_true, Bool.and_eq_true, Bool.not_eq_true', Bool.and_eq_false_iff, decide_eq_false_iff_not, decide_eq_true_eq] at q
  rcases q with (((q | q) | q) | q) | q
  ·
   have := u1 q.1; have := q.2; omega
  ·
   exact u2 q.1 q.2
  ·
   exact u3 q.1 q.2
  ·
   exact u4 q.1 q.2
  ·
   exact u5 q.1 q.2)] at h
 by_cases h3 : t.kind = 4 ∧ 0 < t.words.length
 ·
  rw [if_pos h3, Zfp] at h
  by_cases w1 : t.min ≠ 0 ∨ t.max ≠ 0
  ·
   rw [if_pos w1] at h; exact absurd h (by decide)
  rw [if_neg w1] at h
  by_cases w2 : 64 < t.words.length
  ·
   rw [if_pos w2] at h; exact absurd h (by decide)
  rw [if_neg w2] at h
  have ef : t.fields = [] := nf (by omega) (by omega)
  exact { kind := by omega, words := fun _ _ => ⟨by omega, by omega, by omega, h⟩, nowords := nw, noelem := ne, nofields := nf, noscale := ns, nobounds := nb, scale := by have := ns (by omega); omega, bounds := fun _ q => absurd h3 q, elem := fun q => by omega, cases := fun q => by omega, fields := by rw [ef]; simp, each := fun x hx => by rw [ef] at hx; simp at hx, apart := by rw [ef]; rfl }
 rw [if_neg h3] at h
 by_cases h4 : ((2 ≤ t.kind ∧ t.kind ≤ 8) ∧ ZaW t (Zal t.kind).1 (Zal t.kind).2 = false) ∨ ¬ (0 ≤ t.scale ∧ t.scale ≤ 12)
 ·
  rw [if_pos h4] at h; exact absurd h (by decide)
 rw [if_neg h4] at h
 by_cases h5 : (t.kind = 8 ∧ t.elem.length = 0) ∨ (t.kind = 10 ∧ t.fields.length = 0)
 ·
  rw [if_pos h5] at h; exact absurd h (by decide)
 rw [if_neg h5] at h
 by_cases h6 : 1 < t.elem.length
 ·
  rw [if_pos h6] at h; exact absurd h (by decide)
 rw [if_neg h6] at h
 by_cases h7 : 64 < t.fields.length
 ·
  rw [if_pos h7] at h; exact absurd h (by decide)
 rw [if_neg h7] at h
 refine { kind := by omega, words := fun a b => absurd ⟨a, b⟩ h3, nowords := nw, noelem := ne, nofields := nf, noscale := ns, nobounds := nb, scale := by omega, bounds := fun q _ => ?_, elem := fun q => ?_, cases := fun q => by omega, fields := by omega, each := fun x hx => ?_, apart := h }
 ·
  have hb : ZaW t (Zal t.kind).1 (Zal t.kind).2 = true := by
   cases hb : ZaW t (Zal t.kind).1 (Zal t.kind).2 with
   | true => rfl
   | false => exact absurd (Or.inl ⟨q, hb⟩) h4
  unfold ZaW at hb
  simp only [Bool.and_eq_true, decide_eq_true_eq] at hb
  exact ⟨hb.1.1, hb.1.2, hb.2⟩
 ·
  match he : t.elem with
  | [] => exact absurd (Or.inl ⟨q, by rw [he]; rfl⟩) h5
  | [e] => exact ⟨e, rfl⟩
  | _ :: _ :: _ => rw [he] at h6; simp at h6
 ·
  obtain ⟨b', hb⟩ := ZpU _ _ _ h x hx
  exact Zmn hb
theorem Ty.Good.own {t : Ty} (h : t.Good) : t.Own := Ty.own_of (Zil h)
theorem Zh2 {α : Type} (p : α → Bool) (l : List α) : ∀ (k j : Nat), j + k = l.length → (l.drop j).find? p = idx l (ffI p l j)
 | 0, j, h => by rw [ZeJ p l j (by omega), List.drop_eq_nil_of_le (by omega)]; rfl
 | k + 1, j, h => by
  have hlt : j < l.length := by omega
  rw [Zdu p l j hlt, List.drop_eq_getElem_cons hlt, List.find?_cons]
  cases hp : p l[j] with
  | true => rw [if_pos rfl, Zaj hlt]
  | false => rw [if_neg (by decide)]; exact Zh2 p l k (j + 1) (by omega)
theorem ZkB {α : Type} (p : α → Bool) (l : List α) : l.find? p = idx l (ffI p l 0) := Zh2 p l l.length 0 (by omega)
def ZfO (t : Ty) (w : ByteArray) : Option TF := t.fields.find? fun x => sEq x.2.1 w
def Zjk : Nat → Ty → Vl → Bool
 | 0, _, _ => false
 | d + 1, t, v =>
  if t.kind ≠ v.kind then false
  else if t.kind = 2 ∨ t.kind = 6 ∨ t.kind = 7 then decide (t.min ≤ v.int) && decide (v.int ≤ t.max)
  else if t.kind = 3 then decide (v.scale = t.scale) && (decide (t.min ≤ v.int) && decide (v.int ≤ t.max))
  else if t.kind = 4 then (t.words.any fun x => sEq x v.text) || (decide ((t.words.length : Int) = 0) && Zid t v.text.size)
  else if t.kind = 5 then Zid t v.text.size
  else if t.kind = 8 then (v.list.all fun x => t.elem.all fun e => Zjk d e x) && Zid t v.list.length
  else if t.kind = 10 then match ZfO t v.text with
   | some p => v.list.all fun x => Zjk d p.2.2.2.1 x
   | none => false
  else if t.kind = 9 then (v.fields.all fun q => match ZfO t q.1 with
   | some p => Zjk d p.2.2.2.1 q.2
   | none => false) && !(t.fields.any (Zmz v))
  else true
theorem Ty.depth_elem {t x : Ty} (hx : x ∈ t.elem) : x.depth < t.depth := by
 have := t.depth_eq
 have := (Ze4 t.elem (Zea t.elem)).1 (Nat.le_refl _) x hx
 omega
theorem Ty.depth_field {t : Ty} {p : TF} (hx : p ∈ t.fields) : p.2.2.2.1.depth < t.depth := by
 have := t.depth_eq
 have := (Zeg t.fields (Zc8 t.fields)).1 (Nat.le_refl _) p hx
 omega
theorem Zps {v : Vl} (gv : v.Good) (vk : v.kind = 10) : ∃ x, v.list = [x] := by
 obtain ⟨_, u2⟩ := ZlM (Zg7 gv)
 have q := Zg7 gv
 rw [ZeM] at q
 by_cases p1 : Za7 v = true
 ·
  rw [if_pos p1] at q; exact absurd q (by decide)
 rw [if_neg p1, if_neg (by omega), if_neg u2, if_neg (by omega), if_neg (by omega), if_neg (by omega), if_neg (by omega), if_neg (by omega), if_neg (by omega), if_neg (by omega), if_neg (by omega), if_neg (by omega)] at q
 by_cases p2 : ZcE v.text = true
 ·
  rw [if_pos p2] at q
  by_cases p3 : v.list.length = 0
  ·
   rw [if_pos p3] at q; exact absurd q (by decide)
  rw [if_neg p3] at q
  by_cases p4 : 1 < v.list.length
  ·
   rw [if_pos p4] at q; exact absurd q (by decide)
  exact List.length_eq_one_iff.1 (by omega)
 ·
  rw [if_neg p2] at q; exact absurd q (by decide)
def Zx7 (d : Nat) (t : Ty) (q : ByteArray × Vl) : Bool := match ZfO t q.1 with
 | some p => Zjk d p.2.2.2.1 q.2
 | none => false
theorem Znw (rec : Ty → Vl → Option Bool) (d n : Nat) (t : Ty) (v : Vl) (hn : t.size + 1000 ≤ n) (hn2 : v.size < n) (hs : v.size ≤ 1000000000) (ht : t.size ≤ 200) (vk : v.kind = 9)
  (hr : ∀ p ∈ t.fields, ∀ q ∈ v.fields, rec p.2.2.2.1 q.2 = some (Zjk d p.2.2.2.1 q.2)) : ∀ (k m i : Nat), i + k = v.fields.length → k < m → ZbB rec n t v m i = some ((v.fields.drop i).all (Zx7 d t) && !(t.fields.any (Zmz v)))
 | k, 0, i, _, h => absurd h (Nat.not_lt_zero _)
 | 0, m + 1, i, hi, _ => by
  have hfv := Zcw v
  have hft := t.lens.2
  have e2 := ZiL rec n t v vk (by omega) (by omega) (by omega) t.fields.length n 0 (by omega) (by omega)
  rw [List.drop_zero] at e2
  rw [ZbB, Zao, decide_eq_false (by omega), List.drop_eq_nil_of_le (by omega)]
  simp only [Bool.false_eq_true, if_false, ZfV, List.all_nil, Bool.true_and]
  exact e2
 | k + 1, m + 1, i, hi, hm => by
  have hlt : i < v.fields.length := by omega
  have hfv := Zcw v
  have hft := t.lens.2
  have ih := Znw rec d n t v hn hn2 hs ht vk hr k m (i + 1) (by omega) (by omega)
  rw [ZbB, Zao, decide_eq_true hlt, if_pos rfl, Zaj hlt, Option.bind_some, Zgi n t _ (by omega) (by omega), Option.bind_some, List.drop_eq_getElem_cons hlt, List.all_cons]
  have hf : ZfO t v.fields[i].1 = idx t.fields (ffI (fun x : TF => sEq x.2.1 v.fields[i].1) t.fields 0) := ZkB _ _
  rw [Zx7, hf]
  rcases Zd7 (fun x : TF => sEq x.2.1 v.fields[i].1) t.fields t.fields.length 0 (by omega) with q | ⟨j, hj, q, _⟩
  ·
   rw [q, if_pos (by decide)]; rfl
  ·
   rw [q, if_neg (by rw [decide_eq_true_eq]; omega), Zaj hj, Option.bind_some, hr _ (List.getElem_mem hj) _ (List.getElem_mem hlt), Option.bind_some]
   change _ = some ((Zjk d t.fields[j].2.2.2.1 v.fields[i].2 && (v.fields.drop (i + 1)).all (Zx7 d t)) && !(t.fields.any (Zmz v)))
   cases hb : Zjk d t.fields[j].2.2.2.1 v.fields[i].2 with
   | false => rfl
   | true =>
    rw [if_neg (by decide), if_pos (Zap (by omega)), Bool.true_and]
    exact ih
theorem Zin : ∀ (n d : Nat) (t : Ty) (v : Vl), t.size + 1500 ≤ n → v.size + 1500 ≤ n → v.size ≤ 1000000000 → t.small → t.Good → v.Good → t.depth ≤ d → Zbq n t v = some (Zjk d t v)
 | 0, d, t, v, h, _, _, _, _, _, _ => by omega
 | n + 1, 0, t, v, _, _, _, _, _, _, hd => by have := t.depth_eq; omega
 | n + 1, d + 1, t, v, h1, h2, h3, ht, gt, gv, hd => by
  obtain ⟨k1, k2, k3⟩ := Zhn (Zil gt)
  have hl := t.lens
  have hts := ht.1
  have hfv := Zcw v
  have hlv := (Zel v).1
  have hw := (t.ok_eq.1 ht.2.2).1
  rw [Zbq, Zkn, Zjk]
  by_cases hk : t.kind = v.kind
  rotate_left
  ·
   rw [decide_eq_false hk, if_pos hk]; rfl
  rw [decide_eq_true hk, if_neg (show ¬ (t.kind ≠ v.kind) from fun q => q hk)]
  simp only [Bool.not_true, Bool.false_eq_true, if_false]
  rcases Zci k1 with tk | tk | tk | tk | tk | tk | tk | tk | tk | tk
  ·
   simp [tk, Zav, Zi3]
  ·
   simp [tk, Zav]
  ·
   simp [tk, Zav]
  ·
   have e2 := ZiS (Zbq n) n t v (by omega) t.words.length n 0 (by omega) (by omega)
   rw [List.drop_zero] at e2
   simp only [tk, Zav]
   exact e2
  ·
   simp [tk, Zav, Zid]
  ·
   simp [tk, Zav]
  ·
   simp [tk, Zav]
  ·
   obtain ⟨e, he⟩ := gt.own.elem tk
   have hem : e ∈ t.elem := by rw [he]; simp
   have he2 : idx t.elem 0 = some e := by rw [he]; rfl
   have e2 := Zjg (Zbq n) n t v e (by rw [he]; simp) he2 (fun x => Zjk d e x) (by omega) (fun x hx => by
    have a := t.elem_size _ hem
    have b := v.list_size x hx
    have c := Ty.depth_elem hem
    exact Zin n d e x (by omega) (by omega) (by omega) (Ty.small_elem ht hem) (Zg8 gt hem) (ZdY gv (by rw [Za3, if_pos (.inl (by omega))]; exact hx)) (by omega)) v.list.length n 0 (by omega) (by omega)
   rw [List.drop_zero] at e2
   have e3 : (v.list.all fun x => t.elem.all fun e => Zjk d e x) = v.list.all fun x => Zjk d e x := by
    congr 1; funext x; rw [he]; simp
   rw [e3]
   simp only [tk, Zav]
   exact e2
  ·
   have e2 := Znw (Zbq n) d n t v (by omega) (by omega) h3 hts (by omega) (fun p hp q hq => by
     have a := t.field_size p hp
     have b := v.field_size q hq
     have c := Ty.depth_field hp
     exact Zin n d _ _ (by omega) (by omega) (by omega) (Ty.small_field ht hp) (Zdq gt hp) (ZdY gv (by rw [Za3, if_neg (by omega), if_pos (by omega)]; exact List.mem_map_of_mem hq)) (by omega)) v.fields.length n 0 (by omega) (by omega)
   rw [List.drop_zero] at e2
   have e2' : ZgX (Zbq n) n t v = _ := e2
   simp only [tk, Zav, e2']
   rfl
  ·
   have vk : v.kind = 10 := by omega
   obtain ⟨x, hx⟩ := Zps gv vk
   have hi : idx v.list 0 = some x := by rw [hx]; rfl
   have hf : ZfO t v.text = idx t.fields (ffI (fun x : TF => sEq x.2.1 v.text) t.fields 0) := ZkB _ _
   have e : Zav (Zbq n) n t v false = some (match ZfO t v.text with
    | some p => v.list.all fun x => Zjk d p.2.2.2.1 x
    | none => false) := by
    simp only [Zav, tk, Zgi n t _ (show t.fields.length ≤ 1000000000 by omega) (show t.fields.length < n by omega), Option.bind_some]
    rw [hf]
    rcases Zd7 (fun x : TF => sEq x.2.1 v.text) t.fields t.fields.length 0 (by omega) with q | ⟨j, hj, q, _⟩
    ·
     rw [q]; rfl
    ·
     have a := t.field_size _ (List.getElem_mem hj)
     have b := v.list_size x (by rw [hx]; simp)
     have c := Ty.depth_field (List.getElem_mem hj)
     have e5 := Zin n d t.fields[j].2.2.2.1 x (by omega) (by omega) (by omega) (Ty.small_field ht (List.getElem_mem hj)) (Zdq gt (List.getElem_mem hj)) (ZdY gv (by rw [Za3, if_pos (.inr vk), hx]; simp)) (by omega)
     rw [q, Zaj hj, hi]
     simp [e5, hx]
   simp only [tk]
   exact e
inductive Ty.Fine : Nat → Ty → Prop
 | mk (d : Nat) (t : Ty) (own : ZmX t = 0) (he : ∀ x ∈ t.elem, Ty.Fine d x) (hf : ∀ p ∈ t.fields, Ty.Fine d p.2.2.2.1) (hd : ∀ p ∈ t.fields, ∀ v ∈ p.2.2.2.2, ZoR v = 0 ∧ Zjk 12 p.2.2.2.1 v = true) : Ty.Fine (d + 1) t
theorem Ty.Fine.depth : ∀ (d : Nat) (t : Ty), t.Fine d → t.depth ≤ d
 | 0, t, h => by cases h
 | d + 1, t, h => by
  cases h with
  | mk _ _ own he hf hd =>
   have h1 := (Ze4 t.elem d).2 fun x hx => Ty.Fine.depth d x (he x hx)
   have h2 := (Zeg t.fields d).2 fun x hx => Ty.Fine.depth d _ (hf x hx)
   have := t.depth_eq
   omega
def Zgw (a0 : Bool) : Vl :=
 if a0 then
  Vl.mk 1 1 0 ((⟨#[]⟩ : ByteArray)) ([]) ([])
 else
  Vl.mk 1 0 0 ((⟨#[]⟩ : ByteArray)) ([]) ([])
theorem Zpl (w0 : World) (B : List (List AV)) (Rw : List RowA) (L : List LoopA) (a0 : Bool) (r : Vl) (h : Zgw a0 = r) :
  ACalls Tryz.prog w0 24 [.val (.bool a0)] ⟨B, Rw, L⟩ fun x st => x = .agg (r.cs) ∧ st = ⟨B, Rw, L⟩ := by
 rw [Zgw] at h
 refine hd [.cell 2 46] Tryz.func24 Tryz.ntmps24 fun M0 W0 hN hNR hNL hcalm hu hO hs => ?_
 simp only [Zax]
 refine rg [0, 2] hs ?_
 apply Zab; intro K2 hK2
 refine rg [2, 3] hs ?_
 refine cnd h hs (fun hs h => ?_) (fun hs h => ?_)
 ·
  have hb4 := hs.1
  apply Zab; intro K5 hK5
  apply Zac 1 [2]
  rw [Zaa]; simp +decide only [go_sem, Nat.reduceAdd, hb4, ZaA, Zak, Zah]
  (repeat' apply And.intro) <;> first | refine hK5 _ _ ?_ | exact cl
  clear hK5
  apply Zag; simp +decide only [go_sem, Nat.reduceAdd, hb4]
  subst h
  first | refine ZaY hcalm rfl hO.pre ev ⟨?_, rfl⟩ | refine Zbw hcalm rfl hO.pre ev ⟨?_, rfl⟩
  first | rfl | (simp +decide only [go_sem, Nat.reduceAdd, hb4]; done) | (simp +decide only [go_sem, Nat.reduceAdd, Vl.cs, Ty.cs, hb4]; done)
 have hb4 := hs.1
 refine sk [2] hs hK2 ?_
 clear hK2
 apply Zab; intro K6 hK6
 apply Zac 1 [2]
 rw [Zaa]; simp +decide only [go_sem, Nat.reduceAdd, hb4, ZaA, Zak, Zah]
 (repeat' apply And.intro) <;> first | refine hK6 _ _ ?_ | exact cl
 clear hK6
 apply Zag; simp +decide only [go_sem, Nat.reduceAdd, hb4]
 subst h
 first | refine ZaY hcalm rfl hO.pre ev ⟨?_, rfl⟩ | refine Zbw hcalm rfl hO.pre ev ⟨?_, rfl⟩
 first | rfl | (simp +decide only [go_sem, Nat.reduceAdd, hb4]; done) | (simp +decide only [go_sem, Nat.reduceAdd, Vl.cs, Ty.cs, hb4]; done)
theorem ZnX (w0 : World) (B : List (List AV)) (Rw : List RowA) (L : List LoopA) (a0 : Bool) :
  ACalls Tryz.prog w0 24 [.val (.bool a0)] ⟨B, Rw, L⟩ fun x st => x = .agg ((Zgw a0).cs) ∧ st = ⟨B, Rw, L⟩ := Zpl w0 B Rw L a0 _ rfl
end Go.Proofs.YtgpmlelfkjfbiaaGreatDoor
namespace Go.Ev
open Go Go.RowKit
section
variable {o : VO} {n : Nat}
@[go_sem] theorem Zwy : (hdr o n).cells = [hdr o n] := by cases o <;> rfl
@[go_sem] theorem ZyO : (hdr o n).one = true := by cases o <;> rfl
@[go_sem] theorem Zvf : ZaE (hdr o n) = true := by cases o <;> rfl
@[go_sem] theorem Zvs : Zdg (hdr o n) = false := by cases o <;> rfl
@[go_sem] theorem ZyC : isB (hdr o n) = false := by cases o <;> rfl
@[go_sem] theorem ZpQ (id ver : Nat) : hdr (.row id ver) n = .vec id ver 0 n := rfl
def VO.under : VO → Nat → Prop
 | .nil, _ => True
 | .row id _, k => id < k
@[go_sem] theorem Zwk {nb nr nl : Nat} : Under nb nr nl (hdr o n) ↔ o.under nr := by
 cases o with
 | nil => exact ⟨fun _ => trivial, fun _ => .list (by simp) trivial⟩
 | row id ver => exact ⟨fun h => by cases h; assumption, fun h => .vec h⟩
@[go_sem] theorem Ztm (k : Nat) : VO.nil.under k = True := rfl
@[go_sem] theorem Zib (id ver k : Nat) : (VO.row id ver).under k = (id < k) := rfl
end
def Zjm : VO → List RowA → VO
 | .nil, rows => .row rows.length 0
 | .row id ver, _ => .row id (ver + 1)
def Zkq : VO → List RowA → Nat → List AV → List RowA
 | .nil, rows, sz, cs => rows ++ [.vec 0 sz cs]
 | .row id ver, rows, sz, cs => rows.set id (.vec (ver + 1) sz cs)
section
variable {Rw rows : List RowA} {l : List (Nat × Nat × Own)} {ho : Own} {v : List VE} {o : VO} {sz : Nat} {cs : List AV}
theorem OwnsAt.up {lo : Nat} {x : Nat × Nat × Own} (h : OwnsAt lo ho rows x) (r : List RowA) : OwnsAt lo ho (rows ++ r) x := by
 rcases h with h | ⟨id, h1, h2, h3⟩
 ·
  exact .inl h
 ·
  exact .inr ⟨id, h1, h2, by rw [List.getElem?_append_left (List.getElem?_eq_some_iff.1 h3).1]; exact h3⟩
theorem OwnsAt.set {lo : Nat} {x : Nat × Nat × Own} (h : OwnsAt lo ho rows x) {i : Nat} {a s : Nat} {c : List AV} (hi : rows[i]? = some (.vec a s c)) (r : RowA) : OwnsAt lo ho (rows.set i r) x := by
 rcases h with h | ⟨id, h1, h2, h3⟩
 ·
  exact .inl h
 ·
  refine .inr ⟨id, h1, h2, ?_⟩
  rw [List.getElem?_set_ne (fun e => by rw [e, h3] at hi; cases hi)]
  exact h3
theorem VAt.lt {lo : Nat} {x : VE} (h : VAt lo rows x) : x.1.under rows.length := by
 rcases h with h | ⟨id, ver, h1, h2, h3⟩
 ·
  rw [h.1]; trivial
 ·
  rw [h1]; exact (List.getElem?_eq_some_iff.1 h3).1
theorem Owns.nilV (h : Owns Rw rows l ho v) (sz : Nat) : Owns Rw rows l ho ((.nil, sz, []) :: v) :=
 ⟨h.len, h.keep, fun i r hr q qv => h.calm i r hr q fun x hx => qv x (List.mem_cons_of_mem _ hx), h.each, h.apart, fun x hx => by
  rcases List.mem_cons.1 hx with rfl | hx
  ·
   exact .inl ⟨rfl, rfl⟩
  ·
   exact h.veach x hx, List.pairwise_cons.2 ⟨fun _ _ _ _ _ q => (nomatch q), h.vapart⟩⟩
theorem Owns.newV (h : Owns Rw rows l ho v) (sz : Nat) (cs : List AV) : Owns Rw (rows ++ [.vec 0 sz cs]) l ho ((.row rows.length 0, sz, cs) :: v) := by
 have hl := h.len
 refine ⟨by simp; omega, fun i hi hn => ?_, fun i r hr q qv => ?_, fun x hx => (h.each x hx).up _, h.apart, fun x hx => ?_, List.pairwise_cons.2 ⟨fun y hy id a b q k => ?_, h.vapart⟩⟩
 ·
  rw [List.getElem?_append_left (by omega)]; exact h.keep i hi hn
 ·
  by_cases hi : i < rows.length
  ·
   rw [List.getElem?_append_left hi] at hr
   exact h.calm i r hr q fun x hx => qv x (List.mem_cons_of_mem _ hx)
  ·
   have e : i = rows.length := by
    have := (List.getElem?_eq_some_iff.1 hr).1
    simp at this; omega
   exact absurd (by rw [e]) (qv _ (List.mem_cons_self ..) 0)
 ·
  rcases List.mem_cons.1 hx with rfl | hx
  ·
   exact .inr ⟨_, _, rfl, hl, by simp⟩
  ·
   exact (h.veach x hx).up _
 ·
  cases q
  have := (h.veach y hy).lt
  rw [k] at this
  exact Nat.lt_irrefl _ this
theorem Owns.setV {id ver : Nat} (h : Owns Rw rows l ho ((.row id ver, sz, cs) :: v)) (ver' : Nat) (cs' : List AV) : Owns Rw (rows.set id (.vec ver' sz cs')) l ho ((.row id ver', sz, cs') :: v) := by
 obtain ⟨h0, h1, h2, h3, h4, h5, h6⟩ := h
 obtain ⟨hid, hrow⟩ : Rw.length ≤ id ∧ rows[id]? = some (.vec ver sz cs) := by
  rcases h5 _ (List.mem_cons_self ..) with q | ⟨id', ver', q1, q2, q3⟩
  ·
   cases q.1
  ·
   cases q1; exact ⟨q2, q3⟩
 have hlt := (List.getElem?_eq_some_iff.1 hrow).1
 obtain ⟨p1, p2⟩ := List.pairwise_cons.1 h6
 refine ⟨by simpa using h0, fun i hi hn => ?_, fun i r hr q qv => ?_, fun x hx => (h3 x hx).set hrow _, h4, fun x hx => ?_, List.pairwise_cons.2 ⟨fun y hy id' a b q => by cases q; exact p1 y hy id ver b rfl, p2⟩⟩
 ·
  rw [List.getElem?_set_ne (by omega)]; exact h1 i hi hn
 ·
  by_cases e : id = i
  ·
   exact absurd (by rw [e]) (qv _ (List.mem_cons_self ..) ver')
  ·
   rw [List.getElem?_set_ne e] at hr
   refine h2 i r hr q fun x hx => ?_
   rcases List.mem_cons.1 hx with rfl | hx
   ·
    intro a k; cases k; exact e rfl
   ·
    exact qv x (List.mem_cons_of_mem _ hx)
 ·
  rcases List.mem_cons.1 hx with rfl | hx
  ·
   exact .inr ⟨id, ver', rfl, hid, by simp [hlt]⟩
  ·
   exact (h5 x (List.mem_cons_of_mem _ hx)).set (fun a k => p1 x hx id ver a rfl k) _
theorem Owns.storeV {id ver : Nat} (h : Owns Rw rows l ho ((.row id ver, sz, cs) :: v)) (cs' : List AV) : ∃ rows', Owns Rw rows' l ho ((.row id ver, sz, cs') :: v) ∧ rows.set id (.vec ver sz cs') = rows' := ⟨_, h.setV ver cs', rfl⟩
theorem Owns.bump (h : Owns Rw rows l ho ((o, sz, cs) :: v)) (cs' : List AV) : Owns Rw (Zkq o rows sz cs') l ho ((Zjm o rows, sz, cs') :: v) := by
 cases o with
 | nil =>
  have h' : Owns Rw rows l ho v := ⟨h.len, h.keep, fun i r hr q qv => h.calm i r hr q fun x hx => by
   rcases List.mem_cons.1 hx with rfl | hx
   ·
    intro a k; cases k
   ·
    exact qv x hx, h.each, h.apart, fun x hx => h.veach x (List.mem_cons_of_mem _ hx), (List.pairwise_cons.1 h.vapart).2⟩
  exact h'.newV sz cs'
 | row id ver => exact h.setV (ver + 1) cs'
theorem Owns.eqV {v' : List VE} (h : Owns Rw rows l ho v) (he : v = v') : Owns Rw rows l ho v' := he ▸ h
theorem Owns.rowV (h : Owns Rw rows l ho ((o, sz, cs) :: v)) (hne : 0 < cs.length) : ∃ id ver, o = .row id ver ∧ id < rows.length ∧ Zeb rows id ver = some (sz, cs) := by
 rcases h.veach _ (List.mem_cons_self ..) with q | ⟨id, ver, q1, q2, q3⟩
 ·
  have q2 : cs = [] := q.2
  rw [q2] at hne; simp at hne
 ·
  refine ⟨id, ver, q1, (List.getElem?_eq_some_iff.1 q3).1, ?_⟩
  simp only [Zeb, q3, if_true]
theorem Owns.nilZ (h : Owns Rw rows l ho ((o, sz, cs) :: v)) (hs : 0 < sz) {n : Nat} (hn : cs.length = n * sz) : o = .nil → n = 0 := fun e => by
 rcases h.veach _ (List.mem_cons_self ..) with q | ⟨id, ver, q1, q2, q3⟩
 ·
  have q2 : cs = [] := q.2
  rw [q2] at hn
  rcases Nat.eq_zero_or_pos n with w | w
  ·
   exact w
  ·
   have := Nat.mul_pos w hs
   simp at hn; omega
 ·
  rw [e] at q1; cases q1
theorem Owns.lenV (h : Owns Rw rows l ho ((o, sz, cs) :: v)) (hs : 0 < sz) {n : Nat} (hn : cs.length = n * sz) (P : Program) (t : TypeId) : Zmh P t (hdr o n) = ((elT P t).isSome = true, .val (.int .i64 n)) := by
 cases o with
 | nil => rw [h.nilZ hs hn rfl]; rfl
 | row id ver => rfl
theorem Owns.underV (h : Owns Rw rows l ho v) : ∀ x ∈ v, x.1.under rows.length := fun x hx => (h.veach x hx).lt
theorem Owns.appendV {P : Program} {t el : TypeId} {by8 n m : Nat} {ag : Bool} (h : Owns Rw rows l ho ((o, sz, cs) :: v)) (he : elT P t = some (el, sz, ag, by8)) (hz : (ZbK P el).isSome = true) (hs : 0 < sz) (hn : cs.length = n * sz) (hm : 0 < m)
  (hb : (n + m) * by8 ≤ 140737488355328) (hb2 : n + m ≤ 4611686018427387904) (ys : List AV) (hy : ys.length = m) (cs' : List AV) (hc : cs ++ ys.flatMap (fun y => y.pub.cells) = cs') :
  ∃ o' rows', Owns Rw rows' l ho ((o', sz, cs') :: v) ∧ ∀ (B : List (List AV)) (L : List LoopA) (o2 : Own), ZaK P ⟨B, rows, L⟩ t (hdr o n) (.list ys o2) = ((∀ y ∈ ys, y.cells.length = sz ∧ ZaE y = true), hdr o' (n + m), ⟨B, rows', L⟩) := by
 subst hc
 refine ⟨_, _, h.bump _, fun B L o2 => ?_⟩
 cases o with
 | nil =>
  have e0 := h.nilZ hs hn rfl
  subst e0
  have ec : cs = [] := List.length_eq_zero_iff.1 (by simpa using hn)
  subst ec
  simp only [hdr, ZaK, he, Zaz, Zbe, Zbb, hs, hz, hy, hm, Zjm, Zkq, List.length_nil, List.nil_append, Nat.zero_add, true_and, and_true, Prod.mk.injEq, eq_iff_iff, and_self]
  rw [Nat.zero_add] at hb hb2
  exact ⟨fun q => q.2.2, fun q => ⟨hb, hb2, q⟩⟩
 | row id ver =>
  obtain ⟨id', ver', e, hlt, hv⟩ : ∃ id' ver', VO.row id ver = .row id' ver' ∧ id' < rows.length ∧ Zeb rows id' ver' = some (sz, cs) := by
   rcases h.veach _ (List.mem_cons_self ..) with q | ⟨id, ver, q1, q2, q3⟩
   ·
    cases q.1
   ·
    refine ⟨id, ver, q1, (List.getElem?_eq_some_iff.1 q3).1, ?_⟩
    simp only [Zeb, q3, if_true]
  cases e
  have et : cs.take (n * sz) = cs := List.take_of_length_le (by omega)
  have eb := hb
  simp only [hdr, ZaK, he, hv, Zaz, Zbe, Zbb, hs, hz, hy, Zjm, Zkq, et, Nat.le_of_eq hn.symm, true_and, and_true, Prod.mk.injEq, eq_iff_iff]
  exact ⟨fun q => q.2.2, fun q => ⟨hb, hb2, q⟩⟩
theorem Owns.callV {rows' : List RowA} {v' : List VE} (h : Owns Rw rows l ho v) (hc : Owns rows rows' [] .none v') : Owns Rw rows' l ho (v' ++ v) := by
 have l1 := h.len
 have l2 := hc.len
 have keep : ∀ i, i < rows.length → rows'[i]? = rows[i]? := fun i hi => hc.keep i hi (fun q => by cases q)
 have old : ∀ x ∈ v, x.1.under rows.length := h.underV
 have new : ∀ x ∈ v', ∀ id ver, x.1 = .row id ver → rows.length ≤ id := fun x hx id ver e => by
  rcases hc.veach x hx with q | ⟨id', ver', q1, q2, q3⟩
  ·
   rw [q.1] at e; cases e
  ·
   rw [q1] at e; cases e; exact q2
 refine ⟨by omega, fun i hi hn => ?_, fun i r hr q qv => ?_, fun x hx => ?_, h.apart, fun x hx => ?_, List.pairwise_append.2 ⟨hc.vapart, h.vapart, fun x hx y hy id a b e k => ?_⟩⟩
 ·
  rw [keep i (by omega)]; exact h.keep i hi hn
 ·
  by_cases e : rows.length ≤ i
  ·
   exact hc.calm i r hr (.inl e) fun x hx => qv x (List.mem_append_left _ hx)
  ·
   rw [keep i (by omega)] at hr
   exact h.calm i r hr q fun x hx => qv x (List.mem_append_right _ hx)
 ·
  rcases h.each x hx with q | ⟨id, q1, q2, q3⟩
  ·
   exact .inl q
  ·
   exact .inr ⟨id, q1, q2, by rw [keep id (List.getElem?_eq_some_iff.1 q3).1]; exact q3⟩
 ·
  rcases List.mem_append.1 hx with hx | hx
  ·
   rcases hc.veach x hx with q | ⟨id, ver, q1, q2, q3⟩
   ·
    exact .inl q
   ·
    exact .inr ⟨id, ver, q1, by omega, q3⟩
  ·
   rcases h.veach x hx with q | ⟨id, ver, q1, q2, q3⟩
   ·
    exact .inl q
   ·
    exact .inr ⟨id, ver, q1, q2, by rw [keep id (List.getElem?_eq_some_iff.1 q3).1]; exact q3⟩
 ·
  have h1 := new x hx id a e
  have h2 := old y hy
  rw [k] at h2
  exact absurd h2 (by simp only [VO.under]; omega)
theorem Owns.dropV {x : VE} (h : Owns Rw rows l ho ((.nil, sz, cs) :: v)) : Owns Rw rows l ho v :=
 ⟨h.len, h.keep, fun i r hr q qv => h.calm i r hr q fun x hx => by
  rcases List.mem_cons.1 hx with rfl | hx
  ·
   intro a k; cases k
  ·
   exact qv x hx, h.each, h.apart, fun x hx => h.veach x (List.mem_cons_of_mem _ hx), (List.pairwise_cons.1 h.vapart).2⟩
theorem Owns.deadV {id ver : Nat} (h : Owns Rw rows l ho ((.row id ver, sz, cs) :: v)) : Owns Rw (rows.set id (.dead (ver + 1))) l ho v := by
 obtain ⟨h0, h1, h2, h3, h4, h5, h6⟩ := h
 obtain ⟨hid, hrow⟩ : Rw.length ≤ id ∧ rows[id]? = some (.vec ver sz cs) := by
  rcases h5 _ (List.mem_cons_self ..) with q | ⟨id', ver', q1, q2, q3⟩
  ·
   cases q.1
  ·
   cases q1; exact ⟨q2, q3⟩
 have hlt := (List.getElem?_eq_some_iff.1 hrow).1
 obtain ⟨p1, p2⟩ := List.pairwise_cons.1 h6
 refine ⟨by simpa using h0, fun i hi hn => ?_, fun i r hr q qv => ?_, fun x hx => (h3 x hx).set hrow _, h4, fun x hx => ?_, p2⟩
 ·
  rw [List.getElem?_set_ne (by omega)]; exact h1 i hi hn
 ·
  by_cases e : id = i
  ·
   subst e
   rw [List.getElem?_set_self hlt] at hr
   cases hr; rfl
  ·
   rw [List.getElem?_set_ne e] at hr
   refine h2 i r hr q fun x hx => ?_
   rcases List.mem_cons.1 hx with rfl | hx
   ·
    intro a k; cases k; exact e rfl
   ·
    exact qv x hx
 ·
  exact (h5 x (List.mem_cons_of_mem _ hx)).set (fun a k => p1 x hx id ver a rfl k) _
end
section
variable {P : Program} {w0 : World} {n : Nat} {e : Env} {st : St} {M0 : Mem} {W0 : World} {ro : Option Nat} {Q : AQ} {c : Code}
variable {Rw : List RowA} {lw : List (Nat × Nat × Own)} {oh : Own} {v : List VE} {o : VO} {sz m : Nat} {cs xs : List AV}
theorem ZiQ (l i : Nat) {bs : List AV} (hl : st.boxes[l]? = some bs) (hi : bs[i]? = some (hdr o m)) (ho : Owns Rw st.rows lw oh ((o, sz, cs) :: v)) (ag : Bool) (hag : ag = true ∨ sz = 1) (hs : 0 < sz) (hn : cs.length = m * sz) (hx : Zmm sz ag cs 0 m = xs)
  (h : ∀ rows', Owns Rw rows' lw oh v → awp P w0 n M0 W0 ro c Q e { st with boxes := st.boxes.set l (bs.set i (.list xs .none)), rows := rows' }) : awp P w0 n M0 W0 ro c Q e st := by
 cases o with
 | nil =>
  have e0 := ho.nilZ hs hn rfl
  subst e0
  have ex : xs = [] := by rw [← hx]; rfl
  subst ex
  exact ZmN l i hl hi rfl (h _ (ho.dropV (x := (.nil, 0, []))))
 | row id ver =>
  rcases ho.veach _ (List.mem_cons_self ..) with q | ⟨id', ver', q1, q2, q3⟩
  ·
   cases q.1
  ·
   cases q1
   subst hx
   exact ZgF l i ag hl hi (by simp only [Zeb, q3, if_true]) hag (by rw [Nat.zero_add]; omega) (h _ ho.deadV)
end
theorem ZpE {α : Type} {f : α → AV} {g : α → List AV} (sz : Nat) (hf : ∀ x, f x = .agg (g x)) (hg : ∀ x, (g x).length = sz) (xs : List α) : Zmm sz true (xs.flatMap fun x => (f x).cells) 0 xs.length = xs.map f := by
 have hc : (xs.flatMap fun x => (f x).cells) = xs.flatMap g := by
  congr 1; funext x; rw [hf]; rfl
 rw [hc]
 refine List.ext_getElem (by simp [Zmm]) fun i h1 h2 => ?_
 simp only [List.length_map] at h2
 simp only [Zmm, List.getElem_map, List.getElem_range, Nat.zero_add, Zjq, if_true]
 rw [ZcX sz hg (List.getElem?_eq_getElem h2), hf]
theorem Zdt {α : Type} {f : α → AV} {sz : Nat} (hf : ∀ x, (f x).cells.length = sz) (xs : List α) : (xs.flatMap fun x => (f x).cells).length = xs.length * sz := by
 induction xs with
 | nil => simp
 | cons x xs ih => rw [List.flatMap_cons, List.length_append, ih, hf, List.length_cons, Nat.succ_mul, Nat.add_comm]
theorem Zm4 {α : Type} {f : α → AV} {sz : Nat} (hf : ∀ x, (f x).cells.length = sz) {xs : List α} {i : Nat} {x : α} (h : xs[i]? = some x) :
  (∀ j, j < sz → nth (xs.flatMap fun x => (f x).cells) (i * sz + j) = nth (f x).cells j) ∧ (∀ j k, j + k ≤ sz → ((xs.flatMap fun x => (f x).cells).drop (i * sz + j)).take k = ((f x).cells.drop j).take k) := by
 have key := ZcX (f := fun x => (f x).cells) sz hf h
 have kd : ∀ j k, j + k ≤ sz → ((xs.flatMap fun x => (f x).cells).drop (i * sz + j)).take k = ((f x).cells.drop j).take k := fun j k hjk => by
  rw [← key, List.drop_take, List.take_take, List.drop_drop, Nat.min_eq_left (by omega)]
 refine ⟨fun j hj => ?_, kd⟩
 have := kd j 1 (by omega)
 simp only [nth, List.getD_eq_getElem?_getD]
 have e1 : ∀ (l : List AV) (q : Nat), l[q]? = ((l.drop q).take 1)[0]? := fun l q => by simp [List.getElem?_take_of_lt, List.getElem?_drop]
 rw [e1, e1 (f x).cells, this]
theorem ZiG {α : Type} {f : α → AV} {sz : Nat} (hf : ∀ x, (f x).cells.length = sz) (y : α) : ∀ {xs : List α} {i : Nat} {x : α} {k : Nat} {c : List AV}, xs[i]? = some x → k + c.length ≤ sz → (f y).cells = Zbj (f x).cells k c → Zbj (xs.flatMap fun x => (f x).cells) (i * sz + k) c = (xs.set i y).flatMap fun x => (f x).cells
 | [], i, x, k, c, h, _, _ => by simp at h
 | z :: zs, 0, x, k, c, h, hk, he => by
  simp only [List.getElem?_cons_zero, Option.some.injEq] at h
  subst h
  have hz := hf z
  simp only [List.flatMap_cons, List.set_cons_zero, he, Zbj, Nat.zero_mul, Nat.zero_add]
  rw [List.take_append_of_le_length (by omega), List.drop_append_of_le_length (by omega)]
  simp only [List.append_assoc]
 | z :: zs, i + 1, x, k, c, h, hk, he => by
  simp only [List.getElem?_cons_succ] at h
  have ih := ZiG hf y (i := i) (k := k) h hk he
  have hz := hf z
  simp only [List.flatMap_cons, List.set_cons_succ, ← ih, Zbj]
  rw [show (i + 1) * sz + k = (f z).cells.length + (i * sz + k) by rw [hz, Nat.succ_mul]; omega, List.take_append, List.take_of_length_le (by omega), Nat.add_sub_cancel_left, Nat.add_assoc, List.drop_append, List.drop_of_length_le (by omega), Nat.add_sub_cancel_left]
  simp only [List.nil_append, List.append_assoc]
section
variable {P : Program} {w0 : World} {f : FuncId} {st : St}
def finV (st : St) (Post : AV → St → Prop) (r : AV) (s : St) : Prop :=
 st.boxes.length ≤ s.boxes.length ∧ st.rows.length ≤ s.rows.length ∧ st.loops.length ≤ s.loops.length ∧ Calm st.boxes.length s.rows.length st.loops.length (s.cut st.boxes.length s.rows.length st.loops.length) ∧
  Under st.boxes.length s.rows.length st.loops.length r ∧ Post r (s.cut st.boxes.length s.rows.length st.loops.length)
theorem ACalls.finV {args : List AV} {Post : AV → St → Prop} (h : ACalls P w0 f args st (finV st Post)) : ACalls P w0 f args st Post := by
 refine ⟨h.1, fun M w vals hst hrow => (h.2 M w vals hst hrow).mono ?_⟩
 rintro en w' ⟨v, M', r, st', h1, ⟨b1, b2, b3, b4, b5, b6⟩, h3, h4, h5⟩
 exact ⟨v, M'.cut st.boxes.length st'.rows.length st.loops.length, r, _, h1, b6, h3.cut (by have := hst.N; omega) (by have := hst.NR; omega) (by have := hst.loop.NL; omega) (by rw [h4.loop.NL]; exact b3), h4.cut b1 (Nat.le_refl _) b3 b4, h5.cut b5⟩
theorem Zzc {B B' X : List (List AV)} {R0 rows : List RowA} {L l : List LoopA} {Post : AV → St → Prop} {r : AV} {ow : List (Nat × Nat × Own)} {v : List VE} (ho : Owns R0 rows ow .none v) (hc : Calm B.length R0.length L.length ⟨B', R0, L⟩) (hB : B'.length = B.length) (hu : Under B.length rows.length L.length r)
  (hv : ∀ x ∈ v, ∀ y ∈ x.2.2, Under B.length rows.length L.length y) (hp : Post r ⟨B', rows, L⟩) : Go.Ev.finV ⟨B, R0, L⟩ Post r ⟨B' ++ X, rows, L ++ l⟩ := by
 have e : St.cut ⟨B' ++ X, rows, L ++ l⟩ B.length rows.length L.length = ⟨B', rows, L⟩ := by simp [St.cut, ← hB]
 have hl := ho.len
 refine ⟨by simp [hB], hl, by simp, ?_, hu, by simp only [e]; exact hp⟩
 simp only [e]
 exact ⟨ho.rowsCalm (Nat.le_refl _) hc.rows hv, fun cs a x b => ZbR (Nat.le_refl _) hl (Nat.le_refl _) (hc.boxes cs a x b), fun la a k x b c => ZbR (Nat.le_refl _) hl (Nat.le_refl _) (hc.loops la a k x b c)⟩
theorem Zv3 {B B' X : List (List AV)} {R0 rows : List RowA} {L : List LoopA} {Post : AV → St → Prop} {r : AV} {ow : List (Nat × Nat × Own)} {v : List VE} (ho : Owns R0 rows ow .none v) (hc : Calm B.length R0.length L.length ⟨B', R0, L⟩) (hB : B'.length = B.length) (hu : Under B.length rows.length L.length r)
  (hv : ∀ x ∈ v, ∀ y ∈ x.2.2, Under B.length rows.length L.length y) (hp : Post r ⟨B', rows, L⟩) : Go.Ev.finV ⟨B, R0, L⟩ Post r ⟨B' ++ X, rows, L⟩ := by
 have := Zzc (X := X) (l := []) ho hc hB hu hv hp
 rwa [List.append_nil] at this
end
abbrev VP (Rw : List RowA) (o : VO) (sz : Nat) (cs : List AV) : Prop := VAt 0 Rw (o, sz, cs)
theorem Owns.vp {Rw rows : List RowA} {l : List (Nat × Nat × Own)} {ho : Own} {v : List VE} {o : VO} {sz : Nat} {cs : List AV} (h : Owns Rw rows l ho ((o, sz, cs) :: v)) : VP rows o sz cs := by
 rcases h.veach _ (List.mem_cons_self ..) with q | ⟨id, ver, q1, q2, q3⟩
 ·
  exact .inl q
 ·
  exact .inr ⟨id, ver, q1, Nat.zero_le _, q3⟩
theorem VP.up {Rw rows : List RowA} {o : VO} {sz : Nat} {cs : List AV} {l : List (Nat × Nat × Own)} {v : List VE} (h : VP Rw o sz cs) (ho : Owns Rw rows l .none v) : VP rows o sz cs := by
 rcases h with q | ⟨id, ver, q1, q2, q3⟩
 ·
  exact .inl q
 ·
  refine .inr ⟨id, ver, q1, q2, ?_⟩
  rw [ho.keep id (List.getElem?_eq_some_iff.1 q3).1 (fun e => by cases e)]
  exact q3
theorem VP.row {rows : List RowA} {o : VO} {sz : Nat} {cs : List AV} (h : VP rows o sz cs) (hne : 0 < cs.length) : ∃ id ver, o = .row id ver ∧ id < rows.length ∧ Zeb rows id ver = some (sz, cs) := by
 rcases h with q | ⟨id, ver, q1, q2, q3⟩
 ·
  have q2 : cs = [] := q.2
  rw [q2] at hne; simp at hne
 ·
  refine ⟨id, ver, q1, (List.getElem?_eq_some_iff.1 q3).1, ?_⟩
  simp only [Zeb, q3, if_true]
theorem VP.lenV {rows : List RowA} {o : VO} {sz : Nat} {cs : List AV} (h : VP rows o sz cs) (hs : 0 < sz) {n : Nat} (hn : cs.length = n * sz) (P : Program) (t : TypeId) : Zmh P t (hdr o n) = ((elT P t).isSome = true, .val (.int .i64 n)) := by
 cases o with
 | nil =>
  rcases h with q | ⟨id, ver, q1, q2, q3⟩
  ·
   have q2 : cs = [] := q.2
   rw [q2] at hn
   rcases Nat.eq_zero_or_pos n with w | w
   ·
    rw [w]; rfl
   ·
    have := Nat.mul_pos w hs
    simp at hn; omega
  ·
   cases q1
 | row id ver => rfl
theorem VP.under {rows : List RowA} {o : VO} {sz : Nat} {cs : List AV} (h : VP rows o sz cs) : o.under rows.length := VAt.lt h
end Go.Ev
namespace Go.Ev
open Go Go.RowKit Go.Shelf Go.Lib Go.Proofs
structure InsLay (P : Program) (ρ : Ren) (nm : String) (sz bytes : Nat) (z : Value) : Prop where
 mixed : P.follows .mixedOrders = true
 nmo : nm ≠ "runtime.NumGoroutine"
 f22 : P.funcs[ρ.f 22]? = some { Body2.n22 ρ with name := nm }
 ov : ∀ (w : World) (x y : Value), (Extern.SlicesOverlaps.overlaps #[ρ.t 24, ρ.t 24] #[ρ.t 4] #[x, y]).run P w = .ok (.bool false) w → (callFunc (ρ.f 29) #[x, y]).run P w = .ok (.value (.bool false)) w
 t0 : P.underlying (ρ.t 0) = some (TypeDesc.tuple #[])
 a0 : ∀ w, (isAgg (ρ.t 0)).run P w = .ok false w
 z0 : ∀ w, (Go.sizeOf (ρ.t 0)).run P w = .ok 1 w
 v0 : ∀ w, (zeroValue (ρ.t 0)).run P w = .ok (Value.tuple #[]) w
 t3 : P.underlying (ρ.t 3) = some (TypeDesc.int IntKind.i64)
 a3 : ∀ w, (isAgg (ρ.t 3)).run P w = .ok false w
 z3 : ∀ w, (Go.sizeOf (ρ.t 3)).run P w = .ok 1 w
 v3 : ∀ w, (zeroValue (ρ.t 3)).run P w = .ok (Value.int IntKind.i64 0) w
 t4 : P.underlying (ρ.t 4) = some (TypeDesc.bool)
 a4 : ∀ w, (isAgg (ρ.t 4)).run P w = .ok false w
 z4 : ∀ w, (Go.sizeOf (ρ.t 4)).run P w = .ok 1 w
 v4 : ∀ w, (zeroValue (ρ.t 4)).run P w = .ok (Value.bool false) w
 z9 : ∀ w, (Go.sizeOf (ρ.t 9)).run P w = .ok sz w
 t24 : P.underlying (ρ.t 24) = some (TypeDesc.slice (ρ.t 9))
 a24 : ∀ w, (isAgg (ρ.t 24)).run P w = .ok false w
 z24 : ∀ w, (Go.sizeOf (ρ.t 24)).run P w = .ok 1 w
 v24 : ∀ w, (zeroValue (ρ.t 24)).run P w = .ok (Value.slice none 0 0) w
 i9 : (P.info? (ρ.t 9)).map (fun i => (i.zero, i.size, i.bytes)) = some (some z, sz, bytes)
theorem Zii {P : Program} (w : World) (tS tR e : TypeId) (ht : P.underlying tS = some (.slice e)) (size : Nat) (hz : ∀ w, (Go.sizeOf e).run P w = .ok size w)
  (a b : Addr) (la ca lb cb : Nat) (hne : a.block ≠ b.block) (tA tB : TypeId) (kA kB : Nat)
  (hsa : w.shape? a.block = some (tA, kA)) (hsb : w.shape? b.block = some (tB, kB)) (hkA : kA ≠ 0) (hkB : kB ≠ 0)
  (hfb : ∀ j, w.frozen? { block := b.block, off := j } = false) (hb : b.spot = none) :
  (Extern.SlicesOverlaps.overlaps #[tS, tS] #[tR] #[.slice (some a) la ca, .slice (some b) lb cb]).run P w = .ok (.bool false) w := by
 have hnb : (a.block != b.block) = true := by simpa using hne
 have hnb' : (a.block == b.block) = false := by simpa using hne
 have hf : w.frozen? b = false := by
  obtain ⟨bb, bo, bs⟩ := b
  cases hb
  exact hfb bo
 change Sem.run P (α := Value) (do
  let some t := (#[tS, tS] : Array TypeId)[0]? | stuck "slices.overlaps: no parameter types"
  let .slice elem ← underlying t | stuck "slices.overlaps: slice type expected"
  let size ← sizeOf elem
  match (some a : Option Addr), (some b : Option Addr) with
  | some a, some b =>
   if la = 0 ∨ lb = 0 ∨ size = 0 then pure (Value.bool false)
   else if a.block != b.block && (← frozen a) && (← frozen b) then unsupported .addressObserved
   else do
    if a.block != b.block then do
     noView a; noView b
     if ← mayBeOne a b then return Value.bool ((← choose (.extern "sameAddr.stringBytes" 2)) == 1)
    pure (Value.bool (a.block == b.block && a.off < b.off + lb * size && b.off < a.off + la * size))
  | _, _ => pure (Value.bool false)) w = _
 by_cases h0 : la = 0 ∨ lb = 0 ∨ size = 0
 ·
  simp [run_underlying ht, hz, h0]
 ·
  cases kB with
  | zero => exact absurd rfl hkB
  | succ kB =>
  cases kA with
  | zero => exact absurd rfl hkA
  | succ kA =>
   cases hfa : w.frozen? a <;> cases hfe : w.frozen? { block := a.block, off := kA + 1 } <;>
    simp [run_underlying ht, hz, h0, hnb, hnb', frozen, noView, viewAt, mayBeOne, stringish, shape, Sem.run, hsa, hsb, hfa, hfe, hf, hfb]
section
variable {P : Program} {ρ : Ren} {nm : String} {sz bytes : Nat} {z : Value}
theorem ZfD (w : World) (dT sT ty elem : TypeId) (b o dLen dCap : Nat) (a : Addr) (sLen sCap : Nat) (cs : List Value)
  (hu : P.underlying dT = some (.slice elem)) (hs : (P.info? elem).map (·.size) = some sz) (hn : cs.length = Nat.min sLen dLen * sz)
  (hsrc : ∀ j v, cs[j]? = some v → w.cell? (a.add j) = some v) (hc : ∀ j, j < cs.length → (w.cell? ⟨b, o + j, none⟩).isSome = true) (hf : ∀ j, j < cs.length → w.frozen? ⟨b, o + j, none⟩ = false) (h1 : ∀ v ∈ cs, v.oneCell' = true) :
  (Builtin.copy_ #[dT, sT] ty #[.slice (some ⟨b, o, none⟩) dLen dCap, .slice (some a) sLen sCap]).run P w = .ok (goInt (Nat.min sLen dLen)) (w.setCells b o cs) := by
 have hl := run_loadCells_list (P := P) w a cs hsrc
 have hst := run_storeCells_cells (P := P) b o cs 0 w (by simpa using hc) (by simpa using hf) h1
 rw [Nat.add_zero] at hst
 rw [hn] at hl
 cases hq : P.info? elem with
 | none => simp [hq] at hs
 | some i =>
  have hi : i.size = sz := by simpa [hq] using hs
  simp [Builtin.copy_, run_underlying hu, Builtin.lenOf, Builtin.firstCells, sizeOf, typeInfo, hq, hi, hl, hst]
theorem ZpT (L : InsLay P ρ nm sz bytes z) (b off n c i vb voff m vc : Nat) (cs vs : List Value) (w : World) (hi : i < n) (hm : 0 < m) (hroom : n + m ≤ c) (hc63 : c ≤ 9223372036854775807) (hvb : vb ≠ b)
  (hcl : cs.length = n * sz) (hvl : vs.length = m * sz)
  (hcs : ∀ j v, cs[j]? = some v → w.cell? ⟨b, off + j, none⟩ = some v) (hsp : ∀ j, j < n * sz + m * sz → (w.cell? ⟨b, off + j, none⟩).isSome = true) (hfz : ∀ j, j < n * sz + m * sz → w.frozen? ⟨b, off + j, none⟩ = false)
  (hvs : ∀ j v, vs[j]? = some v → w.cell? ⟨vb, voff + j, none⟩ = some v) (h1c : ∀ v ∈ cs, v.oneCell' = true) (h1v : ∀ v ∈ vs, v.oneCell' = true)
  (tA tB : TypeId) (kA kB : Nat) (hsa : w.shape? vb = some (tA, kA)) (hsb : w.shape? b = some (tB, kB)) (hkA : kA ≠ 0) (hkB : kB ≠ 0) (hfb : ∀ j, w.frozen? ⟨b, j, none⟩ = false) :
  Calls P (ρ.f 22) #[.slice (some ⟨b, off, none⟩) n c, .int .i64 i, .slice (some ⟨vb, voff, none⟩) m vc] w fun e w' =>
   e = .returned (.slice (some ⟨b, off, none⟩) (n + m) c) ∧ w' = (w.drew.setCells b (off + (i * sz + m * sz)) (cs.drop (i * sz))).setCells b (off + i * sz) vs := by
 have t0 := L.t0; have a0 := L.a0; have z0 := L.z0; have v0 := L.v0; have t3 := L.t3; have a3 := L.a3; have z3 := L.z3; have v3 := L.v3; have t4 := L.t4; have a4 := L.a4; have z4 := L.z4; have v4 := L.v4; have z9 := L.z9; have t24 := L.t24; have a24 := L.a24; have z24 := L.z24; have v24 := L.v24
 have u0 := run_underlying L.t0; have u3 := run_underlying L.t3; have u4 := run_underlying L.t4; have u24 := run_underlying L.t24
 have hz1 : ¬ ((m : Int) = 0) := by omega
 have hz2 : ¬ ((i : Int) = (n : Int)) := by omega
 have hsz : (P.info? (ρ.t 9)).map (·.size) = some sz := by
  obtain ⟨i0, hi0, h0, h1, h2⟩ := info_parts L.i9
  rw [hi0]; simp [h1]
 have mixed := L.mixed
 have hw1 : IntKind.i64.wrap ((i : Int) + (m : Int)) = (i : Int) + (m : Int) := by rw [IntKind.wrap_i64]; omega
 have hb1 : (0 : Int) ≤ (i : Int) + (m : Int) := by omega
 have hin : i ≤ n := by omega
 have htn : ((i : Int) + (m : Int)).toNat = i + m := by omega
 have hb2 : ¬ (c = i + m) := by omega
 have hb3 : (i : Int) ≤ (n : Int) + (m : Int) := by omega
 have hb4 : ¬ (c = i) := by omega
 have hAC : (i + m) * sz = i * sz + m * sz := Nat.add_mul ..
 have hle : i * sz ≤ n * sz := Nat.mul_le_mul_right _ hin
 have hsub : (n - i) * sz = n * sz - i * sz := Nat.sub_mul ..
 have hov : ∀ lb cb, (callFunc (ρ.f 29) #[.slice (some ⟨vb, voff, none⟩) m vc, .slice (some ⟨b, off + (i * sz + m * sz), none⟩) lb cb]).run P w = .ok (.value (.bool false)) w := fun lb cb =>
  L.ov _ _ _ (Zii w (ρ.t 24) (ρ.t 4) (ρ.t 9) L.t24 sz L.z9 ⟨vb, voff, none⟩ ⟨b, off + (i * sz + m * sz), none⟩ m vc lb cb hvb tA tB kA kB hsa hsb hkA hkB hfb rfl)
 have hdl : (cs.drop (i * sz)).length = n * sz - i * sz := by rw [List.length_drop, hcl]
 have hcp1 : ∀ ty dc sc, (Builtin.copy_ #[(ρ.t 24), (ρ.t 24)] ty #[.slice (some ⟨b, off + (i * sz + m * sz), none⟩) (n + m - (i + m)) dc, .slice (some ⟨b, off + i * sz, none⟩) (n + m - i) sc]).run P w.drew = .ok (goInt ((n - i : Nat) : Int)) (w.drew.setCells b (off + (i * sz + m * sz)) (cs.drop (i * sz))) := fun ty dc sc => by
  have hmin : Nat.min (n + m - i) (n + m - (i + m)) = n - i := by simp only [Nat.min_def]; split <;> omega
  have := ZfD (P := P) w.drew (ρ.t 24) (ρ.t 24) ty (ρ.t 9) b (off + (i * sz + m * sz)) (n + m - (i + m)) dc ⟨b, off + i * sz, none⟩ (n + m - i) sc (cs.drop (i * sz)) L.t24 hsz (by rw [hdl, hmin, hsub])
   (fun j v hj => by rw [Addr.add_lit, Nat.add_assoc]; exact hcs (i * sz + j) v (by rwa [List.getElem?_drop] at hj))
   (fun j hj => by rw [Nat.add_assoc]; exact hsp _ (by omega)) (fun j hj => by rw [Nat.add_assoc]; exact hfz _ (by omega)) (fun v hv => h1c v (List.mem_of_mem_drop hv))
  rwa [hmin] at this
 obtain ⟨W1, hW1⟩ : ∃ W1, W1 = w.drew.setCells b (off + (i * sz + m * sz)) (cs.drop (i * sz)) := ⟨_, rfl⟩
 have hsp1 : ∀ k, k < n * sz + m * sz → (W1.cell? ⟨b, off + k, none⟩).isSome = true := fun k hk => by
  rw [hW1]
  exact isSome_setCells b _ _ _ (fun j hj => by rw [Nat.add_assoc]; exact hsp _ (by omega)) _ (hsp k hk)
 have hcp2 : ∀ (W : World), (∀ x, W.cell? x = W1.cell? x) → (∀ x, W.frozen? x = W1.frozen? x) → ∀ ty dc, (Builtin.copy_ #[(ρ.t 24), (ρ.t 24)] ty #[.slice (some ⟨b, off + i * sz, none⟩) (n + m - i) dc, .slice (some ⟨vb, voff, none⟩) m vc]).run P W = .ok (goInt m) (W.setCells b (off + i * sz) vs) := fun W hWc hWf ty dc => by
  have hmin : Nat.min m (n + m - i) = m := by simp only [Nat.min_def]; split <;> omega
  have := ZfD (P := P) W (ρ.t 24) (ρ.t 24) ty (ρ.t 9) b (off + i * sz) (n + m - i) dc ⟨vb, voff, none⟩ m vc vs L.t24 hsz (by rw [hvl, hmin])
   (fun j v hj => by
    rw [Addr.add_lit, hWc, hW1, World.cell?_setCells_out b _ _ _ _ (fun h _ => absurd h hvb)]
    exact hvs j v hj)
   (fun j hj => by rw [hWc, Nat.add_assoc]; exact hsp1 _ (by omega)) (fun j hj => by rw [hWf, hW1, World.frozen?_setCells, Nat.add_assoc]; exact hfz _ (by omega)) h1v
  rwa [hmin] at this
 rw [← hW1] at hcp1
 have FG := L.f22
 go_enter FG, Body2.n22_ntmps ρ
 go_wp2_with (simp only [hov])
 go_region_law_o (refine step_copy_runI rfl _ _ (ρ.t 24) (ρ.t 24) rfl _ _ (by simp [Act.eval, Act.put]) (by simp [Act.eval, Act.put]) (hcp1 _ _ _) ?_)
 go_wp2_with (at_builtin; refine wpList_copy_runI _ rfl _ _ (ρ.t 24) (ρ.t 24) rfl _ _ rfl rfl (hcp2 _ (fun _ => rfl) (fun _ => rfl) _ _) ?_)
 go_ret
 first | exact ⟨rfl, rfl⟩ | exact ⟨rfl, by rw [hW1]⟩
theorem ZrD (L : InsLay P ρ nm sz bytes z) (hzc : z.cells.size = sz) (h0 : 0 < sz) (b off n c i vb voff m vc : Nat) (cs vs : List Value) (w : World) (hi : i < n) (hm : 0 < m) (hnc : n ≤ c) (hroom : c < n + m) (hbig : (n + m) * bytes ≤ 140737488355328) (hbig2 : n + m ≤ 4611686018427387904)
  (hcl : cs.length = n * sz) (hvl : vs.length = m * sz)
  (hcs : ∀ j v, cs[j]? = some v → w.cell? ⟨b, off + j, none⟩ = some v)
  (hvs : ∀ j v, vs[j]? = some v → w.cell? ⟨vb, voff + j, none⟩ = some v) (h1c : ∀ v ∈ cs, v.oneCell' = true) (h1v : ∀ v ∈ vs, v.oneCell' = true) :
  Calls P (ρ.f 22) #[.slice (some ⟨b, off, none⟩) n c, .int .i64 i, .slice (some ⟨vb, voff, none⟩) m vc] w fun e w' =>
   e = .returned (.slice (some ⟨w.heap.size, 0, none⟩) (n + m) (grownCap w (n + m) c (ρ.t 9))) ∧
   w' = (((w.alloc (.cells ((cs.take (i * sz)).toArray ++ Builtin.zeroCells z.cells (n + m - i) ++ Builtin.zeroCells z.cells (grownCap w (n + m) c (ρ.t 9) - (n + m))) (ρ.t 9))).drew.setCells w.heap.size (i * sz) vs).drew).setCells w.heap.size (i * sz + m * sz) (cs.drop (i * sz)) := by
 have t0 := L.t0; have a0 := L.a0; have z0 := L.z0; have v0 := L.v0; have t3 := L.t3; have a3 := L.a3; have z3 := L.z3; have v3 := L.v3; have t4 := L.t4; have a4 := L.a4; have z4 := L.z4; have v4 := L.v4; have z9 := L.z9; have t24 := L.t24; have a24 := L.a24; have z24 := L.z24; have v24 := L.v24
 have u0 := run_underlying L.t0; have u3 := run_underlying L.t3; have u4 := run_underlying L.t4; have u24 := run_underlying L.t24
 have mixed := L.mixed
 obtain ⟨i0, hi0, hz0, hzs, hzb⟩ := info_parts L.i9
 have hz1 : ¬ ((m : Int) = 0) := by omega
 have hz2 : ¬ ((i : Int) = (n : Int)) := by omega
 have hz3 : (c : Int) < (n : Int) + (m : Int) := by omega
 have hsz : (P.info? (ρ.t 9)).map (·.size) = some sz := by rw [hi0]; simp [hzs]
 have hAC : (i + m) * sz = i * sz + m * sz := Nat.add_mul ..
 have hle : i * sz ≤ n * sz := Nat.mul_le_mul_right _ (by omega)
 have hpos : 0 < m * sz := Nat.mul_pos hm h0
 have hsub : (n - i) * sz = n * sz - i * sz := Nat.sub_mul ..
 have hNM : (n + m) * sz = n * sz + m * sz := Nat.add_mul ..
 have hnsz : 0 < n * sz := Nat.mul_pos (by omega) h0
 have hbw : b < w.heap.size := block_lt_of_cell (hcs 0 _ (List.getElem?_eq_getElem (by omega)))
 have hvw : vb < w.heap.size := block_lt_of_cell (hvs 0 _ (List.getElem?_eq_getElem (by omega)))
 have hkk : (n : Int) + (m : Int) - (i : Int) = ((n + m - i : Nat) : Int) := by omega
 have hik : i + (n + m - i) = n + m := by omega
 have hold : (Builtin.firstCells i0.size i (.slice (some ⟨b, off, none⟩) i c)).run P w.drew = .ok (cs.take (i * sz)).toArray w.drew := by
  rw [hzs]
  exact run_firstCells_some w.drew sz i ⟨b, off, none⟩ i c (cs.take (i * sz)) (by rw [List.length_take]; omega) (fun j v hj => by
   rw [Addr.add_lit]
   rw [List.getElem?_take] at hj
   split at hj
   ·
    exact hcs j v hj
   ·
    cases hj)
 have hneed : n + m ≤ maxLen := by unfold maxLen; omega
 have hrz : ∀ ty, (Builtin.append_ #[(ρ.t 24), (ρ.t 3)] ty #[.slice (some ⟨b, off, none⟩) i c, .int .i64 ((n : Int) + (m : Int) - (i : Int))]).run P w =
   .ok (.slice (some ⟨w.heap.size, 0, none⟩) (n + m) (grownCap w (n + m) c (ρ.t 9))) (w.drew.alloc (.cells ((cs.take (i * sz)).toArray ++ Builtin.zeroCells z.cells (n + m - i) ++ Builtin.zeroCells z.cells (grownCap w (n + m) c (ρ.t 9) - (n + m))) (ρ.t 9))) := fun ty => by
  have hbb : (n + m - i) * i0.bytes ≤ (n + m) * i0.bytes := Nat.mul_le_mul_right _ (by omega)
  have h := Lib.run_append_grow_zeros w (ρ.t 24) (ρ.t 3) ty (ρ.t 9) i0 _ .i64 .i64 L.t24 L.t3 hi0 hz0 (some ⟨b, off, none⟩) i c (cs.take (i * sz)) hold (n + m - i) (by omega) (by omega) (by omega) (by omega) (by rw [hzb] at hbb ⊢; omega) (by rw [hzb, hik]; exact growslice_fits hroom hbig)
  rw [hik] at h
  rw [hkk]
  exact h
 obtain ⟨G, hG⟩ : ∃ G, G = grownCap w (n + m) c (ρ.t 9) := ⟨_, rfl⟩
 have hGn : n + m ≤ G := by rw [hG]; exact grownCap_ge w _ _ _
 have hG63 : G ≤ 9223372036854775807 := by
  have := grownCap_le_maxLen w (n + m) c (ρ.t 9) hneed
  rw [← hG] at this
  unfold maxLen at this
  omega
 obtain ⟨ROW, hROW⟩ : ∃ ROW : Array Value, ROW = (cs.take (i * sz)).toArray ++ Builtin.zeroCells z.cells (n + m - i) ++ Builtin.zeroCells z.cells (G - (n + m)) := ⟨_, rfl⟩
 rw [← hG] at hrz ⊢
 rw [← hROW] at hrz ⊢
 have hRl : n * sz + m * sz ≤ ROW.size := by
  have e1 : (n + m - i) * sz = n * sz + m * sz - i * sz := by rw [Nat.sub_mul, hNM]
  rw [hROW]
  simp only [Array.size_append, List.size_toArray, List.length_take, size_zeroCells, hzc]
  omega
 obtain ⟨W1, hW1⟩ : ∃ W1, W1 = w.drew.alloc (.cells ROW (ρ.t 9)) := ⟨_, rfl⟩
 rw [← hW1] at hrz
 have hN : ∀ j, j < n * sz + m * sz → (W1.cell? ⟨w.heap.size, j, none⟩).isSome = true := fun j hj => by
  rw [hW1, World.cell?_alloc_at (w := w.drew) ROW _ w.heap.size j rfl, Array.getElem?_eq_getElem (by omega)]; rfl
 have hNf : ∀ j, W1.frozen? ⟨w.heap.size, j, none⟩ = false := fun j => by rw [hW1]; exact World.frozen?_alloc_at (w := w.drew) ROW _ w.heap.size j rfl
 have hOb : ∀ j v, w.cell? ⟨b, j, none⟩ = some v → W1.cell? ⟨b, j, none⟩ = some v := fun j v h => by rw [hW1, World.cell?_alloc_past (w := w.drew) _ b j hbw]; exact h
 have hOv : ∀ j v, w.cell? ⟨vb, j, none⟩ = some v → W1.cell? ⟨vb, j, none⟩ = some v := fun j v h => by rw [hW1, World.cell?_alloc_past (w := w.drew) _ vb j hvw]; exact h
 have hcpA : ∀ (W : World), (∀ x, W.cell? x = W1.cell? x) → (∀ x, W.frozen? x = W1.frozen? x) → ∀ ty dc, (Builtin.copy_ #[(ρ.t 24), (ρ.t 24)] ty #[.slice (some ⟨w.heap.size, i * sz, none⟩) (n + m - i) dc, .slice (some ⟨vb, voff, none⟩) m vc]).run P W = .ok (goInt m) (W.setCells w.heap.size (i * sz) vs) := fun W hWc hWf ty dc => by
  have hmin : Nat.min m (n + m - i) = m := by simp only [Nat.min_def]; split <;> omega
  have := ZfD (P := P) W (ρ.t 24) (ρ.t 24) ty (ρ.t 9) w.heap.size (i * sz) (n + m - i) dc ⟨vb, voff, none⟩ m vc vs L.t24 hsz (by rw [hvl, hmin])
   (fun j v hj => by rw [Addr.add_lit, hWc]; exact hOv _ v (hvs j v hj))
   (fun j hj => by rw [hWc]; exact hN _ (by omega)) (fun j hj => by rw [hWf]; exact hNf _) h1v
  rwa [hmin] at this
 have hGi : ¬ (G = i) := by omega
 have hGim : ¬ (G = i + m) := by omega
 have hci : ¬ (c = i) := by omega
 have hbN : b ≠ w.heap.size := by omega
 have hdl : (cs.drop (i * sz)).length = n * sz - i * sz := by rw [List.length_drop, hcl]
 have hcpB : ∀ (W : World), (∀ x, W.cell? x = (W1.setCells w.heap.size (i * sz) vs).cell? x) → (∀ x, W.frozen? x = (W1.setCells w.heap.size (i * sz) vs).frozen? x) → ∀ ty dc sc, (Builtin.copy_ #[(ρ.t 24), (ρ.t 24)] ty #[.slice (some ⟨w.heap.size, i * sz + m * sz, none⟩) (n + m - (i + m)) dc, .slice (some ⟨b, off + i * sz, none⟩) (n - i) sc]).run P W = .ok (goInt ((n - i : Nat) : Int)) (W.setCells w.heap.size (i * sz + m * sz) (cs.drop (i * sz))) := fun W hWc hWf ty dc sc => by
  have hmin : Nat.min (n - i) (n + m - (i + m)) = n - i := by simp only [Nat.min_def]; split <;> omega
  have := ZfD (P := P) W (ρ.t 24) (ρ.t 24) ty (ρ.t 9) w.heap.size (i * sz + m * sz) (n + m - (i + m)) dc ⟨b, off + i * sz, none⟩ (n - i) sc (cs.drop (i * sz)) L.t24 hsz (by rw [hdl, hmin, hsub])
   (fun j v hj => by
    rw [Addr.add_lit, hWc, World.cell?_setCells_out _ _ _ _ _ (fun h _ => absurd h hbN), Nat.add_assoc]
    exact hOb _ v (hcs (i * sz + j) v (by rwa [List.getElem?_drop] at hj)))
   (fun j hj => by rw [hWc]; exact isSome_setCells _ _ _ _ (fun t ht => hN _ (by omega)) _ (hN _ (by omega)))
   (fun j hj => by rw [hWf, World.frozen?_setCells]; exact hNf _) (fun v hv => h1c v (List.mem_of_mem_drop hv))
  rwa [hmin] at this
 subst hW1
 have hE1 : ∀ x, ((w.alloc (.cells ROW (ρ.t 9))).drew).cell? x = (w.drew.alloc (.cells ROW (ρ.t 9))).cell? x := fun x => rfl
 have hE2 : ∀ x, ((w.alloc (.cells ROW (ρ.t 9))).drew).frozen? x = (w.drew.alloc (.cells ROW (ρ.t 9))).frozen? x := fun x => rfl
 have hF1 : ∀ x, (((w.alloc (.cells ROW (ρ.t 9))).drew.setCells w.heap.size (i * sz) vs).drew).cell? x = ((w.drew.alloc (.cells ROW (ρ.t 9))).setCells w.heap.size (i * sz) vs).cell? x := fun x => rfl
 have hF2 : ∀ x, (((w.alloc (.cells ROW (ρ.t 9))).drew.setCells w.heap.size (i * sz) vs).drew).frozen? x = ((w.drew.alloc (.cells ROW (ρ.t 9))).setCells w.heap.size (i * sz) vs).frozen? x := fun x => rfl
 have hw1 : IntKind.i64.wrap ((i : Int) + (m : Int)) = (i : Int) + (m : Int) := by rw [IntKind.wrap_i64]; omega
 have hb1 : (0 : Int) ≤ (i : Int) + (m : Int) := by omega
 have hin : i ≤ n := by omega
 have htn : ((i : Int) + (m : Int)).toNat = i + m := by omega
 have hb3 : (i : Int) ≤ (n : Int) := by omega
 clear hkk hik hold hROW hG hRl
 have FG := L.f22
 rw [← hAC] at hcpB ⊢
 go_enter FG, Body2.n22_ntmps ρ
 go_wp2_with (first
  | (at_builtin; refine Lib.wpList_append_run _ rfl _ _ _ _ rfl _ _ rfl rfl _ _ (hrz _) ?_)
  | (at_builtin; refine wpList_copy_runI _ rfl _ _ (ρ.t 24) (ρ.t 24) rfl _ _ rfl rfl (hcpA _ hE1 hE2 _ _) ?_)
  | (at_builtin; refine wpList_copy_runI _ rfl _ _ (ρ.t 24) (ρ.t 24) rfl _ _ rfl rfl (hcpB _ (fun _ => rfl) (fun _ => rfl) _ _ _) ?_))
 go_region_law_o (refine step_copy_runI rfl _ _ (ρ.t 24) (ρ.t 24) rfl (.slice (some ⟨w.heap.size, (i + m) * sz, none⟩) (n + m - (i + m)) (G - (i + m))) (.slice (some ⟨b, off + i * sz, none⟩) (n - i) (c - i)) (by simp [Act.eval, Act.put]) (by simp [Act.eval, Act.put]) (hcpB _ hF1 hF2 (ρ.t 3) (G - (i + m)) (c - i)) ?_)
 go_wp2
 go_ret
 exact ⟨rfl, by rw [hAC]⟩
theorem ZtS (L : InsLay P ρ nm sz bytes z) (base : Option Addr) (n c : Nat) (va : Addr) (m vc : Nat) (w w1 : World) (r : Value) (hm : 0 < m) (hnc : n ≤ c) (hbase : base = none → n = 0)
  (hrun : ∀ ty, (Builtin.append_ #[(ρ.t 24), (ρ.t 24)] ty #[.slice base n c, .slice (some va) m vc]).run P w = .ok r w1) :
  Calls P (ρ.f 22) #[.slice base n c, .int .i64 n, .slice (some va) m vc] w fun e w' => e = .returned r ∧ w' = w1 := by
 have t0 := L.t0; have a0 := L.a0; have z0 := L.z0; have v0 := L.v0; have t3 := L.t3; have a3 := L.a3; have z3 := L.z3; have v3 := L.v3; have t4 := L.t4; have a4 := L.a4; have z4 := L.z4; have v4 := L.v4; have z9 := L.z9; have t24 := L.t24; have a24 := L.a24; have z24 := L.z24; have v24 := L.v24
 have u0 := run_underlying L.t0; have u3 := run_underlying L.t3; have u4 := run_underlying L.t4; have u24 := run_underlying L.t24
 have mixed := L.mixed
 have hz1 : ¬ ((m : Int) = 0) := by omega
 have FG := L.f22
 go_enter FG, Body2.n22_ntmps ρ
 cases base with
 | none =>
  have h0 := hbase rfl
  subst h0
  go_wp2_with (at_builtin; refine Lib.wpList_append_run _ rfl _ _ _ _ rfl _ _ rfl rfl _ _ (hrun _) ?_)
  go_ret
  exact ⟨rfl, rfl⟩
 | some a =>
  obtain ⟨ab, ao, asp⟩ := a
  go_wp2_with (at_builtin; refine Lib.wpList_append_run _ rfl _ _ _ _ rfl _ _ rfl rfl _ _ (hrun _) ?_)
  all_goals (go_ret; exact ⟨rfl, rfl⟩)
end
theorem ZeA (P : Program) {w : World} {b : Nat} {cur : Array Value} {te : TypeId} (h : w.heap[b]? = some (.cells cur te (0, 0))) (o : Nat) (vs : List Value) (hl : o + vs.length ≤ cur.size) (h1 : ∀ v ∈ vs, v.oneCell' = true) :
  w.setCells b o vs = w.setRow b (cur.toList.take o ++ vs ++ cur.toList.drop (o + vs.length)).toArray := by
 have e1 := run_storeCells_at P b o te vs 0 cur w h (by simpa using hl) h1
 have e2 := run_storeCells_cells (P := P) b o vs 0 w (fun j hj => by rw [cell_of_row w b _ cur te _ h, Array.getElem?_eq_getElem (by omega)]; rfl) (fun j hj => by simp [World.frozen?, h]) h1
 simp only [Nat.add_zero] at e1 e2
 rw [e1] at e2
 injection e2 with _ q
 exact q.symm
theorem Zmc (w : World) (c c' : Array Value) (te : TypeId) : (w.alloc (.cells c te)).setRow w.heap.size c' = w.alloc (.cells c' te) := by
 unfold World.setRow World.alloc
 congr 1
 apply Array.ext
 ·
  simp
 ·
  intro i h1 h2
  simp only [Array.getElem_modify]
  split
  ·
   subst i; simp
  ·
   rename_i hne
   have hlt : i < w.heap.size := by
    have : i < w.heap.size + 1 := by simpa using h2
    omega
   rw [Array.getElem_push_lt hlt, Array.getElem_push_lt hlt]
theorem Zr3 {α : Type} (A V : List α) (i n m : Nat) (hi : i ≤ n) (hA : n + m ≤ A.length) (hV : V.length = m) :
  (A.take (i + m) ++ (A.take n).drop i ++ A.drop (n + m)).take i ++ V ++ (A.take (i + m) ++ (A.take n).drop i ++ A.drop (n + m)).drop (i + m) = A.take i ++ V ++ (A.take n).drop i ++ A.drop (n + m) := by
 have e : (A.take (i + m)).length = i + m := by rw [List.length_take]; omega
 rw [List.append_assoc (A.take (i + m)), List.take_append_of_le_length (by omega), List.take_take, Nat.min_eq_left (by omega), List.drop_append_of_le_length (by omega), List.drop_of_length_le (by omega), List.nil_append]
 simp only [List.append_assoc]
section
variable {P : Program} {w0 : World} {ρ : Ren} {nm : String} {sz bytes : Nat} {z : Value} {st : St} {M : Mem} {w : World}
theorem ZyM {A V rest : List Value} {cs Y : List AV} {i n m : Nat} (hi : i ≤ n) (hA : n ≤ A.length) (hc : cs.length = n) (hV : V.length = m) (hY : Y.length = m) (ha : ∀ (j : Nat) (v : Value) (x : AV), A[j]? = some v → cs[j]? = some x → R w0 M w v x) (hv : ∀ (j : Nat) (v : Value) (x : AV), V[j]? = some v → Y[j]? = some x → R w0 M w v x) :
  ∀ (j : Nat) (v : Value) (x : AV), (A.take i ++ V ++ (A.take n).drop i ++ rest)[j]? = some v → (cs.take i ++ Y ++ cs.drop i)[j]? = some x → R w0 M w v x := by
 intro j v x h1 h2
 have l1 : (A.take i).length = i := by rw [List.length_take]; omega
 have l2 : (cs.take i).length = i := by rw [List.length_take]; omega
 have l3 : ((A.take n).drop i).length = n - i := by rw [List.length_drop, List.length_take]; omega
 simp only [List.append_assoc] at h1 h2
 by_cases q : j < i
 ·
  rw [List.getElem?_append_left (by omega), List.getElem?_take, if_pos q] at h1 h2
  exact ha j v x h1 h2
 rw [List.getElem?_append_right (by omega), l1] at h1
 rw [List.getElem?_append_right (by omega), l2] at h2
 by_cases q2 : j - i < m
 ·
  rw [List.getElem?_append_left (by omega)] at h1 h2
  exact hv _ v x h1 h2
 rw [List.getElem?_append_right (by omega), hV] at h1
 rw [List.getElem?_append_right (by omega), hY, List.getElem?_drop] at h2
 have hlt := (List.getElem?_eq_some_iff.1 h2).1
 rw [List.getElem?_append_left (by omega), List.getElem?_drop, List.getElem?_take, if_pos (by omega)] at h1
 exact ha _ v x h1 h2
theorem Zov (L : InsLay P ρ nm sz bytes z) (hzc : z.cells.size = sz) (h0 : 0 < sz) {id ver n i : Nat} {cs ys : List AV} {ow : Own} (hrow : st.rows[id]? = some (.vec ver sz cs)) (hcs : cs.length = n * sz) (hi : i < n) (hm : 0 < ys.length)
  (hx : ∀ y ∈ ys, y.cells.length = sz ∧ ZaE y = true) (hb : (n + ys.length) * bytes ≤ 140737488355328) (hb2 : n + ys.length ≤ 4611686018427387904) {v0 vx : Value} (hst : RelSt w0 M st w) (hv0 : R w0 M w v0 (.vec id ver 0 n)) (hvx : R w0 M w vx (.list ys ow)) :
  Calls P (ρ.f 22) #[v0, .int .i64 i, vx] w (Comes' w0 M w fun r s => r = .vec id (ver + 1) 0 (n + ys.length) ∧ s = { st with rows := st.rows.set id (.vec (ver + 1) sz (cs.take (i * sz) ++ ys.flatMap (fun y => y.pub.cells) ++ cs.drop (i * sz))) }) := by
 have hidN : id < M.NR := by rw [hst.NR]; exact (List.getElem?_eq_some_iff.1 hrow).1
 obtain ⟨f1, f2, f3, f4, f5, f6, f7, cur, te, f8, f9, f10, f11, f12⟩ := hst.row id _ hrow
 cases hv0 with
 | @vec _ _ _ _ p cap hid' hver hh =>
 obtain ⟨rfl, hcap, hnc⟩ := hh f1.symm
 simp only [Nat.add_zero, Nat.zero_mul] at hcap ⊢
 subst hcap
 have himm0 : ∀ (b o c : Nat), vx = .slice (some ⟨b, o, none⟩) ys.length c → M.imm w0 b o := by
  cases hvx with
  | nil _ => simp at hm
  | emp _ => simp at hm
  | @list b0 off0 cap0 _ _ sz2 us hc hm' hcell hu ho =>
   intro b o c e
   have e0 := (hcell 0 hm).1
   have e1 := (hu 0 hm).cells.1
   have e2 := (hx _ (List.getElem_mem hm)).1
   have := ((hcell 0 hm).2 0 (by omega)).1
   cases e
   simpa using this
 obtain ⟨ux, x1, x2⟩ := hvx.list_open (fun y hy => (hx y hy).1)
 have x1' : ∀ i, i < ys.length → (ux i).cells.size = sz := fun i hi => (x1 i hi).1
 rcases x2 with ⟨_, q, _⟩ | ⟨bx, ox, cx', sz', rfl, hxc, hxm, _, hcx⟩
 ·
  subst q; simp at hm
 have himm : M.imm w0 bx ox := himm0 bx ox cx' rfl
 have hne : bx ≠ M.blk id := by
  intro q
  rcases himm with k | k
  ·
   rw [q] at k; omega
  ·
   rw [q, f4] at k; omega
 have hnew := Zcx (w := w) x1' h0 hcx
 have hvl : (flat ux ys.length).length = ys.length * sz := Zar x1'
 have hYl : (ys.flatMap fun y => y.pub.cells).length = ys.length * sz := Zf7 (fun y hy => (hx y hy).1)
 have hYone := Zm3 (fun i hi => (x1 i hi).2) (fun y hy => (hx y hy).2)
 have hV1 : ∀ v ∈ flat ux ys.length, v.oneCell' = true := ZkN x1 (fun y hy => (hx y hy).2)
 have hle : i * sz ≤ n * sz := Nat.mul_le_mul_right _ (by omega)
 have hncap : n * sz ≤ cur.size := by rw [f9]; exact Nat.mul_le_mul_right _ hnc
 have hposm : 0 < ys.length * sz := Nat.mul_pos hm h0
 have hposn : 0 < n * sz := Nat.mul_pos (by omega) h0
 have hclen : (cur.toList.take (n * sz)).length = n * sz := by simp; omega
 have hcone : ∀ v ∈ cur.toList.take (n * sz), v.oneCell' = true := by
  intro v hv
  obtain ⟨k, hk, rfl⟩ := List.mem_iff_getElem.1 hv
  rw [hclen] at hk
  rw [List.getElem_take, Array.getElem_toList]
  exact (f12 k (by omega) (by omega)).oneCell (f11 _ (List.getElem_mem _))
 have hcell : ∀ j v, (cur.toList.take (n * sz))[j]? = some v → w.cell? ⟨M.blk id, 0 + j, none⟩ = some v := by
  intro j u hj
  rw [List.getElem?_take] at hj
  split at hj
  ·
   rw [Nat.zero_add, cell_of_row w _ j cur te _ f8, ← Array.getElem?_toList]; exact hj
  ·
   cases hj
 have hvs : ∀ j v, (flat ux ys.length)[j]? = some v → w.cell? ⟨bx, ox + j, none⟩ = some v := fun j v hj => by
  have := hnew j v hj
  rwa [ZbZ] at this
 have hone : ∀ x ∈ cs.take (i * sz) ++ ys.flatMap (fun y => y.pub.cells) ++ cs.drop (i * sz), x.one = true := by
  intro x hx
  rcases List.mem_append.1 hx with hx | hx
  ·
   rcases List.mem_append.1 hx with hx | hx
   ·
    exact f11 x (List.mem_of_mem_take hx)
   ·
    exact hYone x hx
  ·
   exact f11 x (List.mem_of_mem_drop hx)
 have hNM : (n + ys.length) * sz = n * sz + ys.length * sz := Nat.add_mul ..
 have hcl : (cs.take (i * sz) ++ ys.flatMap (fun y => y.pub.cells) ++ cs.drop (i * sz)).length = (n + ys.length) * sz := by
  rw [List.length_append, List.length_append, hYl, List.length_take, List.length_drop, hNM]; omega
 have hcells : ∀ (cells : Array Value) (rest : List Value), cells.toList = cur.toList.take (i * sz) ++ flat ux ys.length ++ (cur.toList.take (n * sz)).drop (i * sz) ++ rest → ∀ (k : Nat) (v : Value) (x : AV), cells[k]? = some v → (cs.take (i * sz) ++ ys.flatMap (fun y => y.pub.cells) ++ cs.drop (i * sz))[k]? = some x → R w0 M w v x := by
  intro cells rest hcl' k v x hv' hx'
  rw [← Array.getElem?_toList, hcl'] at hv'
  refine ZyM (A := cur.toList) (rest := rest) hle (by simpa using hncap) hcs hvl hYl (fun j v x h1 h2 => ?_) (fun j v x h1 h2 => Zxg h0 x1 (fun y hy => (hx y hy).1) h1 h2) k v x hv' hx'
  rw [Array.getElem?_toList] at h1
  obtain ⟨q1, rfl⟩ := Array.getElem?_eq_some_iff.1 h1
  obtain ⟨q2, rfl⟩ := List.getElem?_eq_some_iff.1 h2
  exact f12 j q1 q2
 obtain ⟨d1, d2⟩ := hst.drew
 by_cases hroom : n + ys.length ≤ M.cap id
 ·
  -- there is room
  have hfit : n * sz + ys.length * sz ≤ cur.size := by rw [f9, ← hNM]; exact Nat.mul_le_mul_right _ hroom
  have hsh : ∃ tA kA, w.shape? bx = some (tA, kA) ∧ kA ≠ 0 := by
   have := hvs 0 _ (List.getElem?_eq_getElem (by omega))
   unfold World.cell? at this
   unfold World.shape?
   cases hq : w.heap[bx]? with
   | none => simp [hq] at this
   | some o =>
    cases o with
    | cells c t f =>
     refine ⟨_, _, rfl, fun q => ?_⟩
     simp [hq] at this
     have := (Array.getElem?_eq_some_iff.1 this).1
     omega
    | _ => simp [hq] at this
  obtain ⟨tA, kA, hsa, hkA⟩ := hsh
  refine (ZpT L (M.blk id) 0 n (M.cap id) i bx ox ys.length cx' (cur.toList.take (n * sz)) (flat ux ys.length) w hi hm hroom (by unfold maxLen at f6; omega) hne hclen hvl hcell
   (fun j hj => by rw [Nat.zero_add, cell_of_row w _ j cur te _ f8, Array.getElem?_eq_getElem (by omega)]; rfl) (fun j hj => by simp [World.frozen?, f8]) hvs hcone hV1 tA te kA cur.size hsa (by simp [World.shape?, f8]) hkA (by omega) (fun j => by simp [World.frozen?, f8])).mono ?_
  rintro en w' ⟨rfl, rfl⟩
  have hw0 : w.drew.heap[M.blk id]? = some (.cells cur te (0, 0)) := f8
  have hdl : ((cur.toList.take (n * sz)).drop (i * sz)).length = n * sz - i * sz := by rw [List.length_drop, hclen]
  rw [ZeA P hw0 _ _ (by rw [hdl]; omega) (fun v hv => hcone v (List.mem_of_mem_drop hv))]
  have hw1 := setRow_heap w.drew (M.blk id) cur (cur.toList.take (0 + (i * sz + ys.length * sz)) ++ (cur.toList.take (n * sz)).drop (i * sz) ++ cur.toList.drop (0 + (i * sz + ys.length * sz) + ((cur.toList.take (n * sz)).drop (i * sz)).length)).toArray te _ hw0
  rw [ZeA P hw1 _ _ (by simp only [List.size_toArray, List.length_append, List.length_take, List.length_drop, Array.length_toList]; omega) hV1, setRow_setRow]
  have hL := Zr3 cur.toList (flat ux ys.length) (i * sz) (n * sz) (ys.length * sz) hle (by simpa using hfit) hvl
  have e1 : 0 + (i * sz + ys.length * sz) + ((cur.toList.take (n * sz)).drop (i * sz)).length = n * sz + ys.length * sz := by rw [hdl]; omega
  have e2 : 0 + i * sz + (flat ux ys.length).length = i * sz + ys.length * sz := by rw [hvl]; omega
  rw [e2, e1]
  simp only [Nat.zero_add]
  rw [hL]
  generalize hc' : (cur.toList.take (i * sz) ++ flat ux ys.length ++ (cur.toList.take (n * sz)).drop (i * sz) ++ cur.toList.drop (n * sz + ys.length * sz)).toArray = cur'
  have hsz' : cur'.size = cur.size := by rw [← hc']; simp only [List.size_toArray, List.length_append, List.length_take, List.length_drop, Array.length_toList, hvl]; omega
  have hext : Ext w0 M w.drew (M.growRow id (M.blk id) (M.cap id) (ver + 1) 0) (w.drew.setRow (M.blk id) cur') := by
   refine Ze1 (M := M) (M.growRow id (M.blk id) (M.cap id) (ver + 1) 0) rfl (fun _ _ => rfl) rfl (fun i hi => ?_) (fun b => ?_) hw0 f3 (fun j hj => by rw [f4] at hj; omega)
   ·
    by_cases c : i = id
    ·
     subst c
     simp only [Mem.growRow, if_true, f1]
     exact ⟨by omega, fun q => absurd q (by omega)⟩
    ·
     simp only [Mem.growRow, if_neg c]
     exact ⟨Nat.le_refl _, fun _ => ⟨trivial, trivial, trivial⟩⟩
   ·
    simp only [Mem.growRow]
    split
    ·
     rename_i c
     rw [c, f4]
     exact Nat.le_refl _
    ·
     exact Nat.le_refl _
  have hblt := hst.row_lt hidN
  have q : (M.growRow id (M.blk id) (M.cap id) (ver + 1) 0).fr id = ver + 1 ∧ (M.growRow id (M.blk id) (M.cap id) (ver + 1) 0).blk id = M.blk id ∧ (M.growRow id (M.blk id) (M.cap id) (ver + 1) 0).cap id = M.cap id ∧ (M.growRow id (M.blk id) (M.cap id) (ver + 1) 0).rsz id = M.rsz id ∧ (M.growRow id (M.blk id) (M.cap id) (ver + 1) 0).top (M.blk id) = 0 := by simp [Mem.growRow]
  obtain ⟨q1, q2, q3, q4, q5⟩ := q
  have hst' := d1.growRow' hrow (x := .vec (ver + 1) sz (cs.take (i * sz) ++ ys.flatMap (fun y => y.pub.cells) ++ cs.drop (i * sz))) (w' := w.drew.setRow (M.blk id) cur') (b := M.blk id) (cap := M.cap id) (k := ver + 1) (tp := 0) (Below.setRow (Below.refl _ _) f3 _) (by simp) (by simpa using hblt)
   (fun l hl => ⟨f5 l hl, setRow_other w.drew _ _ _ (f5 l hl)⟩) (fun i hi hne => by
    have : M.blk i ≠ M.blk id := fun q => hne (hst.rowinj i id hi hidN q)
    exact ⟨this, setRow_other w.drew _ _ _ this⟩) (by
    simp only [RowOk, q1, q2, q3, q4, q5]
    exact ⟨trivial, f2, f3, trivial, f5, f6, h0, cur', te, setRow_heap w.drew _ cur cur' te _ hw0, hsz'.trans f9, by rw [hcl, hsz', f9]; exact Nat.mul_le_mul_right _ hroom, hone,
     fun i a b => ((hcells cur' _ (by rw [← hc']) i _ _ (Array.getElem?_eq_getElem a) (List.getElem?_eq_getElem b)).mono d2).mono hext⟩) hext (KeepsObj.setRow hw0 _)
  exact ⟨_, _, _, _, rfl, ⟨rfl, rfl⟩, d2.trans hext, hst', .vec hidN (by rw [q1]; exact Nat.le_refl _) fun _ => ⟨by rw [q2]; simp, by rw [q3]; rfl, hroom⟩⟩
 ·
  -- a new block
  refine (ZrD L hzc h0 (M.blk id) 0 n (M.cap id) i bx ox ys.length cx' (cur.toList.take (n * sz)) (flat ux ys.length) w hi hm hnc (by omega) hb hb2 hclen hvl hcell hvs hcone hV1).mono ?_
  rintro en w' ⟨rfl, rfl⟩
  have hneed : n + ys.length ≤ maxLen := by simp [maxLen]; omega
  have hge := grownCap_ge w (n + ys.length) (M.cap id) (ρ.t 9)
  have hle' := grownCap_le_maxLen w (n + ys.length) (M.cap id) (ρ.t 9) hneed
  generalize grownCap w (n + ys.length) (M.cap id) (ρ.t 9) = gc at *
  generalize hROW : ((cur.toList.take (n * sz)).take (i * sz)).toArray ++ Builtin.zeroCells z.cells (n + ys.length - i) ++ Builtin.zeroCells z.cells (gc - (n + ys.length)) = ROW
  have hsplit : (n + ys.length - i) * sz = n * sz + ys.length * sz - i * sz := by rw [Nat.sub_mul, hNM]
  have hgs : (gc - (n + ys.length)) * sz = gc * sz - (n * sz + ys.length * sz) := by rw [Nat.sub_mul, hNM]
  have hgl : n * sz + ys.length * sz ≤ gc * sz := by rw [← hNM]; exact Nat.mul_le_mul_right _ hge
  have hRs : ROW.size = gc * sz := by
   rw [← hROW]
   simp only [Array.size_append, List.size_toArray, List.length_take, size_zeroCells, hzc, Array.length_toList]
   omega
  have hdl : ((cur.toList.take (n * sz)).drop (i * sz)).length = n * sz - i * sz := by rw [List.length_drop, hclen]
  have hX : (w.alloc (.cells ROW (ρ.t 9))).drew.heap[w.heap.size]? = some (.cells ROW (ρ.t 9) (0, 0)) := heap_alloc_new w _
  rw [ZeA P hX _ _ (by rw [hvl, hRs]; omega) hV1]
  have hX1 := setRow_heap (w.alloc (.cells ROW (ρ.t 9))).drew w.heap.size ROW (ROW.toList.take (i * sz) ++ flat ux ys.length ++ ROW.toList.drop (i * sz + (flat ux ys.length).length)).toArray (ρ.t 9) _ hX
  generalize hc1 : (ROW.toList.take (i * sz) ++ flat ux ys.length ++ ROW.toList.drop (i * sz + (flat ux ys.length).length)).toArray = c1 at hX1 ⊢
  have hX2 : ((w.alloc (.cells ROW (ρ.t 9))).drew.setRow w.heap.size c1).drew.heap[w.heap.size]? = some (.cells c1 (ρ.t 9) (0, 0)) := hX1
  have hc1s : c1.size = gc * sz := by
   rw [← hc1]
   simp only [List.size_toArray, List.length_append, List.length_take, List.length_drop, Array.length_toList, hvl, hRs]
   omega
  rw [ZeA P hX2 _ _ (by rw [hdl, hc1s]; omega) (fun v hv => hcone v (List.mem_of_mem_drop hv))]
  generalize hc2 : (c1.toList.take (i * sz + ys.length * sz) ++ (cur.toList.take (n * sz)).drop (i * sz) ++ c1.toList.drop (i * sz + ys.length * sz + ((cur.toList.take (n * sz)).drop (i * sz)).length)).toArray = cells
  have hW : (((w.alloc (.cells ROW (ρ.t 9))).drew.setRow w.heap.size c1).drew).setRow w.heap.size cells = w.drew.drew.alloc (.cells cells (ρ.t 9)) := by
   have a1 : ((w.alloc (.cells ROW (ρ.t 9))).drew.setRow w.heap.size c1).drew = (w.drew.drew.alloc (.cells ROW (ρ.t 9))).setRow w.heap.size c1 := rfl
   rw [a1, setRow_setRow]
   exact Zmc w.drew.drew ROW cells (ρ.t 9)
  rw [hW]
  have hsize : cells.size = gc * sz := by
   rw [← hc2]
   simp only [List.size_toArray, List.length_append, List.length_take, List.length_drop, Array.length_toList, hdl, hc1s]
   omega
  have hcurl : (cur.toList.take (n * sz)).take (i * sz) = cur.toList.take (i * sz) := by rw [List.take_take, Nat.min_eq_left hle]
  have hcil : (cur.toList.take (i * sz)).length = i * sz := by simp; omega
  have hRt : ROW.toList.take (i * sz) = cur.toList.take (i * sz) := by
   rw [← hROW, hcurl]
   simp only [Array.toList_append, List.append_assoc]
   rw [List.take_append_of_le_length (by omega), List.take_of_length_le (by omega)]
  have hclist : cells.toList = cur.toList.take (i * sz) ++ flat ux ys.length ++ (cur.toList.take (n * sz)).drop (i * sz) ++ c1.toList.drop (i * sz + ys.length * sz + ((cur.toList.take (n * sz)).drop (i * sz)).length) := by
   have e : c1.toList.take (i * sz + ys.length * sz) = cur.toList.take (i * sz) ++ flat ux ys.length := by
    rw [← hc1, hRt]
    simp only [List.append_assoc]
    rw [← List.append_assoc, List.take_append_of_le_length (by rw [List.length_append, hvl]; omega), List.take_of_length_le (by rw [List.length_append, hvl]; omega)]
   rw [← hc2, ← e]
  obtain ⟨dd1, dd2⟩ := d1.drew
  have hext : Ext w0 M w.drew.drew (M.growRow id w.drew.drew.heap.size gc (ver + 1) 0) (w.drew.drew.alloc (.cells cells (ρ.t 9))) := by
   refine ZhX _ _ (.inl rfl) (fun _ _ => rfl) (Nat.le_refl _) (fun i hi => ?_) (fun b hb => ?_)
   ·
    by_cases c : i = id
    ·
     subst c
     simp only [Mem.growRow, if_true, f1]
     exact ⟨by omega, fun q => absurd q (by omega)⟩
    ·
     simp only [Mem.growRow, if_neg c]
     exact ⟨Nat.le_refl _, fun _ => ⟨trivial, trivial, trivial⟩⟩
   ·
    simp only [Mem.growRow]
    rw [if_neg (by omega)]
    exact Nat.le_refl _
  have q : (M.growRow id w.drew.drew.heap.size gc (ver + 1) 0).fr id = ver + 1 ∧ (M.growRow id w.drew.drew.heap.size gc (ver + 1) 0).blk id = w.drew.drew.heap.size ∧ (M.growRow id w.drew.drew.heap.size gc (ver + 1) 0).cap id = gc ∧ (M.growRow id w.drew.drew.heap.size gc (ver + 1) 0).rsz id = M.rsz id ∧ (M.growRow id w.drew.drew.heap.size gc (ver + 1) 0).top w.drew.drew.heap.size = 0 := by simp [Mem.growRow]
  obtain ⟨q1, q2, q3, q4, q5⟩ := q
  have hbne : ∀ l, l < M.N → M.bx l ≠ w.drew.drew.heap.size := fun l hl => by have := hst.box_lt hl; intro q; simp at q; omega
  have hst' := dd1.growRow' hrow (x := .vec (ver + 1) sz (cs.take (i * sz) ++ ys.flatMap (fun y => y.pub.cells) ++ cs.drop (i * sz))) (w' := w.drew.drew.alloc (.cells cells (ρ.t 9))) (b := w.drew.drew.heap.size) (cap := gc) (k := ver + 1) (tp := 0) ((Below.refl _ w.drew.drew).alloc hst.base_le _) (by simp) (by simp)
   (fun l hl => by have := hst.box_lt hl; exact ⟨hbne l hl, ZaI _ _ this⟩) (fun i hi hne => by have := hst.row_lt hi; exact ⟨fun q => by simp at q; omega, ZaI _ _ this⟩) (by
    simp only [RowOk, q1, q2, q3, q4, q5]
    exact ⟨trivial, f2, hst.base_le, trivial, hbne, hle', h0, cells, ρ.t 9, heap_alloc_new w.drew.drew _, hsize, by rw [hcl, hsize]; exact Nat.mul_le_mul_right _ hge, hone,
     fun i a b => (((hcells cells _ hclist i _ _ (Array.getElem?_eq_getElem a) (List.getElem?_eq_getElem b)).mono d2).mono dd2).mono hext⟩) hext (KeepsObj.alloc _ _)
  exact ⟨_, _, _, _, rfl, ⟨rfl, rfl⟩, (d2.trans dd2).trans hext, hst', .vec hidN (by rw [q1]; exact Nat.le_refl _) fun _ => ⟨by rw [q2]; simp, by rw [q3]; rfl, hge⟩⟩
theorem Zmt {t el : TypeId} {ag : Bool} {o : VO} {n : Nat} {cs ys : List AV} {ow : Own} (he : elT P t = some (el, sz, ag, bytes)) (hz : (ZbK P el).isSome = true) (h0 : 0 < sz) (hV : VAt 0 st.rows (o, sz, cs)) (hcs : cs.length = n * sz) (hm : 0 < ys.length)
  (hx : ∀ y ∈ ys, y.cells.length = sz ∧ ZaE y = true) (hb : (n + ys.length) * bytes ≤ 140737488355328) (hb2 : n + ys.length ≤ 4611686018427387904) :
  (ZaK P st t (hdr o n) (.list ys ow)).1 ∧ (ZaK P st t (hdr o n) (.list ys ow)).2.1 = hdr (Zjm o st.rows) (n + ys.length) ∧ (ZaK P st t (hdr o n) (.list ys ow)).2.2 = { st with rows := Zkq o st.rows sz (cs ++ ys.flatMap fun y => y.pub.cells) } := by
 cases o with
 | nil =>
  rcases hV with ⟨_, q⟩ | ⟨id, ver, q, _⟩
  ·
   have q : cs = [] := q
   subst q
   have en : n = 0 := by
    rcases Nat.eq_zero_or_pos n with k | k
    ·
     exact k
    ·
     have := Nat.mul_pos k h0
     simp at hcs; omega
   subst en
   rw [Nat.zero_add] at hb hb2
   simp only [hdr, ZaK, he, Zaz, Zbe, Zbb, hz, Zjm, Zkq, List.length_nil, List.nil_append, Nat.zero_add, true_and, and_true]
   exact ⟨⟨h0, hb, hb2, hx⟩, hm⟩
  ·
   cases q
 | row id ver =>
  rcases hV with ⟨q, _⟩ | ⟨id', ver', q, _, q3⟩
  ·
   cases q
  ·
   cases q
   have hv : Zeb st.rows id ver = some (sz, cs) := by
    have q3 : st.rows[id]? = some (.vec ver sz cs) := q3
    simp only [Zeb, q3, if_true]
   have et : cs.take (n * sz) = cs := List.take_of_length_le (by omega)
   simp only [hdr, ZaK, he, hv, Zaz, Zbe, Zbb, hz, Zjm, Zkq, et, Nat.le_of_eq hcs.symm, true_and, and_true]
   exact ⟨h0, hb, hb2, hx⟩
theorem Zn9 (L : InsLay P ρ nm sz bytes z) (hen : ZfU P (ρ.f 22)) {ag : Bool} (he : elT P (ρ.t 24) = some (ρ.t 9, sz, ag, bytes)) (hz : (ZbK P (ρ.t 9)).isSome = true) (hzc : z.cells.size = sz) (h0 : 0 < sz) {o : VO} {n i : Nat} {cs ys : List AV} {ow : Own}
  (hV : VAt 0 st.rows (o, sz, cs)) (hcs : cs.length = n * sz) (hi : i ≤ n) (hm : 0 < ys.length)
  (hx : ∀ y ∈ ys, y.cells.length = sz ∧ ZaE y = true) (hb : (n + ys.length) * bytes ≤ 140737488355328) (hb2 : n + ys.length ≤ 4611686018427387904) :
  ACalls P w0 (ρ.f 22) [hdr o n, .val (.int .i64 i), .list ys ow] st fun r s => r = hdr (Zjm o st.rows) (n + ys.length) ∧ s = { st with rows := Zkq o st.rows sz (cs.take (i * sz) ++ ys.flatMap (fun y => y.pub.cells) ++ cs.drop (i * sz)) } := by
 refine ⟨hen, fun M w vals hst hrow => ?_⟩
 obtain ⟨v0, v1, vx, rfl⟩ : ∃ v0 v1 vx, vals = #[v0, v1, vx] := by
  have := hrow.1
  simp only [List.length_cons, List.length_nil] at this
  obtain ⟨l⟩ := vals
  match l, this with
  | [a, b, c], _ => exact ⟨a, b, c, rfl⟩
 have hv0 : R w0 M w v0 (hdr o n) := hrow.2 0 (by simp) (by simp)
 have hv1 : R w0 M w v1 (.val (.int .i64 i)) := hrow.2 1 (by simp) (by simp)
 have hvx : R w0 M w vx (.list ys ow) := hrow.2 2 (by simp) (by simp)
 obtain ⟨rfl, _⟩ := hv1.val_inv
 by_cases hin : i < n
 ·
  -- in the middle
  cases o with
  | nil =>
   rcases hV with ⟨_, q⟩ | ⟨id, ver, q, _⟩
   ·
    have q : cs = [] := q
    rw [q] at hcs
    have := Nat.mul_pos (show 0 < n by omega) h0
    simp at hcs; omega
   ·
    cases q
  | row id ver =>
   rcases hV with ⟨q, _⟩ | ⟨id', ver', q, _, q3⟩
   ·
    cases q
   ·
    cases q
    exact Zov L hzc h0 q3 hcs hin hm hx hb hb2 hst hv0 hvx
 ·
  have hin : i = n := by omega
  subst hin
  -- at the end: as append
  obtain ⟨g1, g2, g3⟩ := Zmt (st := st) (ow := ow) he hz h0 hV hcs hm hx hb hb2
  have hA : Rel w0 2 M [(0, true, hdr o i), (1, true, .list ys ow)] st ⟨#[v0, vx], []⟩ w := ⟨hst, rfl, fun s x hs => by
   simp only [Zdo] at hs
   split at hs
   ·
    subst s; cases hs; simpa [entryOk] using hv0
   ·
    split at hs
    ·
     subst s; cases hs; simpa [entryOk] using hvx
    ·
     cases hs⟩
  obtain ⟨v, w', M', h1, h2, h3, h4⟩ := ZlA hA (.tmp 0) (.tmp 1) (ρ.t 24) (ρ.t 24) (by simp [ZaD, Zdo]) (by simp [ZaD, Zdo]) g1
  have a0 : (⟨#[v0, vx], []⟩ : Act).eval (.tmp 0) = v0 := rfl
  have a1 : (⟨#[v0, vx], []⟩ : Act).eval (.tmp 1) = vx := rfl
  rw [a0, a1] at h1
  have g2' : (ZaK P st (ρ.t 24) (Zan [(0, true, hdr o i), (1, true, AV.list ys ow)] (.tmp 0)) (Zan [(0, true, hdr o i), (1, true, AV.list ys ow)] (.tmp 1))).2.1 = hdr (Zjm o st.rows) (i + ys.length) := g2
  have g3' : (ZaK P st (ρ.t 24) (Zan [(0, true, hdr o i), (1, true, AV.list ys ow)] (.tmp 0)) (Zan [(0, true, hdr o i), (1, true, AV.list ys ow)] (.tmp 1))).2.2 = { st with rows := Zkq o st.rows sz (cs ++ ys.flatMap fun y => y.pub.cells) } := g3
  rw [g3'] at h3
  rw [g2'] at h4
  have ht : cs.take (i * sz) = cs := List.take_of_length_le (by omega)
  have hd : cs.drop (i * sz) = [] := List.drop_of_length_le (by omega)
  rw [ht, hd, List.append_nil]
  have hrun : (Builtin.append_ #[ρ.t 24, ρ.t 24] (ρ.t 24) #[v0, vx]).run P w = .ok v w' := by
   cases hq : (Builtin.append_ #[ρ.t 24, ρ.t 24] (ρ.t 24) #[v0, vx]).run P w with
   | ok u w1 =>
    rcases h1 with h1 | ⟨h1, _⟩
    ·
     simp [hq] at h1
     rw [h1.1, h1.2]
    ·
     simp [hq] at h1
   | _ => rcases h1 with h1 | ⟨h1, _⟩ <;> simp [hq] at h1
  obtain ⟨ux, x1, x2⟩ := hvx.list_open (fun y hy => (hx y hy).1)
  rcases x2 with ⟨_, q, _⟩ | ⟨bx, ox, cx', sz', rfl, _⟩
  ·
   subst q; simp at hm
  have key : ∀ (base : Option Addr) (c : Nat), v0 = .slice base i c → i ≤ c → (base = none → i = 0) → Calls P (ρ.f 22) #[v0, .int .i64 i, .slice (some ⟨bx, ox, none⟩) ys.length cx'] w (Comes' w0 M w fun r s => r = hdr (Zjm o st.rows) (i + ys.length) ∧ s = { st with rows := Zkq o st.rows sz (cs ++ ys.flatMap fun y => y.pub.cells) }) := fun base c e hc hn => by
   subst e
   exact (ZtS L base i c ⟨bx, ox, none⟩ ys.length cx' w w' v hm hc hn (fun ty => hrun)).mono fun en w'' ⟨q1, q2⟩ => by
    subst q1; subst q2
    exact ⟨_, _, _, _, rfl, ⟨rfl, rfl⟩, h2, h3, h4⟩
  cases o with
  | nil =>
   have ez : i = 0 := by
    rcases hV with ⟨_, q⟩ | ⟨id, ver, q, _⟩
    ·
     have q : cs = [] := q
     rw [q] at hcs
     rcases Nat.eq_zero_or_pos i with k | k
     ·
      exact k
     ·
      have := Nat.mul_pos k h0
      simp at hcs; omega
    ·
     cases q
   subst ez
   have hv0' : R w0 M w v0 (.list [] .seed) := hv0
   cases hv0' with
   | nil _ => exact key none 0 rfl (Nat.le_refl _) (fun _ => rfl)
   | @emp a _ _ => exact key (some a) 0 rfl (Nat.le_refl _) (fun _ => rfl)
   | list sz us hc => exact key _ _ rfl (Nat.zero_le _) (fun _ => rfl)
  | row id ver =>
   rcases hV with ⟨q, _⟩ | ⟨id', ver', q, _, q3⟩
   ·
    cases q
   ·
    cases q
    have f1 := (hst.row id _ q3).1
    have hv0' : R w0 M w v0 (.vec id ver 0 i) := hv0
    cases hv0' with
    | @vec _ _ _ _ p cap hid' hver hh =>
     obtain ⟨rfl, _, hnc⟩ := hh f1.symm
     exact key _ _ rfl hnc (fun q => nomatch q)
end
def ZfQ : List Bool → List AV → List AV
 | b :: m, a :: l => (if b = true then a.pubA else a) :: ZfQ m l
 | [], l => l.map AV.pubA
 | _ :: _, [] => []
@[go_sem] theorem ZyE (m : List Bool) (a : AV) (l : List AV) : ZfQ (true :: m) (a :: l) = a.pubA :: ZfQ m l := rfl
@[go_sem] theorem ZyH (m : List Bool) (a : AV) (l : List AV) : ZfQ (false :: m) (a :: l) = a :: ZfQ m l := rfl
@[go_sem] theorem Zx2 (l : List AV) : ZfQ [] l = l.map AV.pubA := rfl
@[go_sem] theorem Zza (m : List Bool) : ZfQ m [] = [] := by cases m <;> rfl
theorem Zj2 : ∀ (m : List Bool) (l : List AV), (ZfQ m l).length = l.length ∧ ∀ (i : Nat) (h1 : i < (ZfQ m l).length) (h2 : i < l.length), (ZfQ m l)[i] = l[i] ∨ (ZfQ m l)[i] = l[i].pubA
 | [], l => ⟨by simp [ZfQ], fun i h1 h2 => .inr (by simp [ZfQ])⟩
 | b :: m, [] => ⟨rfl, fun i h1 h2 => absurd h2 (by simp)⟩
 | b :: m, a :: l => by
  obtain ⟨h1, h2⟩ := Zj2 m l
  refine ⟨by simp [ZfQ, h1], fun i k1 k2 => ?_⟩
  cases i with
  | zero => cases b with
   | true => exact .inr rfl
   | false => exact .inl rfl
  | succ i => exact h2 i (by simpa [ZfQ] using k1) (by simpa using k2)
section
variable {P : Program} {w0 : World} {st : St} {f : FuncId}
theorem ACalls.mask {m : List Bool} {args args' : List AV} {Post : AV → St → Prop} (h : ACalls P w0 f args' st Post) (he : ZfQ m args = args') : ACalls P w0 f args st Post := by
 subst he
 obtain ⟨h1, h2⟩ := Zj2 m args
 refine ⟨h.1, fun M w vals hst hrow => h.2 M w vals hst ?_⟩
 obtain ⟨hl, hr⟩ := hrow
 refine ⟨by rw [h1]; exact hl, fun i a b => ?_⟩
 have b' : i < args.length := by rw [← h1]; exact b
 rcases h2 i b b' with q | q
 ·
  rw [q]; exact hr i a b'
 ·
  rw [q]; exact (hr i a b').pubA
theorem Zr1 {c d : Bool} {cs args args' : List AV} {k : AV → St → Prop} (m : List Bool) (v : AV)
  (h : ACalls P w0 f args' st fun r s => r = v ∧ s = st) (he : ZfQ m (args ++ cs) = args') (hk : k v st) : ZhU P w0 c d (.clo f cs) args st k := .inl ⟨v, fun _ => h.mask he, hk⟩
theorem ZpX {cs args args' : List AV} {k : AV → St → Prop} (m : List Bool) (Post : AV → St → Prop)
  (h : ACalls P w0 f args' st Post) (he : ZfQ m (args ++ cs) = args') (hk : ∀ v s, Post v s → k v s) : ZhU P w0 true false (.clo f cs) args st k := .inr ⟨rfl, Post, fun _ => h.mask he, fun v s h1 _ => hk v s (h1 rfl)⟩
end
def Zf1 : List Bool → List AV → List AV
 | b :: m, a :: l => (if b = true then a.pubCell else a) :: Zf1 m l
 | [], l => l.map AV.pubCell
 | _ :: _, [] => []
@[go_sem] theorem Zzd (m : List Bool) (a : AV) (l : List AV) : Zf1 (true :: m) (a :: l) = a.pubCell :: Zf1 m l := rfl
@[go_sem] theorem Zy5 (m : List Bool) (a : AV) (l : List AV) : Zf1 (false :: m) (a :: l) = a :: Zf1 m l := rfl
@[go_sem] theorem Zx6 (l : List AV) : Zf1 [] l = l.map AV.pubCell := rfl
@[go_sem] theorem Zyu (m : List Bool) : Zf1 m [] = [] := by cases m <;> rfl
def pubS (m : List Bool) : AV → AV
 | .agg cs => .agg (Zf1 m cs)
 | x => x
@[go_sem] theorem ZxZ (m : List Bool) (cs : List AV) : pubS m (.agg cs) = .agg (Zf1 m cs) := rfl
theorem Zj9 : ∀ (m : List Bool) (l : List AV), (Zf1 m l).length = l.length ∧ ∀ (i : Nat) (h1 : i < (Zf1 m l).length) (h2 : i < l.length), (Zf1 m l)[i] = l[i] ∨ (Zf1 m l)[i] = l[i].pubCell
 | [], l => ⟨by simp [Zf1], fun i h1 h2 => .inr (by simp [Zf1])⟩
 | b :: m, [] => ⟨rfl, fun i h1 h2 => absurd h2 (by simp)⟩
 | b :: m, a :: l => by
  obtain ⟨h1, h2⟩ := Zj9 m l
  refine ⟨by simp [Zf1, h1], fun i k1 k2 => ?_⟩
  cases i with
  | zero => cases b with
   | true => exact .inr rfl
   | false => exact .inl rfl
  | succ i => exact h2 i (by simpa [Zf1] using k1) (by simpa using k2)
theorem R.pubS {w0 : World} {M : Mem} {w : World} (m : List Bool) {v : Value} {x : AV} (h : R w0 M w v x) : R w0 M w v (pubS m x) := by
 cases h with
 | @agg us xs hl h1 h =>
  obtain ⟨k1, k2⟩ := Zj9 m xs
  refine .agg (by rw [k1]; exact hl) (fun x hx => ?_) (fun i a b => ?_)
  ·
   obtain ⟨i, hi, rfl⟩ := List.mem_iff_getElem.1 hx
   have hi' : i < xs.length := by rw [← k1]; exact hi
   rcases k2 i hi hi' with q | q
   ·
    rw [q]; exact h1 _ (List.getElem_mem _)
   ·
    rw [q, AV.one_pubCell]; exact h1 _ (List.getElem_mem _)
  ·
   have hi' : i < xs.length := by rw [← k1]; exact b
   rcases k2 i b hi' with q | q
   ·
    rw [q]; exact h i a hi'
   ·
    rw [q]; exact (h i a hi').pubCell
 | nil ho => exact .nil ho
 | emp ho => exact .emp ho
 | list sz us hc hm hcell hu ho => exact .list sz us hc hm hcell hu ho
 | flat hf => exact .flat hf
 | tup hl h => exact .tup hl h
 | elem u k hcell hu => exact .elem u k hcell hu
 | box hl => exact .box hl
 | clo hl h => exact .clo hl h
 | yld hk => exact .yld hk
 | vec hi hv h => exact .vec hi hv h
 | vel hi hv h => exact .vel hi hv h
def Zu1 (P : Program) (e : Env) (st : St) : ResultVar → AV
 | .tmp t => Zan e (.tmp t)
 | .cell t ty => (Zbo P e true st (.load ty (.tmp t))).2.1
def Zwb (mk : List Bool) (P : Program) (rs : List ResultVar) (Post : AV → St → Prop) : AQ := fun x e st =>
 match x with
 | .normal | .ret => (∀ r ∈ rs, Zmx P e st r) ∧ Post (pubS mk (ZsB (rs.map (Zu1 P e st)))) st
 | _ => False
attribute [go_sem] Zu1 Zwb
section
variable {P : Program} {w0 : World} {n : Nat} {M : Mem} {e : Env} {st : St} {a : Act} {w : World}
theorem ZoI (mk : List Bool) (h : Rel w0 n M e st a w) {fn : Func} {rs : List ResultVar} (hfn : fn.results = rs.toArray) (hrs : ∀ r ∈ rs, Zmx P e st r) :
  ∃ v, (results fn a.tmps).run P w = .ok v w ∧ R w0 M w v (pubS mk (ZsB (rs.map (Zu1 P e st)))) := by
 let f : ResultVar → Sem Value := fun
  | .tmp t => pure (a.tmps.getD t undef)
  | .cell b t => do loadVar t (← asAddr (a.tmps.getD b undef))
 have hone : ∀ r ∈ rs, ∃ v, (f r).run P w = .ok v w ∧ R w0 M w v (Zu1 P e st r) := by
  intro r hr
  have := hrs r hr
  cases r with
  | tmp t => exact ⟨_, rfl, Za1 h (x := .tmp t) this⟩
  | cell b t =>
   obtain ⟨v, h1, h2⟩ := Zjx h t (.tmp b) this
   exact ⟨v, h1, h2⟩
 classical
 let g : ResultVar → Value := fun r => if hr : r ∈ rs then Classical.choose (hone r hr) else undef
 have hg : ∀ r ∈ rs, (f r).run P w = .ok (g r) w ∧ R w0 M w (g r) (Zu1 P e st r) := by
  intro r hr
  have := Classical.choose_spec (hone r hr)
  have e : g r = Classical.choose (hone r hr) := by simp only [g, dif_pos hr]
  rw [e]; exact this
 have hm : (fn.results.mapM f).run P w = .ok ((rs.map g).toArray) w := by
  rw [hfn, Array.mapM_eq_mapM_toList]
  simp only [Sem.run_map, ZgS f g rs (fun r hr => (hg r hr).1), Result.andThen_ok]
 have hrun : (results fn a.tmps).run P w = .ok (if h : (rs.map g).toArray.size = 1 then (rs.map g).toArray[0] else .tuple (rs.map g).toArray) w := by
  unfold results
  simp only [Sem.run_bind]
  refine Eq.trans (congrArg (fun x => Result.andThen x _) hm) ?_
  simp only [Result.andThen_ok, Sem.run_pure]
 refine ⟨_, hrun, ?_⟩
 exact R.pubS mk (ZjN rs g fun r hr => (hg r hr).2)
theorem Zob (mk : List Bool) {f : FuncId} {fn : Func} {c : Code} {args : List AV} {rs : List ResultVar} {Post : AV → St → Prop} (hf : P.funcs[f]? = some fn) (hb : fn.body = some c) (hrs : fn.results = rs.toArray) (hn : fn.ntmps = n)
  (hen : ZfU P f) (ha : args.length ≤ n)
  (h : ∀ (M0 : Mem) (W0 : World), M0.N = st.boxes.length → M0.NR = st.rows.length → M0.NL = st.loops.length → Calm st.boxes.length st.rows.length st.loops.length st → (∀ x ∈ args, Under st.boxes.length st.rows.length st.loops.length x) →
   awp P w0 n M0 W0 none c (Zwb mk P rs Post) (Zax 0 args) st) : ACalls P w0 f args st Post := by
 refine ⟨hen, fun M w vals hst hrow => ?_⟩
 have hsz : vals.size = args.length := hrow.1
 have hu : ∀ x ∈ args, Under st.boxes.length st.rows.length st.loops.length x := by
  intro x hx
  obtain ⟨i, hi, rfl⟩ := List.mem_iff_getElem.1 hx
  have := (hrow.get (i := i) (Array.getElem?_eq_getElem (by omega)) (List.getElem?_eq_getElem hi)).under
  rwa [hst.N, hst.NR, hst.loop.NL] at this
 have hrel : Rel w0 n M (Zax 0 args) st { tmps := vals ++ Array.replicate (fn.ntmps - vals.size) undef, defers := [] } w := by
  refine ⟨hst, by simp; omega, fun s x hs => ?_⟩
  obtain ⟨i, h1, y, h2, rfl⟩ := ZhS _ _ _ _ hs
  have hi : i < args.length := (List.getElem?_eq_some_iff.1 h2).1
  have hs' : s = i := by omega
  subst hs'
  simp only [entryOk, if_true]
  have e1 : (vals ++ Array.replicate (fn.ntmps - vals.size) undef).getD s undef = vals[s]'(by omega) := by
   simp [Array.getD_eq_getD_getElem?, Array.getElem?_append_left (show s < vals.size by omega), Array.getElem?_eq_getElem (show s < vals.size by omega)]
  rw [e1]
  exact hrow.get (Array.getElem?_eq_getElem (by omega)) h2
 refine Ziw (n := 0) (callsIn_of_wp_marks hf hb trivial (wpIn_mono (h M w hst.N hst.NR hst.loop.NL hst.calm hu 0 M _ w ⟨hrel, .refl _ _ _, [], by simp⟩) ?_))
 rintro ex a' w' ⟨M', e', s', h1, h3⟩
 have done : ∀ (hr : ∀ r ∈ rs, Zmx P e' s' r) (hp : Post (pubS mk (ZsB (rs.map (Zu1 P e' s')))) s'),
   LeavesInM (FW none) 0 P fn a'.tmps (Comes' w0 M w Post) a'.defers .returning w' := by
  intro hr hp
  obtain ⟨Ds, m1, m2, m3⟩ := h1.marks
  rw [m2]
  refine ZfT Ds M' w' m1 m3 hst.base_le h1.rel.st h1.ext fun w2 k1 k2 k3 => ?_
  have hrel2 : Rel w0 n M' e' s' a' w2 := ⟨k1, h1.rel.size, fun s x hs => by
   have := h1.rel.env s x hs
   unfold entryOk at *
   split
   ·
    rename_i c; rw [if_pos c] at this; exact k3 _ _ this
   ·
    rename_i c; rw [if_neg c] at this; exact this⟩
  obtain ⟨v, q1, q2⟩ := ZoI mk hrel2 hrs hr
  exact ⟨v, q1, v, M', _, s', rfl, hp, k2, k1, q2⟩
 cases ex with
 | normal => exact done h3.1 h3.2
 | ret => exact done h3.1 h3.2
 | _ => exact h3.elim
end
end Go.Ev
namespace Go.Proofs.YtgpmlelfkjfbiaaGreatDoor
open Go Go.RowKit Go.Ev
@[go_sem] theorem Zyk (n : Nat) : hdr .nil n = .list [] .seed := rfl
def Zet {α : Type} (l : List α) (i : Int) (y : α) : List α := l.take i.toNat ++ y :: l.drop i.toNat
theorem ZlI {α : Type} {g : α → List AV} {sz : Nat} (hg : ∀ x, (g x).length = sz) : ∀ (xs : List α) (k : Nat), (xs.flatMap g).take (k * sz) = (xs.take k).flatMap g
 | [], k => by simp
 | x :: xs, 0 => by simp
 | x :: xs, k + 1 => by
  have hx := hg x
  rw [List.flatMap_cons, List.take_succ_cons, List.flatMap_cons, ← ZlI hg xs k, Nat.succ_mul, Nat.add_comm, List.take_append, List.take_of_length_le (by omega)]
  congr 2
  omega
theorem Zlh {α : Type} {g : α → List AV} {sz : Nat} (hg : ∀ x, (g x).length = sz) : ∀ (xs : List α) (k : Nat), (xs.flatMap g).drop (k * sz) = (xs.drop k).flatMap g
 | [], k => by simp
 | x :: xs, 0 => by simp
 | x :: xs, k + 1 => by
  have hx := hg x
  rw [List.flatMap_cons, List.drop_succ_cons, ← Zlh hg xs k, Nat.succ_mul, Nat.add_comm, List.drop_append, List.drop_of_length_le (by omega), List.nil_append]
  congr 1
  omega
def insR : Go.Shelf.Ren := ⟨fun x => if x = 22 then 69 else if x = 29 then 125 else if x = 30 then 126 else x,
 fun x => if x = 9 then 75 else if x = 24 then 44 else if x = 3 then 3 else if x = 4 then 4 else if x = 0 then 0 else x, fun x => x⟩
theorem insL : ∃ z, InsLay Tryz.prog insR Tryz.f69.name 7 104 z ∧ z.cells.size = 7 := by
 obtain ⟨i0, z, hi, hz0, hz1, hz2, hzs⟩ := ZjF (by kernel_rfl : Zq0 Tryz.prog 75 7 104 = true)
 exact ⟨z, {
  mixed := by kernel_rfl
  nmo := by decide
  f22 := Tryz.func69.trans (congrArg some (by kernel_rfl))
  ov := fun w x y h => by
   show (callFunc 125 #[x, y]).run Tryz.prog w = _
   rw [run_callFunc_extern Tryz.func125 (by kernel_rfl) (by kernel_rfl) (by kernel_rfl) (e := Extern.SlicesOverlaps.overlaps #[44, 44] #[4]) (by kernel_rfl)]
   have h' : (Extern.SlicesOverlaps.overlaps #[44, 44] #[4] #[x, y]).run Tryz.prog w = .ok (.bool false) w := h
   first | (rw [h']; rfl) | simp [h']
  t0 := Tryz.underlying0
  a0 := Tryz.isAgg0
  z0 := Tryz.sizeOf0
  v0 := Tryz.zeroValue0
  t3 := Tryz.underlying3
  a3 := Tryz.isAgg3
  z3 := Tryz.sizeOf3
  v3 := Tryz.zeroValue3
  t4 := Tryz.underlying4
  a4 := Tryz.isAgg4
  z4 := Tryz.sizeOf4
  v4 := Tryz.zeroValue4
  z9 := Tryz.sizeOf75
  t24 := Tryz.underlying44
  a24 := Tryz.isAgg44
  z24 := Tryz.sizeOf44
  v24 := Tryz.zeroValue44
  i9 := by
   show (Tryz.prog.info? 75).map (fun i => (i.zero, i.size, i.bytes)) = _
   rw [hi]; simp [hz0, hz1, hz2] }, hzs⟩
theorem ZoK (w0 : World) {Rw rows : List RowA} {l : List (Nat × Nat × Ev.Own)} {ho : Ev.Own} {o : VO} {v : List VE} {xs : List (ByteArray × Vl)} (hO : Owns Rw rows l ho ((o, 7, xs.flatMap fun x => (avF x).cells) :: v)) (i : Int)
  (hg : (0 ≤ i ∧ i ≤ (xs.length : Int)) ∧ (xs.length + 1) * 104 ≤ 140737488355328 ∧ xs.length + 1 ≤ 4611686018427387904) (y : ByteArray × Vl) :
  ∃ id' ver' rows', Owns Rw rows' l ho ((.row id' ver', 7, (Zet xs i y).flatMap fun x => (avF x).cells) :: v) ∧ ∀ (B : List (List AV)) (L : List LoopA) (ow : Ev.Own), ACalls Tryz.prog w0 69 [hdr o xs.length, .val (.int .i64 i), .list [avF y] ow] ⟨B, rows, L⟩ fun r s => r = .vec id' ver' 0 (Zet xs i y).length ∧ s = ⟨B, rows', L⟩ := by
 obtain ⟨⟨h0, h1⟩, h2, h3⟩ := hg
 obtain ⟨k, rfl⟩ : ∃ k : Nat, i = (k : Int) := ⟨i.toNat, by omega⟩
 obtain ⟨z, hL, hz⟩ := insL
 have hlen : ∀ x : ByteArray × Vl, ((fun x => (avF x).cells) x).length = 7 := fun x => by simp +decide only [go_sem]
 have hc : (xs.flatMap fun x => (avF x).cells).length = xs.length * 7 := Zdt (f := avF) (fun _ => by simp +decide only [go_sem]) xs
 have hins : (Zet xs (k : Int) y).length = xs.length + 1 := by
  unfold Zet
  rw [List.length_append, List.length_cons, List.length_take, List.length_drop]
  simp only [Int.toNat_natCast]
  omega
 have hnew : (xs.flatMap fun x => (avF x).cells).take (k * 7) ++ [avF y].flatMap (fun y => y.pub.cells) ++ (xs.flatMap fun x => (avF x).cells).drop (k * 7) = (Zet xs (k : Int) y).flatMap fun x => (avF x).cells := by
  unfold Zet
  rw [ZlI hlen, Zlh hlen, List.flatMap_append, List.flatMap_cons, List.flatMap_cons, List.flatMap_nil, List.append_nil, Znq, Int.toNat_natCast, List.append_assoc]
 obtain ⟨id', ver', hrow⟩ : ∃ id' ver', Zjm o rows = .row id' ver' := by
  cases o with
  | nil => exact ⟨_, _, rfl⟩
  | row id ver => exact ⟨_, _, rfl⟩
 refine ⟨id', ver', _, hrow ▸ hO.bump ((Zet xs (k : Int) y).flatMap fun x => (avF x).cells), fun B L ow => ?_⟩
 have := Zn9 (P := Tryz.prog) (w0 := w0) (st := ⟨B, rows, L⟩) (ow := ow) (ys := [avF y]) (ag := true) (i := k) hL (ZaR Tryz.func69 rfl (by decide)) ZjV (by rw [show insR.t 9 = 75 from rfl, Zgn]; rfl) hz (by decide) hO.vp hc (by omega) (by simp)
  (fun q hq => by rw [List.mem_singleton.1 hq]; exact ⟨by simp +decide only [go_sem], by simp +decide only [go_sem]⟩) h2 h3
 rw [hnew] at this
 exact this.mono fun r s ⟨q1, q2⟩ => ⟨by rw [q1, hins, hrow]; rfl, q2⟩
def ZbX (n : Nat)  : Option Int :=
 some ((-1))
def ZaM (n : Nat) (a0 : List (ByteArray × Vl)) (a1 : (ByteArray × Vl) → Option Bool) : Nat → Int → Option Int
 | 0, _ => none
 | m + 1, x8_l7 =>
  if decide (x8_l7 < ((a0.length : Int))) then
   (idx a0 x8_l7).bind fun x14 =>
   (a1 x14).bind fun y17 =>
   if y17 then
    some (x8_l7)
   else
    if I64 (x8_l7 + 1) then
     (ZaM n a0 a1 m) (x8_l7 + 1)
    else none
  else
   ZbX n 
def ZbA (n : Nat) (a0 : List (ByteArray × Vl)) (a1 : (ByteArray × Vl) → Option Bool) : Option Int :=
 ZaM n a0 a1 n 0
theorem ZfR (w0 : World) (n : Nat) (B : List (List AV)) (Rw : List RowA) (L : List LoopA) (oa0 : VO) (a0 : List (ByteArray × Vl)) (hVa0 : VP Rw oa0 7 (a0.flatMap fun x => (avF x).cells)) (fa1 : FuncId) (ca1 : List AV) (a1 : (ByteArray × Vl) → Option Bool) (ha1 : ∀ (x0 : ByteArray × Vl) r, a1 x0 = some r → ∀ B' rows, B <+: B' → Rw <+: rows → ACalls Tryz.prog w0 fa1 ([.agg (.val (.string x0.1) :: (x0.2.cs))] ++ ca1) ⟨B', rows, L⟩ fun v s => v = .val (.bool r) ∧ s = ⟨B', rows, L⟩) (r : Int) (h : ZbA n a0 a1 = some r) :
  ACalls Tryz.prog w0 67 [hdr oa0 a0.length, .clo fa1 ca1] ⟨B, Rw, L⟩ fun x st => x = .val (.int .i64 r) ∧ st = ⟨B, Rw, L⟩ := by
 rw [ZbA] at h
 refine hd [.tmp 4] Tryz.func67 Tryz.ntmps67 fun M0 W0 hN hNR hNL hcalm hu hO hs => ?_
 simp only [Zax]
 have hU_a1 := ZcP (hu (.clo fa1 ca1) (by simp))
 refine rg [0, 1] hs ?_
 refine Zat (fun e st => Ck e st B Rw L [] [] [] (ZbX n  = some r)) ?_ ?_
 ·
  intro K4 hK4
  apply Zab; intro K5 hK5
  have hl6 := (hVa0.up hO).lenV (by decide : 0 < 7) (Zdt (f := avF) (sz := 7) (fun _ => by simp +decide only [go_sem]) a0) Tryz.prog 44
  simp +decide only [go_sem] at hl6
  have hs := And.intro hl6 hs
  refine rl [0, 1, 7, 8] hs hK5 ?_
  clear hK5
  apply Zaf
  refine Zaw (fun m e st => ∃ (x8_l7 : Int), Ck e st B Rw L [(0, true, hdr oa0 a0.length), (1, true, .clo fa1 ca1), (7, true, .val (.int .i64 ((a0.length : Int)))), (8, true, .val (.int .i64 x8_l7))] [] [] (ZaM n a0 a1 m x8_l7 = some r)) n ⟨0, ([]), Rw, ef hs, ef hs, hO, h⟩ ?_
  rintro ml7 e st ⟨x8_l7, Xl7, Rl7, rfl, rfl, hO, h⟩ Ul7 Vl7
  cases ml7 with
  | zero => cases h
  | succ ml7 =>
  rw [ZaM] at h
  have hUhVa0 := (hVa0.up hO).under; (try simp only [Zib] at hUhVa0)
  refine ZaO hN hNR hNL rfl hcalm hO (by (simp +decide only [go_sem, Nat.reduceAdd]) <;> (try (repeat' apply And.intro)) <;> first | omega | assumption | exact hU_a1 _ _ _ (by omega) (by have := hO.len; omega) (by omega)) (by (simp +decide only [go_sem, Nat.reduceAdd, ZbM]) <;> (try (repeat' apply And.intro)) <;> first | omega | assumption | exact hU_a1 _ _ _ (by omega) (by have := hO.len; omega) (by omega)) ?_
  refine rg [0, 1, 7, 8, 9] hs ?_
  apply Zab; intro K9 hK9
  refine cnd h hs (fun hs h => ?_) (fun hs h => ?_)
  rotate_left
  ·
   have hb10 := hs.1
   refine sx [] hs hK4 ?_
   exact ⟨([]), Rl7, ef hs, ef hs, hO, h⟩
  have hb10 := hs.1
  refine sk [0, 1, 7, 8] hs hK9 ?_
  clear hK9
  apply Zab; intro K11 hK11
  apply Zaf
  refine rg [0, 1, 5, 7, 8] hs ?_
  apply Zab; intro K13 hK13
  obtain ⟨x14, hx14, h⟩ := bind_some h
  obtain ⟨hx14a, hx14b, hx14c⟩ := ZaF hx14
  obtain ⟨id15, ver16, hqx14, hix14, hvx14⟩ := (hVa0.up hO).row (by rw [(Zdt (f := avF) (sz := 7) (fun _ => by simp +decide only [go_sem]) _)]; exact Nat.mul_pos (by omega) (by decide))
  subst hqx14
  have hnx14 := Zm4 (f := avF) (sz := 7) (fun _ => by simp +decide only [go_sem]) hx14c
  have hdx14 := ZcX (f := fun x => (avF x).cells) 7 (fun _ => by simp +decide only [go_sem]) hx14c
  have hLx14 := Zdt (f := avF) (sz := 7) (fun _ => by simp +decide only [go_sem]) a0
  simp only [ZdU, Zep, Zem, Zei, Zd8, ZdV, ZcF, ZcD, Zee, ZbI, ZbJ, ZcI, ZcN, ZcL, Zdb] at hnx14 hdx14 hvx14 hLx14
  obtain ⟨y17, hy17, h⟩ := bind_some h
  apply Zac 2 [0, 1, 5, 7, 8, 16]
  rw [Zaa]; simp +decide only [go_sem, Nat.reduceAdd, hl6, hb10, hnx14, hdx14, hvx14, hLx14, Nat.zero_add, Nat.add_zero, Option.isSome_some]
  (repeat' apply And.intro) <;> first | refine ZkG _ (ha1 x14 _ hy17 _ _ (by first | exact List.prefix_append _ _ | exact List.prefix_refl _) hO.pre) (by first | rfl | (simp +decide only [go_sem, Nat.reduceAdd, hl6, hb10, hnx14, hdx14, hvx14, hLx14, Nat.zero_add, Nat.add_zero, Option.isSome_some]; done) | (simp +decide only [go_sem, Nat.reduceAdd, Vl.cs, Ty.cs, hl6, hb10, hnx14, hdx14, hvx14, hLx14, Nat.zero_add, Nat.add_zero, Option.isSome_some]; done)) ?_ | exact cl
  rw [Zaa]; simp +decide only [go_sem, Nat.reduceAdd, hl6, hb10, hnx14, hdx14, hvx14, hLx14, Nat.zero_add, Nat.add_zero, Option.isSome_some]
  (repeat' apply And.intro) <;> first | refine hK13 _ _ ?_ | exact cl
  clear hK13
  have hs := And.intro hnx14 hs
  have hs := And.intro hdx14 hs
  have hs := And.intro hvx14 hs
  have hs := And.intro hLx14 hs
  refine cnd h hs (fun hs h => ?_) (fun hs h => ?_)
  ·
   refine rg [4] hs ?_
   exact rt h hs hcalm hO
  refine sk [0, 1, 7, 8] hs hK11 ?_
  clear hK11
  obtain ⟨hg20, h⟩ := Zad h
  refine rl [0, 1, 7, 8] hs (fun e s => Vl7 ml7 e s (Nat.lt_succ_self _)) ?_
  exact ⟨(x8_l7 + 1), ([]), Rl7, ef hs, ef hs, hO, h⟩
 ·
  clear h; rintro e st ⟨Xk3, Rk3, rfl, rfl, hO, h⟩
  rw [ZbX] at h
  have hUhVa0 := (hVa0.up hO).under; (try simp only [Zib] at hUhVa0)
  refine ZaO hN hNR hNL rfl hcalm hO (by (simp +decide only [go_sem, Nat.reduceAdd]) <;> (try (repeat' apply And.intro)) <;> first | omega | assumption | exact hU_a1 _ _ _ (by omega) (by have := hO.len; omega) (by omega)) (by (simp +decide only [go_sem, Nat.reduceAdd, ZbM]) <;> (try (repeat' apply And.intro)) <;> first | omega | assumption | exact hU_a1 _ _ _ (by omega) (by have := hO.len; omega) (by omega)) ?_
  refine rg [4] hs ?_
  exact rt h hs hcalm hO
def ZeC (n : Nat) (a0 : Vl) (b2_k23_4 : List Vl) (b2_k23_5 : List (ByteArray × Vl)) : Option Vl :=
 some (Vl.mk a0.kind a0.int a0.scale a0.text b2_k23_4 b2_k23_5)
def Zb6 (n : Nat) (a0 : Vl) : Nat → Int → (List Vl) → (List (ByteArray × Vl)) → Option Vl
 | 0, _, _, _ => none
 | m + 1, x29_l26, b2_l26_4, b2_l26_5 =>
  if decide (x29_l26 < ((a0.fields.length : Int))) then
   (idx a0.fields x29_l26).bind fun x32 =>
   (Za0 n x32.2).bind fun y33 =>
   if (b2_l26_5.length + 1) * 104 ≤ 140737488355328 ∧ b2_l26_5.length + 1 ≤ 4611686018427387904 then
    if I64 (x29_l26 + 1) then
     (Zb6 n a0 m) (x29_l26 + 1) b2_l26_4 (b2_l26_5 ++ [(x32.1, y33)])
    else none
   else none
  else
   ZeC n a0 b2_l26_4 b2_l26_5
def Zfu (n : Nat) (a0 : Vl) (b2_k5_4 : List Vl) (b2_k5_5 : List (ByteArray × Vl)) : Option Vl :=
 Zb6 n a0 n 0 b2_k5_4 b2_k5_5
def ZcC (n : Nat) (a0 : Vl) : Nat → Int → (List Vl) → (List (ByteArray × Vl)) → Option Vl
 | 0, _, _, _ => none
 | m + 1, x14_l8, b2_l8_4, b2_l8_5 =>
  if decide (x14_l8 < ((a0.list.length : Int))) then
   (idx a0.list x14_l8).bind fun x15 =>
   (Za0 n x15).bind fun y16 =>
   if (b2_l8_4.length + 1) * 88 ≤ 140737488355328 ∧ b2_l8_4.length + 1 ≤ 4611686018427387904 then
    if I64 (x14_l8 + 1) then
     (ZcC n a0 m) (x14_l8 + 1) (b2_l8_4 ++ ([y16])) b2_l8_5
    else none
   else none
  else
   Zfu n a0 b2_l8_4 b2_l8_5
def ZeT (n : Nat) (a0 : Vl) : Option Vl :=
 ZcC n a0 n 0 ([]) ([])
theorem ZmA (w0 : World) (n : Nat) (B : List (List AV)) (Rw : List RowA) (L : List LoopA) (a0 : Vl) (r : Vl) (h : ZeT n a0 = some r) :
  ACalls Tryz.prog w0 66 [.agg (a0.cs)] ⟨B, Rw, L⟩ fun x st => ∃ (o0 : VO) (rows : List RowA), x = .agg ([.val (.int .i64 r.kind), .val (.int .i64 r.int), .val (.int .i64 r.scale), .val (.string r.text), .list (r.list.map avV) .none, hdr o0 r.fields.length]) ∧ st = ⟨B, rows, L⟩ ∧ Owns Rw rows [] .none [(o0, 7, (r.fields).flatMap fun x => (avF x).cells)] := by
 rw [ZeT] at h
 refine ACalls.finV (Zob [true, true, true, true, true, false] (rs := [.cell 2 46]) Tryz.func66 rfl rfl Tryz.ntmps66 (ZaR Tryz.func66 rfl (by decide)) (Nat.le_of_ble_eq_true rfl) ?_)
 intro M0 W0 hN hNR hNL hcalm hu
 dsimp only at hN hNR hNL hcalm hu
 simp only [Zax]
 have hO := Owns.none Rw
 have hs := Zyl
 refine rg [1, 2] hs ?_
 refine rg [1, 2, 3] hs ?_
 apply Zab; intro K3 hK3
 apply Zac 1 [1, 2, 3]
 rw [Zaa]; simp +decide only [go_sem, Nat.reduceAdd, Vl.cs_eqs a0]
 (repeat' apply And.intro) <;> first | refine hK3 _ _ ?_ | exact cl
 clear hK3
 refine Zat (fun e st => ∃ (b2_k5_4 : List Vl) (b2_k5_5 : List (ByteArray × Vl)) (ob2_k5_4 : Ev.Own) (ob2_k5_5 : VO) (Xk5 : List (List AV)) (Rk5 : List RowA), e = [(1, true, .box B.length 0), (2, true, .box (B.length + 1) 0), (3, true, .box (B.length + 2) 0)] ∧ st = ⟨B ++ ([a0.cs, [.val (.int .i64 0), .val (.int .i64 0), .val (.int .i64 0), .val (.string ((⟨#[]⟩ : ByteArray))), .list ([]) .full, .list ([]) .full], [.val (.int .i64 a0.kind), .val (.int .i64 a0.int), .val (.int .i64 a0.scale), .val (.string a0.text), .list (b2_k5_4.map avV) ob2_k5_4, hdr ob2_k5_5 b2_k5_5.length]] ++ Xk5), Rk5, L⟩ ∧ Owns Rw Rk5 [(6, b2_k5_4.length, ob2_k5_4)] .none [(ob2_k5_5, 7, b2_k5_5.flatMap fun x => (avF x).cells)] ∧ Zfu n a0 b2_k5_4 b2_k5_5 = some r) ?_ ?_
 ·
  intro K6 hK6
  apply Zab; intro K7 hK7
  apply Zac 1 [1, 2, 3, 12, 13, 14]
  rw [Zaa]; simp +decide only [go_sem, Nat.reduceAdd, Vl.cs_eqs a0]
  (repeat' apply And.intro) <;> first | refine hK7 _ _ ?_ | exact cl
  clear hK7
  apply Zaf
  refine Zh3 (B.length + 2) 5 (by simp only [ZgP, ZfF, ZkA, ZiX]; rfl) rfl ?_; simp +decide only [go_sem, Nat.reduceAdd, List.set_cons_zero, List.set_cons_succ]
  have hO := hO.nilV 7
  refine Zaw (fun m e st => ∃ (x14_l8 : Int) (b2_l8_4 : List Vl) (b2_l8_5 : List (ByteArray × Vl)) (ob2_l8_4 : Ev.Own) (ob2_l8_5 : VO) (Xl8 : List (List AV)) (Rl8 : List RowA), e = [(1, true, .box B.length 0), (2, true, .box (B.length + 1) 0), (3, true, .box (B.length + 2) 0), (12, true, .list (a0.list.map avV) .none), (13, true, .val (.int .i64 ((a0.list.length : Int)))), (14, true, .val (.int .i64 x14_l8))] ∧ st = ⟨B ++ ([a0.cs, [.val (.int .i64 0), .val (.int .i64 0), .val (.int .i64 0), .val (.string ((⟨#[]⟩ : ByteArray))), .list ([]) .full, .list ([]) .full], [.val (.int .i64 a0.kind), .val (.int .i64 a0.int), .val (.int .i64 a0.scale), .val (.string a0.text), .list (b2_l8_4.map avV) ob2_l8_4, hdr ob2_l8_5 b2_l8_5.length]] ++ Xl8), Rl8, L⟩ ∧ Owns Rw Rl8 [(6, b2_l8_4.length, ob2_l8_4)] .none [(ob2_l8_5, 7, b2_l8_5.flatMap fun x => (avF x).cells)] ∧ ZcC n a0 m x14_l8 b2_l8_4 b2_l8_5 = some r) n ⟨0, ([]), ([]), .full, .nil, ([]), Rw, by first | rfl | (simp +decide only [go_sem, Nat.reduceAdd, Vl.cs_eqs a0]; done), by first | rfl | (simp +decide only [go_sem, Nat.reduceAdd, Vl.cs_eqs a0]; done), Owns.eqV (Owns.of_eq ((hO).full 6 0) (by first | rfl | simp only [List.length_append, List.length_cons, List.length_nil, List.length_map, Nat.zero_add, Nat.add_zero])) (by first | rfl | simp only [List.flatMap_nil]), h⟩ ?_
  rintro ml8 e st ⟨x14_l8, b2_l8_4, b2_l8_5, ob2_l8_4, ob2_l8_5, Xl8, Rl8, rfl, rfl, hO, h⟩ Ul8 Vl8
  cases ml8 with
  | zero => cases h
  | succ ml8 =>
  rw [ZcC] at h
  have hU := hO.unders
  simp only [List.mem_cons, List.not_mem_nil, or_false, forall_eq_or_imp, forall_eq] at hU
  have hUv := hO.underV
  simp only [List.mem_cons, List.not_mem_nil, or_false, forall_eq_or_imp, forall_eq] at hUv
  refine ZaO hN hNR hNL rfl hcalm hO (by (simp +decide only [go_sem, Nat.reduceAdd]) <;> (try (repeat' apply And.intro)) <;> first | omega | assumption) (by (simp +decide only [go_sem, Nat.reduceAdd, ZbM]) <;> (try (repeat' apply And.intro)) <;> first | omega | assumption) ?_ (by simp only [List.mem_cons, List.not_mem_nil, or_false, forall_eq_or_imp, forall_eq]; exact Zjw _ _ _ _)
  apply Zab; intro K10 hK10
  apply Zac 1 [1, 2, 3, 12, 13, 14, 15]
  rw [Zaa]; simp +decide only [go_sem, Nat.reduceAdd, Vl.cs_eqs a0]
  (repeat' apply And.intro) <;> first | refine hK10 _ _ ?_ | exact cl
  clear hK10
  apply Zab; intro K11 hK11
  refine ZaH (decide (x14_l8 < ((a0.list.length : Int)))) ev (by first | (simp +decide only [go_sem, Nat.reduceAdd, Vl.cs_eqs a0]; done) | (simp +decide only [go_sem, Nat.reduceAdd, Vl.cs_eqs a0]; rfl)) (fun hb12 => ?_) (fun hb12 => ?_)
  rotate_left
  ·
   replace h := Zba h hb12
   refine sx [1, 2, 3] hs hK6 ?_
   exact ⟨b2_l8_4, b2_l8_5, ob2_l8_4, ob2_l8_5, ([]), Rl8, by first | rfl | (simp +decide only [go_sem, Nat.reduceAdd, Vl.cs_eqs a0, hb12]; done), by first | rfl | (simp +decide only [go_sem, Nat.reduceAdd, Vl.cs_eqs a0, hb12]; done), Owns.eqV (Owns.of_eq (hO) (by first | rfl | simp only [List.length_append, List.length_cons, List.length_nil, List.length_map, Nat.zero_add, Nat.add_zero])) (by first | rfl | simp only [List.flatMap_nil]), h⟩
  replace h := Za9 h hb12
  refine sk [1, 2, 3, 12, 13, 14] hs hK11 ?_
  clear hK11
  apply Zab; intro K13 hK13
  apply Zaf
  apply Zab; intro K14 hK14
  obtain ⟨x15, hx15a, hx15b, hx15d, h⟩ := ix avV h
  apply Zac 1 [1, 2, 3, 5, 12, 13, 14]
  rw [Zaa]; simp +decide only [go_sem, Nat.reduceAdd, Vl.cs_eqs a0, hb12, hx15d]
  (repeat' apply And.intro) <;> first | refine hK14 _ _ ?_ | exact cl
  clear hK14
  obtain ⟨y16, hy16, h⟩ := bind_some h
  obtain ⟨hg17, h⟩ := Zad h
  obtain ⟨o18, rows19, hO, hap20⟩ := hO.append (P := Tryz.prog) Zlg (by rw [Zhr]; rfl) (by decide) 1 hg17.1 hg17.2
  replace hap20 := fun (ys : List AV) B L o2 => hap20 (b2_l8_4.map avV) ys B L o2 (by first | rfl | simp only [List.length_map, List.length_nil, List.length_append, List.length_cons, Nat.zero_add])
  replace hap20 := fun (y : AV) B L o2 => hap20 [y] B L o2 (by first | rfl | simp only [List.length_map, List.length_nil, List.length_cons]) ev
  try simp only [List.mem_singleton, List.mem_cons, List.not_mem_nil, or_false, forall_eq_or_imp, forall_eq, List.map_append, List.map_cons, List.map_nil, ZdU, Zep, Zem, Zei, Zd8, ZdV, ZcF, ZcD, Zee, ZbI, ZbJ, ZcI, ZcN, ZcL] at hap20
  apply ZaJ mix 5 2 1 [1, 2, 3, 12, 13, 14] (by kernel_rfl)
  rw [Zaa]; simp +decide only [go_sem, Nat.reduceAdd, Vl.cs_eqs a0, hb12, hx15d, hap20]
  (repeat' apply And.intro) <;> first | refine Zae _ (Zbx w0 n _ _ _ x15 _ hy16) (by first | rfl | (simp +decide only [go_sem, Nat.reduceAdd, Vl.cs_eqs a0, hb12, hx15d, hap20]; done) | (simp +decide only [go_sem, Nat.reduceAdd, Vl.cs, Ty.cs, Vl.cs_eqs a0, hb12, hx15d, hap20]; done)) ?_ | exact cl
  rw [Zaa]; simp +decide only [go_sem, Nat.reduceAdd, Vl.cs_eqs a0, hb12, hx15d, hap20]
  (repeat' with_reducible apply And.intro) <;> first | (rw [Zaa]; simp +decide only [go_sem, Nat.reduceAdd, Vl.cs_eqs a0, hb12, hx15d, hap20]) | exact cl
  (repeat' apply And.intro) <;> first | refine hK13 _ _ ?_ | exact cl
  clear hK13
  obtain ⟨hg21, h⟩ := Zad h
  apply Zac 1 [1, 2, 3, 12, 13, 14]
  rw [Zaa]; simp +decide only [go_sem, Nat.reduceAdd, Vl.cs_eqs a0, hb12, hx15d, hap20]
  (repeat' apply And.intro) <;> first | refine Vl8 ml8 _ _ (Nat.lt_succ_self ml8) ⟨(x14_l8 + 1), (b2_l8_4 ++ ([y16])), b2_l8_5, o18, ob2_l8_5, ([x15.cs]), rows19, by first | rfl | (simp +decide only [go_sem, Nat.reduceAdd, Vl.cs_eqs a0, hb12, hx15d, hap20]; done), by first | rfl | (simp +decide only [go_sem, Nat.reduceAdd, Vl.cs_eqs a0, hb12, hx15d, hap20]; done), Owns.eqV (Owns.of_eq (hO) (by first | rfl | simp only [List.length_append, List.length_cons, List.length_nil, List.length_map, Nat.zero_add, Nat.add_zero])) (by first | rfl | simp only [List.flatMap_nil]), h⟩ | exact cl
 ·
  clear h; rintro e st ⟨b2_k5_4, b2_k5_5, ob2_k5_4, ob2_k5_5, Xk5, Rk5, rfl, rfl, hO, h⟩
  rw [Zfu] at h
  have hU := hO.unders
  simp only [List.mem_cons, List.not_mem_nil, or_false, forall_eq_or_imp, forall_eq] at hU
  have hUv := hO.underV
  simp only [List.mem_cons, List.not_mem_nil, or_false, forall_eq_or_imp, forall_eq] at hUv
  refine ZaO hN hNR hNL rfl hcalm hO (by (simp +decide only [go_sem, Nat.reduceAdd]) <;> (try (repeat' apply And.intro)) <;> first | omega | assumption) (by (simp +decide only [go_sem, Nat.reduceAdd, ZbM]) <;> (try (repeat' apply And.intro)) <;> first | omega | assumption) ?_ (by simp only [List.mem_cons, List.not_mem_nil, or_false, forall_eq_or_imp, forall_eq]; exact Zjw _ _ _ _)
  refine Zat (fun e st => ∃ (b2_k23_4 : List Vl) (b2_k23_5 : List (ByteArray × Vl)) (ob2_k23_4 : Ev.Own) (ob2_k23_5 : VO) (Xk23 : List (List AV)) (Rk23 : List RowA), e = [(2, true, .box (B.length + 1) 0), (3, true, .box (B.length + 2) 0)] ∧ st = ⟨B ++ ([a0.cs, [.val (.int .i64 0), .val (.int .i64 0), .val (.int .i64 0), .val (.string ((⟨#[]⟩ : ByteArray))), .list ([]) .full, .list ([]) .full], [.val (.int .i64 a0.kind), .val (.int .i64 a0.int), .val (.int .i64 a0.scale), .val (.string a0.text), .list (b2_k23_4.map avV) ob2_k23_4, hdr ob2_k23_5 b2_k23_5.length]] ++ Xk23), Rk23, L⟩ ∧ Owns Rw Rk23 [(6, b2_k23_4.length, ob2_k23_4)] .none [(ob2_k23_5, 7, b2_k23_5.flatMap fun x => (avF x).cells)] ∧ ZeC n a0 b2_k23_4 b2_k23_5 = some r) ?_ ?_
  ·
   intro K24 hK24
   apply Zab; intro K25 hK25
   apply Zac 1 [2, 3, 27, 28, 29]
   rw [Zaa]; simp +decide only [go_sem, Nat.reduceAdd, Vl.cs_eqs a0]
   (repeat' apply And.intro) <;> first | refine hK25 _ _ ?_ | exact cl
   clear hK25
   apply Zaf
   refine Zaw (fun m e st => ∃ (x29_l26 : Int) (b2_l26_4 : List Vl) (b2_l26_5 : List (ByteArray × Vl)) (ob2_l26_4 : Ev.Own) (ob2_l26_5 : VO) (Xl26 : List (List AV)) (Rl26 : List RowA), e = [(2, true, .box (B.length + 1) 0), (3, true, .box (B.length + 2) 0), (27, true, .list (a0.fields.map avF) .none), (28, true, .val (.int .i64 ((a0.fields.length : Int)))), (29, true, .val (.int .i64 x29_l26))] ∧ st = ⟨B ++ ([a0.cs, [.val (.int .i64 0), .val (.int .i64 0), .val (.int .i64 0), .val (.string ((⟨#[]⟩ : ByteArray))), .list ([]) .full, .list ([]) .full], [.val (.int .i64 a0.kind), .val (.int .i64 a0.int), .val (.int .i64 a0.scale), .val (.string a0.text), .list (b2_l26_4.map avV) ob2_l26_4, hdr ob2_l26_5 b2_l26_5.length]] ++ Xl26), Rl26, L⟩ ∧ Owns Rw Rl26 [(6, b2_l26_4.length, ob2_l26_4)] .none [(ob2_l26_5, 7, b2_l26_5.flatMap fun x => (avF x).cells)] ∧ Zb6 n a0 m x29_l26 b2_l26_4 b2_l26_5 = some r) n ⟨0, b2_k5_4, b2_k5_5, ob2_k5_4, ob2_k5_5, ([]), Rk5, by first | rfl | (simp +decide only [go_sem, Nat.reduceAdd, Vl.cs_eqs a0]; done), by first | rfl | (simp +decide only [go_sem, Nat.reduceAdd, Vl.cs_eqs a0]; done), Owns.eqV (Owns.of_eq (hO) (by first | rfl | simp only [List.length_append, List.length_cons, List.length_nil, List.length_map, Nat.zero_add, Nat.add_zero])) (by first | rfl | simp only [List.flatMap_nil]), h⟩ ?_
   rintro ml26 e st ⟨x29_l26, b2_l26_4, b2_l26_5, ob2_l26_4, ob2_l26_5, Xl26, Rl26, rfl, rfl, hO, h⟩ Ul26 Vl26
   cases ml26 with
   | zero => cases h
   | succ ml26 =>
   rw [Zb6] at h
   have hU := hO.unders
   simp only [List.mem_cons, List.not_mem_nil, or_false, forall_eq_or_imp, forall_eq] at hU
   have hUv := hO.underV
   simp only [List.mem_cons, List.not_mem_nil, or_false, forall_eq_or_imp, forall_eq] at hUv
   refine ZaO hN hNR hNL rfl hcalm hO (by (simp +decide only [go_sem, Nat.reduceAdd]) <;> (try (repeat' apply And.intro)) <;> first | omega | assumption) (by (simp +decide only [go_sem, Nat.reduceAdd, ZbM]) <;> (try (repeat' apply And.intro)) <;> first | omega | assumption) ?_ (by simp only [List.mem_cons, List.not_mem_nil, or_false, forall_eq_or_imp, forall_eq]; exact Zjw _ _ _ _)
   apply Zab; intro K27 hK27
   apply Zac 1 [2, 3, 27, 28, 29, 30]
   rw [Zaa]; simp +decide only [go_sem, Nat.reduceAdd, Vl.cs_eqs a0]
   (repeat' apply And.intro) <;> first | refine hK27 _ _ ?_ | exact cl
   clear hK27
   apply Zab; intro K28 hK28
   refine ZaH (decide (x29_l26 < ((a0.fields.length : Int)))) ev (by first | (simp +decide only [go_sem, Nat.reduceAdd, Vl.cs_eqs a0]; done) | (simp +decide only [go_sem, Nat.reduceAdd, Vl.cs_eqs a0]; rfl)) (fun hb29 => ?_) (fun hb29 => ?_)
   rotate_left
   ·
    replace h := Zba h hb29
    refine sx [2, 3] hs hK24 ?_
    exact ⟨b2_l26_4, b2_l26_5, ob2_l26_4, ob2_l26_5, ([]), Rl26, by first | rfl | (simp +decide only [go_sem, Nat.reduceAdd, Vl.cs_eqs a0, hb29]; done), by first | rfl | (simp +decide only [go_sem, Nat.reduceAdd, Vl.cs_eqs a0, hb29]; done), Owns.eqV (Owns.of_eq (hO) (by first | rfl | simp only [List.length_append, List.length_cons, List.length_nil, List.length_map, Nat.zero_add, Nat.add_zero])) (by first | rfl | simp only [List.flatMap_nil]), h⟩
   replace h := Za9 h hb29
   refine sk [2, 3, 27, 28, 29] hs hK28 ?_
   clear hK28
   apply Zab; intro K30 hK30
   apply Zaf
   apply Zab; intro K31 hK31
   obtain ⟨x32, hx32a, hx32b, hx32d, h⟩ := ix avF h
   apply Zac 1 [2, 3, 7, 27, 28, 29]
   rw [Zaa]; simp +decide only [go_sem, Nat.reduceAdd, Vl.cs_eqs a0, hb29, hx32d]
   (repeat' apply And.intro) <;> first | refine hK31 _ _ ?_ | exact cl
   clear hK31
   obtain ⟨y33, hy33, h⟩ := bind_some h
   obtain ⟨hg34, h⟩ := Zad h
   obtain ⟨o35, rows36, hO, hap37⟩ := hO.appendV (P := Tryz.prog) (n := b2_l26_5.length) (m := 1) ZjV (by rw [Zgn]; rfl) (by decide) ((Zdt (f := avF) (sz := 7) (fun _ => by simp +decide only [go_sem]) _)) (by decide) hg34.1 hg34.2 [avF ((x32.1, y33))] rfl ((b2_l26_5 ++ [(x32.1, y33)]).flatMap fun x => (avF x).cells) (by simp only [List.flatMap_append, List.flatMap_cons, List.flatMap_nil, List.append_nil, List.nil_append, Znq])
   simp only [List.mem_singleton, forall_eq, ZdU, Zep, Zem, Zei, Zd8, ZdV, ZcF, ZcD, Zee, ZbI, ZbJ, ZcI, ZcN, ZcL] at hap37
   apply ZaJ mix 9 2 1 [2, 3, 27, 28, 29] (by kernel_rfl)
   rw [Zaa]; simp +decide only [go_sem, Nat.reduceAdd, Vl.cs_eqs a0, hb29, hx32d, hap37, ZaA, Zak, Zah]
   (repeat' apply And.intro) <;> first | refine Zae _ (Zbx w0 n _ _ _ x32.2 _ hy33) (by first | rfl | (simp +decide only [go_sem, Nat.reduceAdd, Vl.cs_eqs a0, hb29, hx32d, hap37, ZaA, Zak, Zah]; done) | (simp +decide only [go_sem, Nat.reduceAdd, Vl.cs, Ty.cs, Vl.cs_eqs a0, hb29, hx32d, hap37, ZaA, Zak, Zah]; done)) ?_ | exact cl
   rw [Zaa]; simp +decide only [go_sem, Nat.reduceAdd, Vl.cs_eqs a0, hb29, hx32d, hap37, ZaA, Zak, Zah]
   (repeat' with_reducible apply And.intro) <;> first | (rw [Zaa]; simp +decide only [go_sem, Nat.reduceAdd, Vl.cs_eqs a0, hb29, hx32d, hap37, ZaA, Zak, Zah]) | exact cl
   (repeat' apply And.intro) <;> first | refine hK30 _ _ ?_ | exact cl
   clear hK30
   obtain ⟨hg38, h⟩ := Zad h
   apply Zac 1 [2, 3, 27, 28, 29]
   rw [Zaa]; simp +decide only [go_sem, Nat.reduceAdd, Vl.cs_eqs a0, hb29, hx32d, hap37]
   (repeat' apply And.intro) <;> first | refine Vl26 ml26 _ _ (Nat.lt_succ_self ml26) ⟨(x29_l26 + 1), b2_l26_4, (b2_l26_5 ++ [(x32.1, y33)]), ob2_l26_4, o35, ([.val (.string x32.1) :: (x32.2.cs)]), rows36, by first | rfl | (simp +decide only [go_sem, Nat.reduceAdd, Vl.cs_eqs a0, hb29, hx32d, hap37]; done), by first | rfl | (simp +decide only [go_sem, Nat.reduceAdd, Vl.cs_eqs a0, hb29, hx32d, hap37]; done), Owns.eqV (Owns.of_eq (hO) (by first | rfl | simp only [List.length_append, List.length_cons, List.length_nil, List.length_map, Nat.zero_add, Nat.add_zero])) (by first | rfl | simp only [List.flatMap_nil]), h⟩ | exact cl
  ·
   clear h; rintro e st ⟨b2_k23_4, b2_k23_5, ob2_k23_4, ob2_k23_5, Xk23, Rk23, rfl, rfl, hO, h⟩
   rw [ZeC] at h
   have hU := hO.unders
   simp only [List.mem_cons, List.not_mem_nil, or_false, forall_eq_or_imp, forall_eq] at hU
   have hUv := hO.underV
   simp only [List.mem_cons, List.not_mem_nil, or_false, forall_eq_or_imp, forall_eq] at hUv
   refine ZaO hN hNR hNL rfl hcalm hO (by (simp +decide only [go_sem, Nat.reduceAdd]) <;> (try (repeat' apply And.intro)) <;> first | omega | assumption) (by (simp +decide only [go_sem, Nat.reduceAdd, ZbM]) <;> (try (repeat' apply And.intro)) <;> first | omega | assumption) ?_ (by simp only [List.mem_cons, List.not_mem_nil, or_false, forall_eq_or_imp, forall_eq]; exact Zjw _ _ _ _)
   apply Zab; intro K39 hK39
   apply Zac 1 [2]
   rw [Zaa]; simp +decide only [go_sem, Nat.reduceAdd, Vl.cs_eqs a0]
   (repeat' apply And.intro) <;> first | refine hK39 _ _ ?_ | exact cl
   clear hK39
   apply Zag; simp +decide only [go_sem, Nat.reduceAdd, Vl.cs_eqs a0]
   have hgt := Option.some.inj h; subst hgt
   have hUv := hO.underV
   simp only [List.mem_cons, List.not_mem_nil, or_false, forall_eq_or_imp, forall_eq] at hUv
   refine Zv3 hO hcalm rfl (by (simp +decide only [go_sem, Nat.reduceAdd, Vl.cs_eqs a0]) <;> (try (repeat' apply And.intro)) <;> first | omega | assumption) (by simp only [List.mem_cons, List.not_mem_nil, or_false, forall_eq_or_imp, forall_eq]; exact Zjw _ _ _ _) ⟨_, _, ?_, rfl, hO.sub (List.nil_sublist _)⟩
   first | rfl | (simp +decide only [go_sem, Nat.reduceAdd, Vl.cs_eqs a0]; done) | (simp +decide only [go_sem, Nat.reduceAdd, Vl.cs, Ty.cs, Vl.cs_eqs a0]; done)
def ZcR (a0 : ByteArray × Vl) (a1 : ByteArray) : Bool :=
 !(sLt a0.1 a1 || sEq a0.1 a1)
theorem ZmT (w0 : World) (B : List (List AV)) (Rw : List RowA) (L : List LoopA) (a0 : ByteArray × Vl) (la1 : Nat) (a1 : ByteArray) (hla1 : B[la1]? = some ([.val (.string a1)])) (r : Bool) (h : ZcR a0 a1 = r) :
  ACalls Tryz.prog w0 68 [.agg (.val (.string a0.1) :: (a0.2.cs)), .box la1 0] ⟨B, Rw, L⟩ fun x st => x = .val (.bool r) ∧ st = ⟨B, Rw, L⟩ := by
 rw [ZcR] at h
 refine hd [.tmp 3] Tryz.func68 Tryz.ntmps68 fun M0 W0 hN hNR hNL hcalm hu hO hs => ?_
 simp only [Zax]
 have hltla1 := (List.getElem?_eq_some_iff.1 hla1).1
 have hs := And.intro (Zai hla1) hs
 refine rg [1, 2] hs ?_
 refine rg [3] hs ?_
 apply Zag; simp +decide only [go_sem, Nat.reduceAdd, Zai hla1]
 subst h
 first | refine ZaY hcalm rfl hO.pre ev ⟨?_, rfl⟩ | refine Zbw hcalm rfl hO.pre ev ⟨?_, rfl⟩
 first | rfl | (simp +decide only [go_sem, Nat.reduceAdd, Zai hla1]; done) | (simp +decide only [go_sem, Nat.reduceAdd, Vl.cs, Ty.cs, Zai hla1]; done)
theorem Zmg (w0 : World) (B : List (List AV)) (Rw : List RowA) (L : List LoopA) (a0 : ByteArray × Vl) (la1 : Nat) (a1 : ByteArray) (hla1 : B[la1]? = some ([.val (.string a1)])) :
  ACalls Tryz.prog w0 68 [.agg (.val (.string a0.1) :: (a0.2.cs)), .box la1 0] ⟨B, Rw, L⟩ fun x st => x = .val (.bool (ZcR a0 a1)) ∧ st = ⟨B, Rw, L⟩ := ZmT w0 B Rw L a0 la1 a1 hla1 _ rfl
def Zd3 (n : Nat) (a1 : ByteArray) (a2 : Vl) (y19 : Vl) (x10_k38 : Int) (b4_k38_5 : List (ByteArray × Vl)) : Option (Vl × Int) :=
 (Za0 n a2).bind fun y44 =>
 if (0 ≤ x10_k38 ∧ x10_k38 ≤ (b4_k38_5.length : Int)) ∧ (b4_k38_5.length + 1) * 104 ≤ 140737488355328 ∧ b4_k38_5.length + 1 ≤ 4611686018427387904 then
  some ((Vl.mk y19.kind y19.int y19.scale y19.text y19.list (Zet b4_k38_5 x10_k38 ((a1, y44))), 0))
 else none
def Zfj (n : Nat) (a0 : Vl) (a1 : ByteArray) (a2 : Vl) : Option (Vl × Int) :=
 (Ze2 n a0 a1).bind fun y3 =>
 if !(decide (a0.kind = 9)) then
  some ((Vl.mk 0 0 0 ((⟨#[]⟩ : ByteArray)) ([]) ([]), 11))
 else
  if a1.size ≤ maxLen then
   if !(ZcE a1) then
    some ((Vl.mk 0 0 0 ((⟨#[]⟩ : ByteArray)) ([]) ([]), 12))
   else
    if Za7 a2 then
     some ((Vl.mk 0 0 0 ((⟨#[]⟩ : ByteArray)) ([]) ([]), 19))
    else
     if (decide (y3 < 0)) && (decide (64 ≤ ((a0.fields.length : Int)))) then
      some ((Vl.mk 0 0 0 ((⟨#[]⟩ : ByteArray)) ([]) ([]), 9))
     else
      (ZeT n a0).bind fun y19 =>
      if decide (0 ≤ y3) then
       (Za0 n a2).bind fun y27 =>
       (idx y19.fields y3).bind fun x28 =>
       some ((Vl.mk y19.kind y19.int y19.scale y19.text y19.list (y19.fields.set y3.toNat ((x28.1, y27))), 0))
      else
       (ZbA n y19.fields (fun (x0 : ByteArray × Vl) => some (ZcR x0 a1))).bind fun y36 =>
       if decide (y36 < 0) then
        Zd3 n a1 a2 y19 ((y19.fields.length : Int)) y19.fields
       else
        Zd3 n a1 a2 y19 y36 y19.fields
  else none
theorem Zpr (w0 : World) (n : Nat) (B : List (List AV)) (Rw : List RowA) (L : List LoopA) (a0 : Vl) (a1 : ByteArray) (a2 : Vl) (r : Vl × Int) (h : Zfj n a0 a1 a2 = some r) :
  ACalls Tryz.prog w0 23 [.agg (a0.cs), .val (.string a1), .agg (a2.cs)] ⟨B, Rw, L⟩ fun x st => x = .tup [.agg (r.1.cs), .val (.int .i64 r.2)] ∧ st = ⟨B, Rw, L⟩ := by
 rw [Zfj] at h
 refine hd [.cell 6 46, .tmp 7] Tryz.func23 Tryz.ntmps23 fun M0 W0 hN hNR hNL hcalm hu hO hs => ?_
 simp only [Zax]
 refine rg [3, 4, 5, 6] hs ?_
 obtain ⟨y3, hy3, h⟩ := bind_some h
 refine rc 2 [3, 4, 5, 6, 8] hs ?_; intro K2 hK2
 refine Zae _ (Zj7 w0 n _ _ _ a0 a1 _ hy3) (hv hs) ?_
 refine ne hs hK2 ?_
 clear hK2
 apply Zab; intro K4 hK4
 apply Zaf
 refine rg [3, 4, 5, 6, 8, 14] hs ?_
 refine cnd h hs (fun hs h => ?_) (fun hs h => ?_)
 ·
  have hb6 := hs.1
  apply Zab; intro K7 hK7
  apply Zac 1 [6, 7]
  rw [Zaa]; simp +decide only [go_sem, Nat.reduceAdd, hb6, ZaA, Zak, Zah]
  (repeat' apply And.intro) <;> first | refine hK7 _ _ ?_ | exact cl
  clear hK7
  exact rt h hs hcalm hO
 have hb6 := hs.1
 obtain ⟨hg9, h⟩ := Zad h
 refine rc 2 [3, 4, 5, 6, 8, 19] hs ?_; intro K8 hK8
 refine Zae _ (Zf9 w0 _ _ _ a1 hg9) (hv hs) ?_
 refine ne hs hK8 ?_
 clear hK8
 refine cnd h hs (fun hs h => ?_) (fun hs h => ?_)
 ·
  have hb10 := hs.1
  apply Zab; intro K11 hK11
  apply Zac 1 [6, 7]
  rw [Zaa]; simp +decide only [go_sem, Nat.reduceAdd, hb6, hb10, ZaA, Zak, Zah]
  (repeat' apply And.intro) <;> first | refine hK11 _ _ ?_ | exact cl
  clear hK11
  exact rt h hs hcalm hO
 have hb10 := hs.1
 refine rc 2 [3, 4, 5, 6, 8, 24] hs ?_; intro K12 hK12
 refine Zae _ (Zez w0 _ _ _ a2) (hv hs) ?_
 refine ne hs hK12 ?_
 clear hK12
 refine cnd h hs (fun hs h => ?_) (fun hs h => ?_)
 ·
  have hb13 := hs.1
  apply Zab; intro K14 hK14
  apply Zac 1 [6, 7]
  rw [Zaa]; simp +decide only [go_sem, Nat.reduceAdd, hb6, hb10, hb13, ZaA, Zak, Zah]
  (repeat' apply And.intro) <;> first | refine hK14 _ _ ?_ | exact cl
  clear hK14
  exact rt h hs hcalm hO
 have hb13 := hs.1
 refine rg [3, 4, 5, 6, 8, 28] hs ?_
 refine cnd h hs (fun hs h => ?_) (fun hs h => ?_)
 ·
  have hb16 := hs.1
  apply Zab; intro K17 hK17
  apply Zac 1 [6, 7]
  rw [Zaa]; simp +decide only [go_sem, Nat.reduceAdd, hb6, hb10, hb13, hb16, ZaA, Zak, Zah]
  (repeat' apply And.intro) <;> first | refine hK17 _ _ ?_ | exact cl
  clear hK17
  exact rt h hs hcalm hO
 have hb16 := hs.1
 refine sk [3, 4, 5, 6, 8] hs hK4 ?_
 clear hK4
 apply Zab; intro K18 hK18
 obtain ⟨y19, hy19, h⟩ := bind_some h
 apply Zac 2 [4, 5, 6, 8, 9]
 rw [Zaa]; simp +decide only [go_sem, Nat.reduceAdd, hb6, hb10, hb13, hb16]
 (repeat' apply And.intro) <;> first | (refine ZcA _ (ZmA w0 n _ _ _ a0 _ hy19) (hv hs) ?_; rintro _ _ ⟨o21, Rv22, rfl, rfl, hGRv22⟩) | exact cl
 have hO := hO.callV hGRv22
 rw [Zaa]; simp +decide only [go_sem, Nat.reduceAdd, hb6, hb10, hb13, hb16]
 (repeat' apply And.intro) <;> first | refine hK18 _ _ ?_ | exact cl
 clear hK18
 apply Zab; intro K23 hK23
 refine rg [4, 5, 6, 8, 9, 41] hs ?_
 refine cnd h hs (fun hs h => ?_) (fun hs h => ?_)
 ·
  have hb25 := hs.1
  apply Zab; intro K26 hK26
  obtain ⟨y27, hy27, h⟩ := bind_some h
  obtain ⟨x28, hx28, h⟩ := bind_some h
  obtain ⟨hx28a, hx28b, hx28c⟩ := ZaF hx28
  obtain ⟨id29, ver30, hqx28, hix28, hvx28⟩ := hO.rowV (by rw [(Zdt (f := avF) (sz := 7) (fun _ => by simp +decide only [go_sem]) _)]; exact Nat.mul_pos (by omega) (by decide))
  subst hqx28
  have hnx28 := Zm4 (f := avF) (sz := 7) (fun _ => by simp +decide only [go_sem]) hx28c
  have hdx28 := ZcX (f := fun x => (avF x).cells) 7 (fun _ => by simp +decide only [go_sem]) hx28c
  have hLx28 := Zdt (f := avF) (sz := 7) (fun _ => by simp +decide only [go_sem]) y19.fields
  simp only [ZdU, Zep, Zem, Zei, Zd8, ZdV, ZcF, ZcD, Zee, ZbI, ZbJ, ZcI, ZcN, ZcL, Zdb] at hnx28 hdx28 hvx28 hLx28
  have hs31 := ZiG (f := avF) (sz := 7) (fun _ => by simp +decide only [go_sem]) ((x28.1, y27)) (k := 1) (c := y27.cs) hx28c (by simp +decide only [go_sem]) (by simp +decide only [go_sem, Zbj, Vl.cs, Ty.cs]; first | rfl | simp [Vl.cs_length, Ty.cs_length])
  obtain ⟨rows32, hO, hrows32⟩ := hO.storeV ((y19.fields.set y3.toNat ((x28.1, y27))).flatMap fun x => (avF x).cells)
  simp only [ZdU, Zep, Zem, Zei, Zd8, ZdV, ZcF, ZcD, Zee, ZbI, ZbJ, ZcI, ZcN, ZcL, Zdb] at hs31 hrows32
  apply ZaJ mix 7 2 1 [6, 9] (by kernel_rfl)
  rw [Zaa]; simp +decide only [go_sem, Nat.reduceAdd, hb6, hb10, hb13, hb16, hb25, hnx28, hdx28, hvx28, hLx28, hs31, hrows32, Nat.zero_add, Nat.add_zero, Option.isSome_some]
  (repeat' apply And.intro) <;> first | refine Zae _ (Zbx w0 n _ _ _ a2 _ hy27) (by first | rfl | (simp +decide only [go_sem, Nat.reduceAdd, hb6, hb10, hb13, hb16, hb25, hnx28, hdx28, hvx28, hLx28, hs31, hrows32, Nat.zero_add, Nat.add_zero, Option.isSome_some]; done) | (simp +decide only [go_sem, Nat.reduceAdd, Vl.cs, Ty.cs, hb6, hb10, hb13, hb16, hb25, hnx28, hdx28, hvx28, hLx28, hs31, hrows32, Nat.zero_add, Nat.add_zero, Option.isSome_some]; done)) ?_ | exact cl
  rw [Zaa]; simp +decide only [go_sem, Nat.reduceAdd, hb6, hb10, hb13, hb16, hb25, hnx28, hdx28, hvx28, hLx28, hs31, hrows32, Nat.zero_add, Nat.add_zero, Option.isSome_some]
  (repeat' with_reducible apply And.intro) <;> first | (rw [Zaa]; simp +decide only [go_sem, Nat.reduceAdd, hb6, hb10, hb13, hb16, hb25, hnx28, hdx28, hvx28, hLx28, hs31, hrows32, Nat.zero_add, Nat.add_zero, Option.isSome_some]) | exact cl
  (repeat' apply And.intro) <;> first | refine hK26 _ _ ?_ | exact cl
  clear hK26
  have hs := And.intro hnx28 hs
  have hs := And.intro hdx28 hs
  have hs := And.intro hvx28 hs
  have hs := And.intro hLx28 hs
  have hs := And.intro hs31 hs
  have hs := And.intro hrows32 hs
  refine rg [6, 7] hs ?_
  refine ZiQ (B.length + 3) 5 (by first | rfl | (simp only [ZgP, ZfF]; rfl) | (simp +decide only [go_sem, Nat.reduceAdd, hb6, hb10, hb13, hb16, hb25, hnx28, hdx28, hvx28, hLx28, hs31, hrows32])) (by first | rfl | (simp only [ZpQ, List.length_set]; rfl)) hO true (.inl rfl) (by decide) ((Zdt (f := avF) (sz := 7) (fun _ => by simp +decide only [go_sem]) _)) (ZpE (f := avF) 7 (fun _ => rfl) (fun _ => by simp +decide only [go_sem]) _) (fun rows34 hO => ?_)
  simp +decide only [go_sem, Nat.reduceAdd, List.set_cons_zero, List.set_cons_succ]
  exact rt h hs hcalm hO
 have hb25 := hs.1
 refine sk [4, 5, 6, 9] hs hK23 ?_
 clear hK23
 apply Zab; intro K35 hK35
 obtain ⟨y36, hy36, h⟩ := bind_some h
 refine Zm8 0 (by decide) ?_
 refine rk 2 [4, 5, 6, 9, 10] hs ?_
 refine Zr1 [false, true] _ (ZfR w0 n _ _ _ o21 y19.fields hO.vp 68 [.box (B.length + 1) 0] (fun (x0 : ByteArray × Vl) => some (ZcR x0 a1)) (fun x0 r hx B' rows' hB' hR' => by cases hx; exact Zmg w0 _ _ _ x0 _ a1 (Zdh hB' (ef hs))) _ hy36) (hv hs) ?_
 refine ne hs hK35 ?_
 clear hK35
 refine Zat (fun e st => ∃ (x10_k38 : Int) (b4_k38_5 : List (ByteArray × Vl)) (ob4_k38_5 : VO) (Xk38 : List (List AV)) (Rk38 : List RowA), e = [(4, true, .box (B.length + 1) 0), (5, true, .box (B.length + 2) 0), (6, true, .box (B.length + 3) 0), (9, true, .box (B.length + 4) 0), (10, true, .val (.int .i64 x10_k38))] ∧ st = ⟨B ++ ([a0.cs, [.val (.string a1)], a2.cs, [.val (.int .i64 0), .val (.int .i64 0), .val (.int .i64 0), .val (.string ((⟨#[]⟩ : ByteArray))), .list ([]) .full, .list ([]) .full], [.val (.int .i64 y19.kind), .val (.int .i64 y19.int), .val (.int .i64 y19.scale), .val (.string y19.text), .list (y19.list.map avV) .none, hdr ob4_k38_5 b4_k38_5.length]] ++ Xk38), Rk38, L⟩ ∧ Owns Rw Rk38 [] .none [(ob4_k38_5, 7, b4_k38_5.flatMap fun x => (avF x).cells)] ∧ Zd3 n a1 a2 y19 x10_k38 b4_k38_5 = some r) ?_ ?_
 ·
  intro K39 hK39
  refine rg [4, 5, 6, 9, 10, 55] hs ?_
  refine cnd h hs (fun hs h => ?_) (fun hs h => ?_)
  ·
   have hl42 := hO.lenV (by decide : 0 < 7) (Zdt (f := avF) (sz := 7) (fun _ => by simp +decide only [go_sem]) y19.fields) Tryz.prog 44
   simp +decide only [go_sem] at hl42
   have hs := And.intro hl42 hs
   refine rl [4, 5, 6, 9, 10] hs hK39 ?_
   exact ⟨((y19.fields.length : Int)), y19.fields, o21, ([]), Rv22, ef hs, ef hs, Owns.eqV (hO) (by first | rfl | simp only [List.flatMap_nil]), h⟩
  refine sk [4, 5, 6, 9, 10] hs hK39 ?_
  exact ⟨y36, y19.fields, o21, ([]), Rv22, ef hs, ef hs, Owns.eqV (hO) (by first | rfl | simp only [List.flatMap_nil]), h⟩
 ·
  clear h; rintro e st ⟨x10_k38, b4_k38_5, ob4_k38_5, Xk38, Rk38, rfl, rfl, hO, h⟩
  rw [Zd3] at h
  have hUv := hO.underV
  simp only [List.mem_cons, List.not_mem_nil, or_false, forall_eq_or_imp, forall_eq] at hUv
  refine ZaO hN hNR hNL rfl hcalm hO (by (simp +decide only [go_sem, Nat.reduceAdd]) <;> (try (repeat' apply And.intro)) <;> first | omega | assumption) (by (simp +decide only [go_sem, Nat.reduceAdd, ZbM]) <;> (try (repeat' apply And.intro)) <;> first | omega | assumption) ?_ (by simp only [List.mem_cons, List.not_mem_nil, or_false, forall_eq_or_imp, forall_eq]; exact Zjw _ _ _ _)
  apply Zab; intro K43 hK43
  obtain ⟨y44, hy44, h⟩ := bind_some h
  obtain ⟨hg45, h⟩ := Zad h
  obtain ⟨id46, ver47, rows48, hO, hin49⟩ := ZoK w0 hO x10_k38 hg45 ((a1, y44))
  refine Zm8 0 (by decide) ?_
  apply ZaJ mix 8 2 2 [6, 9] (by kernel_rfl)
  rw [Zaa]; simp +decide only [go_sem, Nat.reduceAdd, hb6, hb10, hb13, hb16, hb25, ZaA, Zak, Zah]
  (repeat' apply And.intro) <;> first | refine Zae _ (Zbx w0 n _ _ _ a2 _ hy44) (by first | rfl | (simp +decide only [go_sem, Nat.reduceAdd, hb6, hb10, hb13, hb16, hb25, ZaA, Zak, Zah]; done) | (simp +decide only [go_sem, Nat.reduceAdd, Vl.cs, Ty.cs, hb6, hb10, hb13, hb16, hb25, ZaA, Zak, Zah]; done)) ?_ | exact cl
  rw [Zaa]; simp +decide only [go_sem, Nat.reduceAdd, hb6, hb10, hb13, hb16, hb25, ZaA, Zak, Zah]
  (repeat' with_reducible apply And.intro) <;> first | (rw [Zaa]; simp +decide only [go_sem, Nat.reduceAdd, hb6, hb10, hb13, hb16, hb25, ZaA, Zak, Zah]) | exact cl
  (repeat' apply And.intro) <;> first | (refine ZpX [false, true, true] _ (hin49 _ _ _) (by first | rfl | (simp +decide only [go_sem, Nat.reduceAdd, hb6, hb10, hb13, hb16, hb25, ZaA, Zak, Zah]; done) | (simp +decide only [go_sem, Nat.reduceAdd, Vl.cs, Ty.cs, hb6, hb10, hb13, hb16, hb25, ZaA, Zak, Zah]; done)) ?_; rintro _ _ ⟨rfl, rfl⟩) | exact cl
  rw [Zaa]; simp +decide only [go_sem, Nat.reduceAdd, hb6, hb10, hb13, hb16, hb25, ZaA, Zak, Zah]
  (repeat' apply And.intro) <;> first | refine hK43 _ _ ?_ | exact cl
  clear hK43
  refine rg [6, 7] hs ?_
  refine ZiQ (B.length + 3) 5 (by first | rfl | (simp only [ZgP, ZfF]; rfl) | (simp +decide only [go_sem, Nat.reduceAdd, hb6, hb10, hb13, hb16, hb25])) (by first | rfl | (simp only [ZpQ, List.length_set]; rfl)) hO true (.inl rfl) (by decide) ((Zdt (f := avF) (sz := 7) (fun _ => by simp +decide only [go_sem]) _)) (ZpE (f := avF) 7 (fun _ => rfl) (fun _ => by simp +decide only [go_sem]) _) (fun rows51 hO => ?_)
  simp +decide only [go_sem, Nat.reduceAdd, List.set_cons_zero, List.set_cons_succ]
  exact rt h hs hcalm hO
def Zch (n : Nat) (a0 : Ty) (a1 : Vl) : Option Bool :=
 (Zcn n ).bind fun y4 =>
 if !y4 then
  (Zcn n ).bind fun y8 =>
  some (y8)
 else
  (ZeO n a0).bind fun y9 =>
  if !y9 then
   (Zcn n ).bind fun y13 =>
   some (y13)
  else
   (ZbL n a1).bind fun y14 =>
   if !y14 then
    (Zcn n ).bind fun y18 =>
    some (y18)
   else
    (ZbT n a0 a1).bind fun y19 =>
    if !y19 then
     (Zcn n ).bind fun y22 =>
     some (y22)
    else
     (Zdy n a1).bind fun y25 =>
     if (!(decide (y25 = 0))) || (!(decide (a1.kind = a0.kind))) then
      some (false)
     else
      (ZbT n a0 (Vl.mk 0 0 0 ((⟨#[]⟩ : ByteArray)) ([]) ([]))).bind fun y29 =>
      if y29 then
       some (false)
      else
       if !(decide (a1.kind = 9)) then
        some (true)
       else
        (Zfj n a1 ((⟨#[122, 122, 95, 111, 116, 104, 101, 114]⟩ : ByteArray)) (Zgw true)).bind fun y37 =>
        (Zct n a0 ((⟨#[122, 122, 95, 111, 116, 104, 101, 114]⟩ : ByteArray))).bind fun y39 =>
        if (!(decide (y37.2 = 0))) || y39.2 then
         some (true)
        else
         (ZbT n a0 y37.1).bind fun y42 =>
         some (!y42)
theorem Zg2 (w0 : World) (hP : Pow10 w0) (hT : Lib.Utf8Tabs 0 1 w0) (n : Nat) (B : List (List AV)) (Rw : List RowA) (L : List LoopA) (a0 : Ty) (a1 : Vl) (r : Bool) (h : Zch n a0 a1 = some r) :
  ACalls Tryz.prog w0 4 [.agg (a0.cs), .agg (a1.cs)] ⟨B, Rw, L⟩ fun x st => x = .val (.bool r) ∧ st = ⟨B, Rw, L⟩ := by
 rw [Zch] at h
 refine hd [.tmp 4] Tryz.func4 Tryz.ntmps4 fun M0 W0 hN hNR hNL hcalm hu hO hs => ?_
 simp only [Zax]
 refine rg [2, 3] hs ?_
 apply Zab; intro K2 hK2
 apply Zab; intro K3 hK3
 obtain ⟨y4, hy4, h⟩ := bind_some h
 rcases Bool.eq_false_or_eq_true (!y4) with hf5 | hf5
 ·
  replace h := Za9 h hf5
  apply Zac 5 [2, 3, 26]
  rw [Zaa]; simp +decide only [go_sem, Nat.reduceAdd, hf5]
  have hs := And.intro hf5 hs
  (repeat' apply And.intro) <;> first | refine Zae _ (Zca w0 hP hT n _ _ _  _ hy4) (hv hs) ?_ | exact cl
  rw [Zaa]; simp +decide only [go_sem, Nat.reduceAdd, hf5]
  (repeat' apply And.intro) <;> first | refine ZaL ?_ | exact cl
  rw [Zaa]; simp +decide only [go_sem, Nat.reduceAdd, hf5]
  (repeat' apply And.intro) <;> first | refine ZaL ?_ | exact cl
  rw [Zaa]; simp +decide only [go_sem, Nat.reduceAdd, hf5]
  (repeat' apply And.intro) <;> first | refine ZaL ?_ | exact cl
  rw [Zaa]; simp +decide only [go_sem, Nat.reduceAdd, hf5]
  (repeat' apply And.intro) <;> first | refine hK3 _ _ ?_ | exact cl
  clear hK3
  refine ZaH true ev (ef hs) (fun hb6 => ?_) (fun hb6 => by cases hb6)
  obtain ⟨y8, hy8, h⟩ := bind_some h
  refine rc 2 [4] hs ?_; intro K7 hK7
  refine Zae _ (Zca w0 hP hT n _ _ _  _ hy8) (hv hs) ?_
  refine ne hs hK7 ?_
  clear hK7
  exact rt h hs hcalm hO
 ·
  replace h := Zba h hf5
  obtain ⟨y9, hy9, h⟩ := bind_some h
  rcases Bool.eq_false_or_eq_true (!y9) with hf10 | hf10
  ·
   replace h := Za9 h hf10
   apply Zac 5 [2, 3, 26]
   rw [Zaa]; simp +decide only [go_sem, Nat.reduceAdd, hf5, hf10]
   have hs := And.intro hf5 hs
   have hs := And.intro hf10 hs
   (repeat' apply And.intro) <;> first | refine Zae _ (Zca w0 hP hT n _ _ _  _ hy4) (hv hs) ?_ | exact cl
   rw [Zaa]; simp +decide only [go_sem, Nat.reduceAdd, hf5, hf10]
   (repeat' apply And.intro) <;> first | refine Zae _ (ZgL w0 n _ _ _ a0 _ hy9) (hv hs) ?_ | exact cl
   rw [Zaa]; simp +decide only [go_sem, Nat.reduceAdd, hf5, hf10]
   (repeat' apply And.intro) <;> first | refine ZaL ?_ | exact cl
   rw [Zaa]; simp +decide only [go_sem, Nat.reduceAdd, hf5, hf10]
   (repeat' apply And.intro) <;> first | refine ZaL ?_ | exact cl
   rw [Zaa]; simp +decide only [go_sem, Nat.reduceAdd, hf5, hf10]
   (repeat' apply And.intro) <;> first | refine hK3 _ _ ?_ | exact cl
   clear hK3
   refine ZaH true ev (ef hs) (fun hb11 => ?_) (fun hb11 => by cases hb11)
   obtain ⟨y13, hy13, h⟩ := bind_some h
   refine rc 2 [4] hs ?_; intro K12 hK12
   refine Zae _ (Zca w0 hP hT n _ _ _  _ hy13) (hv hs) ?_
   refine ne hs hK12 ?_
   clear hK12
   exact rt h hs hcalm hO
  ·
   replace h := Zba h hf10
   obtain ⟨y14, hy14, h⟩ := bind_some h
   rcases Bool.eq_false_or_eq_true (!y14) with hf15 | hf15
   ·
    replace h := Za9 h hf15
    apply Zac 5 [2, 3, 26]
    rw [Zaa]; simp +decide only [go_sem, Nat.reduceAdd, hf5, hf10, hf15]
    have hs := And.intro hf5 hs
    have hs := And.intro hf10 hs
    have hs := And.intro hf15 hs
    (repeat' apply And.intro) <;> first | refine Zae _ (Zca w0 hP hT n _ _ _  _ hy4) (hv hs) ?_ | exact cl
    rw [Zaa]; simp +decide only [go_sem, Nat.reduceAdd, hf5, hf10, hf15]
    (repeat' apply And.intro) <;> first | refine Zae _ (ZgL w0 n _ _ _ a0 _ hy9) (hv hs) ?_ | exact cl
    rw [Zaa]; simp +decide only [go_sem, Nat.reduceAdd, hf5, hf10, hf15]
    (repeat' apply And.intro) <;> first | refine Zae _ (ZdS w0 n _ _ _ a1 _ hy14) (hv hs) ?_ | exact cl
    rw [Zaa]; simp +decide only [go_sem, Nat.reduceAdd, hf5, hf10, hf15]
    (repeat' apply And.intro) <;> first | refine ZaL ?_ | exact cl
    rw [Zaa]; simp +decide only [go_sem, Nat.reduceAdd, hf5, hf10, hf15]
    (repeat' apply And.intro) <;> first | refine hK3 _ _ ?_ | exact cl
    clear hK3
    refine ZaH true ev (ef hs) (fun hb16 => ?_) (fun hb16 => by cases hb16)
    obtain ⟨y18, hy18, h⟩ := bind_some h
    refine rc 2 [4] hs ?_; intro K17 hK17
    refine Zae _ (Zca w0 hP hT n _ _ _  _ hy18) (hv hs) ?_
    refine ne hs hK17 ?_
    clear hK17
    exact rt h hs hcalm hO
   ·
    replace h := Zba h hf15
    obtain ⟨y19, hy19, h⟩ := bind_some h
    have hs := And.intro hf5 hs
    have hs := And.intro hf10 hs
    have hs := And.intro hf15 hs
    refine rk 5 [2, 3, 26] hs ?_
    refine Zae _ (Zca w0 hP hT n _ _ _  _ hy4) (hv hs) ?_
    refine nc hs ?_
    refine Zae _ (ZgL w0 n _ _ _ a0 _ hy9) (hv hs) ?_
    refine nc hs ?_
    refine Zae _ (ZdS w0 n _ _ _ a1 _ hy14) (hv hs) ?_
    refine nc hs ?_
    refine Zae _ (ZeE w0 hT n _ _ _ a0 a1 _ hy19) (hv hs) ?_
    refine ne hs hK3 ?_
    clear hK3
    refine cnd h hs (fun hs h => ?_) (fun hs h => ?_)
    ·
     have hb20 := hs.1
     obtain ⟨y22, hy22, h⟩ := bind_some h
     refine rc 2 [4] hs ?_; intro K21 hK21
     refine Zae _ (Zca w0 hP hT n _ _ _  _ hy22) (hv hs) ?_
     refine ne hs hK21 ?_
     clear hK21
     exact rt h hs hcalm hO
    have hb20 := hs.1
    refine sk [2, 3] hs hK2 ?_
    clear hK2
    apply Zab; intro K23 hK23
    apply Zab; intro K24 hK24
    obtain ⟨y25, hy25, h⟩ := bind_some h
    rcases Bool.eq_false_or_eq_true ((!(decide (y25 = 0))) || (!(decide (a1.kind = a0.kind)))) with hf26 | hf26
    ·
     replace h := Za9 h hf26
     apply Zac 3 [2, 3, 42]
     rw [Zaa]; simp +decide only [go_sem, Nat.reduceAdd, hf5, hf10, hf15, hb20, hf26, ZaA, Zak, Zah]
     (repeat' apply And.intro) <;> first | refine Zae _ (Ze6 w0 hT n _ _ _ a1 _ hy25) (by first | rfl | (simp +decide only [go_sem, Nat.reduceAdd, hf5, hf10, hf15, hb20, hf26, ZaA, Zak, Zah]; done) | (simp +decide only [go_sem, Nat.reduceAdd, Vl.cs, Ty.cs, hf5, hf10, hf15, hb20, hf26, ZaA, Zak, Zah]; done)) ?_ | exact cl
     rw [Zaa]; simp +decide only [go_sem, Nat.reduceAdd, hf5, hf10, hf15, hb20, hf26, ZaA, Zak, Zah]
     (repeat' apply And.intro) <;> first | refine ZaL ?_ | exact cl
     rw [Zaa]; simp +decide only [go_sem, Nat.reduceAdd, hf5, hf10, hf15, hb20, hf26, ZaA, Zak, Zah]
     (repeat' apply And.intro) <;> first | refine hK24 _ _ ?_ | exact cl
     clear hK24
     have hs := And.intro hf26 hs
     refine ZaH true ev (ef hs) (fun hb27 => ?_) (fun hb27 => by cases hb27)
     refine rg [4] hs ?_
     exact rt h hs hcalm hO
    ·
     replace h := Zba h hf26
     obtain ⟨y29, hy29, h⟩ := bind_some h
     apply Zac 3 [2, 3, 42]
     rw [Zaa]; simp +decide only [go_sem, Nat.reduceAdd, hf5, hf10, hf15, hb20, hf26, ZaA, Zak, Zah]
     (repeat' apply And.intro) <;> first | refine Zae _ (Ze6 w0 hT n _ _ _ a1 _ hy25) (by first | rfl | (simp +decide only [go_sem, Nat.reduceAdd, hf5, hf10, hf15, hb20, hf26, ZaA, Zak, Zah]; done) | (simp +decide only [go_sem, Nat.reduceAdd, Vl.cs, Ty.cs, hf5, hf10, hf15, hb20, hf26, ZaA, Zak, Zah]; done)) ?_ | exact cl
     rw [Zaa]; simp +decide only [go_sem, Nat.reduceAdd, hf5, hf10, hf15, hb20, hf26, ZaA, Zak, Zah]
     (repeat' apply And.intro) <;> first | refine Zae _ (ZeE w0 hT n _ _ _ a0 (Vl.mk 0 0 0 ((⟨#[]⟩ : ByteArray)) ([]) ([])) _ hy29) (by first | rfl | (simp +decide only [go_sem, Nat.reduceAdd, hf5, hf10, hf15, hb20, hf26, ZaA, Zak, Zah]; done) | (simp +decide only [go_sem, Nat.reduceAdd, Vl.cs, Ty.cs, hf5, hf10, hf15, hb20, hf26, ZaA, Zak, Zah]; done)) ?_ | exact cl
     rw [Zaa]; simp +decide only [go_sem, Nat.reduceAdd, hf5, hf10, hf15, hb20, hf26, ZaA, Zak, Zah]
     (repeat' apply And.intro) <;> first | refine hK24 _ _ ?_ | exact cl
     clear hK24
     have hs := And.intro hf26 hs
     refine cnd h hs (fun hs h => ?_) (fun hs h => ?_)
     ·
      have hb30 := hs.1
      refine rg [4] hs ?_
      exact rt h hs hcalm hO
     have hb30 := hs.1
     refine sk [2, 3] hs hK23 ?_
     clear hK23
     apply Zab; intro K32 hK32
     refine rg [2, 3, 45] hs ?_
     refine cnd h hs (fun hs h => ?_) (fun hs h => ?_)
     ·
      have hb34 := hs.1
      refine rg [4] hs ?_
      exact rt h hs hcalm hO
     have hb34 := hs.1
     refine sk [2, 3] hs hK32 ?_
     clear hK32
     apply Zab; intro K36 hK36
     obtain ⟨y37, hy37, h⟩ := bind_some h
     apply ZhI mix [6, 7] [2, 5, 6] (by kernel_rfl) (fun s => ∃ (X : List (List AV)) (rows : List RowA), s = ⟨B ++ ([a0.cs, a1.cs] ++ X), rows, L⟩) 3 (B.length + 2)
     ·
      simp +decide only [go_sem, Nat.reduceAdd]
     ·
      rintro s ⟨X, rows, rfl⟩
      refine ⟨3, ?_⟩
      rw [Zaa]; simp +decide only [go_sem, Nat.reduceAdd, Ze3, hf5, hf10, hf15, hb20, hf26, hb30, hb34]
      (repeat' apply And.intro) <;> first | refine Zae _ (ZnX w0 _ _ _ true) (hv hs) ?_ | exact cl
      rw [Zaa]; simp +decide only [go_sem, Nat.reduceAdd, hf5, hf10, hf15, hb20, hf26, hb30, hb34]
      (repeat' apply And.intro) <;> first | refine Zae _ (Zpr w0 n _ _ _ a1 ((⟨#[122, 122, 95, 111, 116, 104, 101, 114]⟩ : ByteArray)) (Zgw true) _ hy37) (hv hs) ?_ | exact cl
      rw [Zaa]; simp +decide only [go_sem, Nat.reduceAdd, hf5, hf10, hf15, hb20, hf26, hb30, hb34]
      (repeat' apply And.intro) <;> first | rfl | exact cl
     ·
      refine Good.mk [6] (by kernel_rfl) ⟨[], _, by first | rfl | simp only [List.append_nil, List.nil_append]⟩ ?_ ?_
      ·
       intro h; exact absurd h (by decide)
      ·
       intro i hi; simp only [List.mem_cons, List.not_mem_nil, or_false] at hi
       subst hi
       ·
        apply ZdD rfl rfl ev
        ·
         simp +decide only [go_sem, Nat.reduceAdd, ZfL, hf5, hf10, hf15, hb20, hf26, hb30, hb34]
         (repeat' apply And.intro) <;> first | rfl | exact cl
        ·
         simp +decide only [go_sem, Nat.reduceAdd, hf5, hf10, hf15, hb20, hf26, hb30, hb34]
         refine Good.mk [7] (by kernel_rfl) ⟨_, _, by first | rfl | simp only [List.append_nil, List.nil_append]⟩ ?_ ?_
         ·
          intro h; exact absurd h (by decide)
         ·
          intro i hi; simp only [List.mem_cons, List.not_mem_nil, or_false] at hi
          subst hi
          ·
           apply ZdD rfl rfl ev
           ·
            simp +decide only [go_sem, Nat.reduceAdd, ZfL, hf5, hf10, hf15, hb20, hf26, hb30, hb34]
            (repeat' apply And.intro) <;> first | rfl | exact cl
           ·
            simp +decide only [go_sem, Nat.reduceAdd, hf5, hf10, hf15, hb20, hf26, hb30, hb34]
            refine Good.mk [] (by kernel_rfl) ⟨_, _, by first | rfl | simp only [List.append_nil, List.nil_append]⟩ ?_ ?_
            ·
             intro _; apply Zfb [2, 5, 6]; first | (simp +decide only [go_sem, Nat.reduceAdd, hf5, hf10, hf15, hb20, hf26, hb30, hb34]; done) | (simp +decide only [go_sem, Nat.reduceAdd, hf5, hf10, hf15, hb20, hf26, hb30, hb34]; rfl)
            ·
             intro i hi; cases hi
     simp +decide only [go_sem, Nat.reduceAdd, hf5, hf10, hf15, hb20, hf26, hb30, hb34]
     (repeat' apply And.intro) <;> first | refine hK36 _ _ ?_ | exact cl
     clear hK36
     obtain ⟨y39, hy39, h⟩ := bind_some h
     refine rc 2 [2, 5, 6, 8] hs ?_; intro K38 hK38
     refine Zae _ (Zgz w0 n _ _ _ a0 ((⟨#[122, 122, 95, 111, 116, 104, 101, 114]⟩ : ByteArray)) _ hy39) (hv hs) ?_
     refine ne hs hK38 ?_
     clear hK38
     apply Zab; intro K40 hK40
     rcases Bool.eq_false_or_eq_true ((!(decide (y37.2 = 0))) || y39.2) with hf41 | hf41
     ·
      replace h := Za9 h hf41
      apply Zac 2 [4]
      rw [Zaa]; simp +decide only [go_sem, Nat.reduceAdd, hf5, hf10, hf15, hb20, hf26, hb30, hb34, hf41]
      (repeat' apply And.intro) <;> first | refine ZaL ?_ | exact cl
      rw [Zaa]; simp +decide only [go_sem, Nat.reduceAdd, hf5, hf10, hf15, hb20, hf26, hb30, hb34, hf41]
      (repeat' apply And.intro) <;> first | refine hK40 _ _ ?_ | exact cl
      clear hK40
      have hs := And.intro hf41 hs
      exact rt h hs hcalm hO
     ·
      replace h := Zba h hf41
      obtain ⟨y42, hy42, h⟩ := bind_some h
      have hs := And.intro hf41 hs
      refine rk 2 [4] hs ?_
      refine Zae _ (ZeE w0 hT n _ _ _ a0 y37.1 _ hy42) (hv hs) ?_
      refine ne hs hK40 ?_
      clear hK40
      exact rt h hs hcalm hO
theorem Zo4 (n : Nat) (v : Vl) (hs : v.fields.length ≤ 1000000000) (hr : ∀ p ∈ v.fields, Za0 n p.2 = some p.2) (b : List Vl) : ∀ (k m i : Nat), i + k = v.fields.length → k < m → Zb6 n v m i b (v.fields.take i) = some (Vl.mk v.kind v.int v.scale v.text b v.fields)
 | k, 0, i, _, h => absurd h (Nat.not_lt_zero _)
 | 0, m + 1, i, hi, _ => by
  rw [Zb6, Zao, decide_eq_false (by omega)]
  simp only [Bool.false_eq_true, if_false, ZeC]
  rw [List.take_of_length_le (by omega)]
 | k + 1, m + 1, i, hi, hm => by
  have hlt : i < v.fields.length := by omega
  rw [Zb6, Zao, decide_eq_true hlt]
  simp only [if_true, Zaj hlt, Option.bind_some, hr _ (List.getElem_mem hlt)]
  rw [if_pos (by rw [List.length_take]; omega), if_pos (Zap (by omega))]
  have e : v.fields.take i ++ [(v.fields[i].1, v.fields[i].2)] = v.fields.take (i + 1) := by rw [List.take_succ_eq_append_getElem hlt]
  rw [e]
  exact Zo4 n v hs hr b k m (i + 1) (by omega) (by omega)
theorem Ztj (n : Nat) (v : Vl) (hs : v.fields.length ≤ 1000000000 ∧ v.list.length ≤ 1000000000) (hn : v.fields.length < n) (hr : (∀ x ∈ v.list, Za0 n x = some x) ∧ ∀ p ∈ v.fields, Za0 n p.2 = some p.2) : ∀ (k m i : Nat), i + k = v.list.length → k < m → ZcC n v m i (v.list.take i) [] = some v
 | k, 0, i, _, h => absurd h (Nat.not_lt_zero _)
 | 0, m + 1, i, hi, _ => by
  rw [ZcC, Zao, decide_eq_false (by omega)]
  simp only [Bool.false_eq_true, if_false, Zfu]
  rw [List.take_of_length_le (by omega)]
  have := Zo4 n v hs.1 hr.2 v.list v.fields.length n 0 (by omega) hn
  rw [List.take_zero] at this
  exact this.trans (by rw [Vl.eta])
 | k + 1, m + 1, i, hi, hm => by
  have hlt : i < v.list.length := by omega
  rw [ZcC, Zao, decide_eq_true hlt]
  simp only [if_true, Zaj hlt, Option.bind_some, hr.1 _ (List.getElem_mem hlt)]
  rw [if_pos (by rw [List.length_take]; omega), if_pos (Zap (by omega))]
  have e : v.list.take i ++ [v.list[i]] = v.list.take (i + 1) := by rw [List.take_succ_eq_append_getElem hlt]
  rw [e]
  exact Ztj n v hs hn hr k m (i + 1) (by omega) (by omega)
theorem Zn3 (n : Nat) (v : Vl) (hn : v.size < n) (hs : v.size ≤ 1000000000) : ZeT n v = some v := by
 have hl := Zel v
 rw [ZeT]
 have := Ztj n v ⟨by omega, by omega⟩ (by omega) ⟨fun x hx => ZdL n x (by have := v.list_size x hx; omega) (by have := v.list_size x hx; omega), fun p hp => ZdL n p.2 (by have := v.field_size p hp; omega) (by have := v.field_size p hp; omega)⟩ v.list.length n 0 (by omega) (by omega)
 rw [List.take_zero] at this
 exact this
theorem Zo0 (n : Nat) (l : List (ByteArray × Vl)) (f : ByteArray × Vl → Option Bool) (p : ByteArray × Vl → Bool) (hf : ∀ x ∈ l, f x = some (p x)) (hl : l.length ≤ 1000000000) : ∀ (k m i : Nat), i + k = l.length → k < m → ZaM n l f m i = some (ffI p l i)
 | k, 0, i, _, h => absurd h (Nat.not_lt_zero _)
 | 0, m + 1, i, hi, _ => by
  rw [ZaM, Zao, decide_eq_false (by omega), ZeJ p l i (by omega)]
  rfl
 | k + 1, m + 1, i, hi, hm => by
  have hlt : i < l.length := by omega
  rw [ZaM, Zao, decide_eq_true hlt, Zdu p l i hlt]
  simp only [if_true, Zaj hlt, Option.bind_some, hf _ (List.getElem_mem hlt)]
  by_cases h : p l[i] = true
  ·
   rw [if_pos h, if_pos h]
  ·
   rw [if_neg h, if_neg h, if_pos (Zap (by omega))]
   exact Zo0 n l f p hf hl k m (i + 1) (by omega) (by omega)
theorem ZhY : ∀ a b : List (ByteArray × Vl), ZbF (a ++ b) = ZbF a + ZbF b
 | [], b => by simp [ZbF]
 | x :: a, b => by simp only [List.cons_append, ZbF, ZhY a b]; omega
theorem ZrA (l : List (ByteArray × Vl)) (i : Int) (y : ByteArray × Vl) : ZbF (Zet l i y) = ZbF l + y.2.size := by
 unfold Zet
 rw [ZhY, ZbF]
 have := ZhY (l.take i.toNat) (l.drop i.toNat)
 rw [List.take_append_drop] at this
 omega
theorem Zt8 {l : List (ByteArray × Vl)} {i : Int} {y x : ByteArray × Vl} (h : x ∈ Zet l i y) : x = y ∨ x ∈ l := by
 unfold Zet at h
 rcases List.mem_append.1 h with h | h
 ·
  exact .inr (List.mem_of_mem_take h)
 ·
  rcases List.mem_cons.1 h with h | h
  ·
   exact .inl h
  ·
   exact .inr (List.mem_of_mem_drop h)
theorem ZtP (n : Nat) (v x : Vl) (w : ByteArray) (hn : v.size + 10 ≤ n) (hs : v.size ≤ 1000000) (hx : x.size + 10 ≤ n) (hxs : x.size ≤ 1000000) (hk : v.kind = 9) (hw : w.size ≤ maxLen) (hw2 : ZcE w = true) (hx2 : Za7 x = false) :
  (∃ u, Zfj n v w x = some (u, 9)) ∨
  (ZoS v w = true ∧ ∃ fs, Zfj n v w x = some (Vl.mk v.kind v.int v.scale v.text v.list fs, 0)) ∨
  (ZoS v w = false ∧ ∃ i, Zfj n v w x = some (Vl.mk v.kind v.int v.scale v.text v.list (Zet v.fields i (w, x)), 0)) := by
 have hl := Zcw v
 have e : Za8 n v.fields (fun x => some (ZcG x w)) = some (ffI (fun x : ByteArray × Vl => sEq x.1 w) v.fields 0) := ZpL n v.fields _ _ (fun x _ => rfl) (by omega) v.fields.length n 0 (by omega) (by omega)
 have hcl := ZdL n x (by omega) (by omega)
 have hcv := Zn3 n v (by omega) (by omega)
 have k38 : ∀ j : Int, 0 ≤ j → j ≤ v.fields.length → Zd3 n w x v j v.fields = some (Vl.mk v.kind v.int v.scale v.text v.list (Zet v.fields j (w, x)), 0) := fun j h1 h2 => by
  rw [Zd3, hcl, Option.bind_some, if_pos ⟨⟨h1, h2⟩, by omega, by omega⟩]
 rw [Zfj, Ze2, e]
 simp only [Option.bind_some]
 rw [decide_eq_true hk, if_neg (by decide), if_pos hw, hw2, if_neg (by decide), hx2, if_neg (by decide)]
 cases h : ZoS v w with
 | true =>
  have h' := h
  unfold ZoS at h'
  rcases Zd7 (fun x : ByteArray × Vl => sEq x.1 w) v.fields v.fields.length 0 (by omega) with q | ⟨i, hi, q, _⟩
  ·
   have := ZhK (fun x : ByteArray × Vl => sEq x.1 w) v.fields
   rw [q, h'] at this
   cases this
  ·
   right; left
   refine ⟨rfl, ?_⟩
   rw [q, decide_eq_false (show ¬ ((i : Nat) : Int) < 0 by omega), Bool.false_and, if_neg (by decide), hcv, Option.bind_some, if_pos (decide_eq_true (by omega)), hcl, Option.bind_some, Zaj hi, Option.bind_some]
   exact ⟨_, rfl⟩
 | false =>
  have h' := h
  unfold ZoS at h'
  have hf : ffI (fun x : ByteArray × Vl => sEq x.1 w) v.fields 0 < 0 := by
   have := ZmV (fun x : ByteArray × Vl => sEq x.1 w) v.fields
   rw [h'] at this
   exact of_decide_eq_true this
  rw [decide_eq_true hf, Bool.true_and]
  by_cases h64 : 64 ≤ (v.fields.length : Int)
  ·
   left
   rw [decide_eq_true h64, if_pos rfl]
   exact ⟨_, rfl⟩
  ·
   right; right
   refine ⟨rfl, ?_⟩
   rw [decide_eq_false h64, if_neg (by decide), hcv, Option.bind_some, if_neg (by rw [decide_eq_true_eq]; omega)]
   have e2 : ZbA n v.fields (fun x0 => some (ZcR x0 w)) = some (ffI (fun x0 : ByteArray × Vl => ZcR x0 w) v.fields 0) := Zo0 n v.fields _ _ (fun x _ => rfl) (by omega) v.fields.length n 0 (by omega) (by omega)
   rw [e2, Option.bind_some]
   rcases Zd7 (fun x0 : ByteArray × Vl => ZcR x0 w) v.fields v.fields.length 0 (by omega) with q | ⟨i, hi, q, _⟩
   ·
    rw [q, if_pos (by decide), k38 _ (by omega) (by omega)]
    exact ⟨_, rfl⟩
   ·
    rw [q, if_neg (by rw [decide_eq_true_eq]; omega), k38 _ (by omega) (by omega)]
    exact ⟨_, rfl⟩
theorem ZtQ (n : Nat) (t : Ty) (v : Vl) (h1 : t.size + 1500 ≤ n) (h2 : v.size + 1500 ≤ n) (h3 : v.size < 1048576) (ts : t.small) (tg : t.Good) (hv : v.ok) : Zcd n t v = some (decide (ZoR v = 0) && Zjk 12 t v) := by
 rw [Zcd, Zhj n v (by omega) h3 hv, Option.bind_some]
 by_cases h : ZoR v = 0
 ·
  have gv := ZiA h
  obtain ⟨b, b1, b2⟩ := Zl0 n t v h1 h2 (by omega) ts hv tg gv
  rw [Zin n 12 t v h1 h2 (by omega) ts tg gv ts.2.1] at b2
  rw [decide_eq_true h, if_pos rfl, b1, ← Option.some.inj b2]
  rfl
 ·
  rw [decide_eq_false h, if_neg (by decide)]
  rfl
theorem Zm5 {d : Nat} {t : Ty} {v : Vl} (h : Zjk d t v = true) : t.kind = v.kind := by
 cases d with
 | zero => cases h
 | succ d =>
  rw [Zjk] at h
  by_cases q : t.kind = v.kind
  ·
   exact q
  ·
   rw [if_pos q] at h; cases h
theorem Zlk {d : Nat} {t : Ty} {v : Vl} (h : Zjk d t v = true) (hk : v.kind = 9) : ∀ q ∈ v.fields, (ZfO t q.1).isSome = true := by
 have ek := Zm5 h
 cases d with
 | zero => cases h
 | succ d =>
  rw [Zjk, if_neg (by omega), if_neg (by omega), if_neg (by omega), if_neg (by omega), if_neg (by omega), if_neg (by omega), if_neg (by omega), if_pos (by omega), Bool.and_eq_true] at h
  intro q hq
  have := List.all_eq_true.1 h.1 q hq
  cases hf : ZfO t q.1 with
  | none => rw [hf] at this; cases this
  | some p => rfl
theorem Zl4 (n : Nat) (hn : 100000 ≤ n) (t : Ty) (v : Vl) : Zch n t v = some true := by
 have kn := Zrb n (by omega)
 rw [Zch, kn]
 simp only [Option.bind_some, Bool.not_true, Bool.false_eq_true, if_false]
 obtain ⟨b, e, hb⟩ := Zsd n (by omega) t
 rw [e]
 simp only [Option.bind_some]
 cases b with
 | false => rfl
 | true =>
 simp only [Bool.not_true, Bool.false_eq_true, if_false]
 obtain ⟨b, e, hb2⟩ := Zha n (by omega) v
 rw [e]
 simp only [Option.bind_some]
 cases b with
 | false => rfl
 | true =>
 have ht := hb rfl
 have hts := ht.1
 obtain ⟨v1, v2, v3⟩ := hb2 rfl
 obtain ⟨c, c1, c2, c3⟩ := ZpY n t (by omega) ht
 simp only [Bool.not_true, Bool.false_eq_true, if_false]
 by_cases h : c = 0
 ·
  subst h
  have tg := c3 rfl
  have acc : ∀ u : Vl, u.size ≤ 1000 → u.ok → ZbT n t u = some (decide (ZoR u = 0) && Zjk 12 t u) := fun u hu hok => by
   rw [ZbT, c1, Option.bind_some, decide_eq_true rfl, if_pos rfl, ZtQ n t u (by omega) (by omega) (by omega) ht tg hok]
   rfl
  rw [acc v (by omega) v3]
  simp only [Option.bind_some]
  cases hacc : (decide (ZoR v = 0) && Zjk 12 t v) with
  | false => rfl
  | true =>
  rw [Bool.and_eq_true, decide_eq_true_eq] at hacc
  obtain ⟨hc, hh⟩ := hacc
  have hk := Zm5 hh
  simp only [Bool.not_true, Bool.false_eq_true, if_false]
  rw [Zhj n v (by omega) (by omega) v3, hc, Option.bind_some, decide_eq_true (rfl : (0 : Int) = 0), decide_eq_true hk.symm]
  simp only [Bool.not_true, Bool.or_self, Bool.false_eq_true, if_false]
  have z : ZoR (Vl.mk 0 0 0 ⟨#[]⟩ [] []) ≠ 0 := by decide
  rw [acc (Vl.mk 0 0 0 ⟨#[]⟩ [] []) (by simp [Vl.size, Zdf, ZbF]) (by simp [Vl.ok, ZsF, ZsZ]; decide), decide_eq_false z]
  simp only [Bool.false_and, Option.bind_some, Bool.false_eq_true, if_false]
  by_cases h9 : v.kind = 9
  ·
   rw [decide_eq_true h9]
   simp only [Bool.not_true, Bool.false_eq_true, if_false]
   have hF : ∀ w, Zct n t w = (Zdv n t (fun x => some (sEq x.2.1 w))).bind fun y3 => some (y3.1, y3.2) := fun _ => rfl
   have hfield : ∀ w : ByteArray, ∃ u, Zct n t w = some (u, (ZfO t w).isSome) := fun w => by
    rw [hF]
    have hff : ZfO t w = idx t.fields (ffI (fun x : TF => sEq x.2.1 w) t.fields 0) := ZkB _ _
    rcases ZmI n t (fun x => sEq x.2.1 w) (by omega) ht with ⟨k1, k2, _⟩ | ⟨_, ⟨q1, q2⟩ | ⟨j, hj, q1, q2⟩⟩
    ·
     omega
    ·
     rw [q2, hff, q1]; exact ⟨_, rfl⟩
    ·
     rw [q2, hff, q1, Zaj hj]; exact ⟨_, rfl⟩
   have hb1 : Zgw true = Vl.mk 1 1 0 ⟨#[]⟩ [] [] := rfl
   generalize hwd : (⟨#[122, 122, 95, 111, 116, 104, 101, 114]⟩ : ByteArray) = w
   obtain ⟨u, hu⟩ := hfield w
   have hwz : w.size = 8 := by rw [← hwd]; rfl
   have hwn : ZcE w = true := by rw [← hwd]; decide
   have hbs : (Vl.mk 1 1 0 ⟨#[]⟩ [] []).size = 1 := by simp [Vl.size, Zdf, ZbF]
   have hbo : (Vl.mk 1 1 0 ⟨#[]⟩ [] []).ok := by simp [Vl.ok, ZsF, ZsZ]; decide
   rw [hb1]
   rcases ZtP n v (Vl.mk 1 1 0 ⟨#[]⟩ [] []) w (by omega) (by omega) (by omega) (by omega) h9 (by rw [hwz]; decide) hwn (by decide) with ⟨r, hr⟩ | ⟨hN, fs, hr⟩ | ⟨hN, i, hr⟩
   ·
    rw [hr, hu]
    simp
   ·
    rw [hr, hu]
    have : (ZfO t w).isSome = true := by
     unfold ZoS at hN
     obtain ⟨q, hq, hqn⟩ := List.any_eq_true.1 hN
     rw [← (Zm0 _ _).1 hqn]
     exact Zlk hh h9 q hq
    simp [this]
   ·
    rw [hr, hu, Option.bind_some, Option.bind_some, decide_eq_true (rfl : (0 : Int) = 0)]
    cases hff : (ZfO t w).isSome with
    | true => rfl
    | false =>
     simp only [Bool.not_true, Bool.or_self, Bool.false_eq_true, if_false]
     have hsz := v.size_eq
     obtain ⟨o1, o2, o3⟩ := (Vl.ok_eq v).1 v3
     have hfs := ZrA v.fields i (w, Vl.mk 1 1 0 ⟨#[]⟩ [] [])
     have hfm : ∀ p ∈ Zet v.fields i (w, Vl.mk 1 1 0 ⟨#[]⟩ [] []), p.1.size ≤ 100 ∧ p.2.ok := fun p hp => by
      rcases Zt8 hp with rfl | hp
      ·
       exact ⟨by simp only; omega, hbo⟩
      ·
       exact o3 p hp
     have hu1 : (Vl.mk v.kind v.int v.scale v.text v.list (Zet v.fields i (w, Vl.mk 1 1 0 ⟨#[]⟩ [] []))).size ≤ 1000 := by
      have e1 : (Vl.mk v.kind v.int v.scale v.text v.list (Zet v.fields i (w, Vl.mk 1 1 0 ⟨#[]⟩ [] []))).size = 1 + Zdf v.list + ZbF (Zet v.fields i (w, Vl.mk 1 1 0 ⟨#[]⟩ [] [])) := by simp only [Vl.size]
      rw [e1, hfs]
      simp only [hbs]
      omega
     rw [acc (Vl.mk v.kind v.int v.scale v.text v.list (Zet v.fields i (w, Vl.mk 1 1 0 ⟨#[]⟩ [] []))) hu1 ((Vl.ok_eq (Vl.mk v.kind v.int v.scale v.text v.list (Zet v.fields i (w, Vl.mk 1 1 0 ⟨#[]⟩ [] [])))).2 ⟨o1, o2, hfm⟩)]
     cases hx : Zjk 12 t (Vl.mk v.kind v.int v.scale v.text v.list (Zet v.fields i (w, Vl.mk 1 1 0 ⟨#[]⟩ [] []))) with
     | false => rw [Bool.and_false]; rfl
     | true =>
      have := Zlk hx h9 (w, Vl.mk 1 1 0 ⟨#[]⟩ [] []) (by simp [Vl.fields, Zet])
      simp only at this
      rw [hff] at this
      cases this
  ·
   rw [decide_eq_false h9]
   rfl
 ·
  rw [ZbT, c1, Option.bind_some, decide_eq_false h, if_neg (by decide)]
  rfl
end Go.Proofs.YtgpmlelfkjfbiaaGreatDoor
