/-
  Part 5 of the proof: rules and walks that the claim's last text uses.
-/
import Derived.Test.YtgpmlelfkjfbiaaGreatDoorSx4
set_option linter.unusedSimpArgs false
set_option linter.unusedVariables false
set_option maxRecDepth 100000
set_option maxHeartbeats 4000000
namespace Go.Proofs.YtgpmlelfkjfbiaaGreatDoor
open Go Go.RowKit Go.Ev
theorem ZhT {j : Nat} : ((j + 1 : Nat) : Int) - 1 = (j : Int) := by omega
theorem ZlA {j : Nat} : decide (0 < ((j + 1 : Nat) : Int)) = true := decide_eq_true (by omega)
theorem Zir {k : Nat} (h : k < 1000000000000) : I64 (k : Int) := by unfold I64; omega
def Zrn : Option ByteArray → List ByteArray → Int
 | _, [] => 0
 | none, x :: r => if Zc3 x = true then Zrn (some x) r else 12
 | some p, x :: r => if Zc3 x = true then (if sEq x p = true then 7 else if sLt x p = true then 24 else Zrn (some x) r) else 12
def Zor (l : List (ByteArray × Vl)) : Nat → Option ByteArray
 | 0 => none
 | i + 1 => (l[i]?).map Prod.fst
theorem Zqk (n : Nat) (l : List (ByteArray × Vl)) (hl : (l).length ≤ 1000000000) (hz : ∀ p ∈ l, p.1.size ≤ maxLen) : ∀ (k m i : Nat), i + k = (l).length → k < m → ZbP n l m i = some (Zrn (Zor (l) i) (((l).map Prod.fst).drop i))
 | k, 0, i, _, h => absurd h (Nat.not_lt_zero _)
 | 0, m + 1, i, hi, _ => by
  rw [ZbP, Zao, decide_eq_false (by omega)]
  simp only [Bool.false_eq_true, if_false, Ze8]
  rw [List.drop_eq_nil_of_le (by rw [List.length_map]; omega)]
  cases Zor (l) i <;> rfl
 | k + 1, m + 1, i, hi, hm => by
  have hlt : i < (l).length := by omega
  have ih := Zqk n l hl hz k m (i + 1) (by omega) (by omega)
  rw [ZbP, Zao, decide_eq_true hlt]
  simp only [if_true, Zap hlt, Option.bind_some]
  rw [if_pos (hz _ (List.getElem_mem hlt)), List.drop_eq_getElem_cons (by rw [List.length_map]; omega), List.getElem_map]
  have hp : Zor (l) (i + 1) = some (l)[i].1 := by simp only [Zor, List.getElem?_eq_getElem hlt]; rfl
  rw [hp] at ih
  cases i with
  | zero =>
   simp only [Zor, Zrn]
   by_cases hb : Zc3 (l)[0].1 = true
   ·
    rw [if_pos hb, hb]
    simp only [Bool.not_true, Bool.false_eq_true, if_false]
    rw [if_neg (by decide), if_pos (Zaq (by omega))]
    exact ih
   ·
    rw [if_neg hb, Bool.eq_false_iff.2 hb]; rfl
  | succ j =>
   have hj : j < (l).length := by omega
   have hq : Zor (l) (j + 1) = some (l)[j].1 := by simp only [Zor, List.getElem?_eq_getElem hj]; rfl
   rw [hq]
   simp only [Zrn]
   by_cases hb : Zc3 (l)[j + 1].1 = true
   ·
    rw [if_pos hb, hb]
    simp only [Bool.not_true, Bool.false_eq_true, if_false, ZlA, if_true, ZhT]
    have hI : I64 (j : Int) := Zir (by omega)
    simp only [if_pos hI, Zap hj, Option.bind_some]
    by_cases h1 : sEq (l)[j + 1].1 (l)[j].1 = true
    ·
     rw [if_pos h1, if_pos h1]
    ·
     rw [if_neg h1, if_neg h1]
     by_cases h2 : sLt (l)[j + 1].1 (l)[j].1 = true
     ·
      rw [if_pos h2, if_pos h2]
     ·
      rw [if_neg h2, if_neg h2, if_pos (Zaq (by omega))]
      exact ih
   ·
    rw [if_neg hb, Bool.eq_false_iff.2 hb]; rfl
theorem ZqY (n : Nat) (v : Vl) (hl : (v.fields).length ≤ 1000000000) (hz : ∀ p ∈ v.fields, p.1.size ≤ maxLen) : ∀ (k m i : Nat), i + k = (v.fields).length → k < m → ZbQ n v m i = some (Zrn (Zor (v.fields) i) (((v.fields).map Prod.fst).drop i))
 | k, 0, i, _, h => absurd h (Nat.not_lt_zero _)
 | 0, m + 1, i, hi, _ => by
  rw [ZbQ, Zao, decide_eq_false (by omega)]
  simp only [Bool.false_eq_true, if_false, Zff]
  rw [List.drop_eq_nil_of_le (by rw [List.length_map]; omega)]
  cases Zor (v.fields) i <;> rfl
 | k + 1, m + 1, i, hi, hm => by
  have hlt : i < (v.fields).length := by omega
  have ih := ZqY n v hl hz k m (i + 1) (by omega) (by omega)
  rw [ZbQ, Zao, decide_eq_true hlt]
  simp only [if_true, Zap hlt, Option.bind_some]
  rw [if_pos (hz _ (List.getElem_mem hlt)), List.drop_eq_getElem_cons (by rw [List.length_map]; omega), List.getElem_map]
  have hp : Zor (v.fields) (i + 1) = some (v.fields)[i].1 := by simp only [Zor, List.getElem?_eq_getElem hlt]; rfl
  rw [hp] at ih
  cases i with
  | zero =>
   simp only [Zor, Zrn]
   by_cases hb : Zc3 (v.fields)[0].1 = true
   ·
    rw [if_pos hb, hb]
    simp only [Bool.not_true, Bool.false_eq_true, if_false]
    rw [if_neg (by decide), if_pos (Zaq (by omega))]
    exact ih
   ·
    rw [if_neg hb, Bool.eq_false_iff.2 hb]; rfl
  | succ j =>
   have hj : j < (v.fields).length := by omega
   have hq : Zor (v.fields) (j + 1) = some (v.fields)[j].1 := by simp only [Zor, List.getElem?_eq_getElem hj]; rfl
   rw [hq]
   simp only [Zrn]
   by_cases hb : Zc3 (v.fields)[j + 1].1 = true
   ·
    rw [if_pos hb, hb]
    simp only [Bool.not_true, Bool.false_eq_true, if_false, ZlA, if_true, ZhT]
    have hI : I64 (j : Int) := Zir (by omega)
    simp only [if_pos hI, Zap hj, Option.bind_some]
    by_cases h1 : sEq (v.fields)[j + 1].1 (v.fields)[j].1 = true
    ·
     rw [if_pos h1, if_pos h1]
    ·
     rw [if_neg h1, if_neg h1]
     by_cases h2 : sLt (v.fields)[j + 1].1 (v.fields)[j].1 = true
     ·
      rw [if_pos h2, if_pos h2]
     ·
      rw [if_neg h2, if_neg h2, if_pos (Zaq (by omega))]
      exact ih
   ·
    rw [if_neg hb, Bool.eq_false_iff.2 hb]; rfl
def ZfD (v : Vl) : Int :=
 if ZbB v = true then 19
 else if v.kind < 1 ∨ 10 < v.kind then 11
 else if Za4 v = true then 3
 else if v.kind = 1 then (if ZaD v.int 0 1 = true then 2 else 0)
 else if v.kind = 2 then (if ZaD v.int (-999999999999999) 999999999999999 = true ∨ ZaD v.scale 0 12 = true then 2 else 0)
 else if v.kind = 3 then (if ZaD v.int (-999999999999999) 999999999999999 = true ∨ ZaD v.scale 0 12 = true then 2 else 0)
 else if v.kind = 4 then (if 1024 < v.text.size then 5 else if Lib.validD v.text.data.toList = true then 0 else 16)
 else if v.kind = 5 then (if 1024 < v.text.size then 5 else 0)
 else if v.kind = 6 then (if ZaD v.int (-719162) 2932896 = true then 2 else 0)
 else if v.kind = 7 then (if ZaD v.int (-62135596800000) 253402300799999 = true then 2 else 0)
 else if v.kind = 8 then (if 256 < v.list.length then 9 else 0)
 else if v.kind = 9 then (if 64 < v.fields.length then 9 else Zrn none (v.fields.map Prod.fst))
 else if Zc3 v.text = true then (if v.list.length = 0 then 4 else if 1 < v.list.length then 3 else 0) else 12
theorem Zdq {k : Int} (h : ¬ (k < 1 ∨ 10 < k)) : k = 1 ∨ k = 2 ∨ k = 3 ∨ k = 4 ∨ k = 5 ∨ k = 6 ∨ k = 7 ∨ k = 8 ∨ k = 9 ∨ k = 10 := by omega
theorem ZrU (n : Nat) (v : Vl) (hn : v.fields.length < n) (hs : v.fields.length ≤ 1000000000) (hv : v.ok) : ZhJ n v = some (ZfD v) := by
 obtain ⟨o1, _, o3⟩ := v.ok_eq.1 hv
 have hz : ∀ p ∈ v.fields, p.1.size ≤ maxLen := fun p hp => Zkv (by have := (o3 p hp).1; omega)
 have hf : Ze0 n v.fields = some (if 64 < v.fields.length then 9 else Zrn none (v.fields.map Prod.fst)) := by
  rw [Ze0]
  by_cases h : 64 < v.fields.length
  ·
   rw [if_pos h, if_pos (decide_eq_true (by omega))]
  ·
   rw [if_neg h, if_neg (by rw [decide_eq_true_eq]; omega)]
   exact Zqk n v.fields hs hz v.fields.length n 0 (by omega) hn
 have ht : v.text.size ≤ maxLen := Zkv o1
 rw [ZhJ, ZfD, show ZgC v = ZbB v from rfl]
 by_cases h1 : ZbB v = true
 ·
  rw [if_pos h1, if_pos h1]
 rw [if_neg h1, if_neg h1]
 by_cases h2 : v.kind < 1 ∨ 10 < v.kind
 ·
  rw [if_pos h2, if_pos (by simpa using h2)]
 rw [if_neg h2, if_neg (by simpa using h2)]
 by_cases h3 : Za4 v = true
 ·
  rw [if_pos h3, if_pos h3]
 rw [if_neg h3, if_neg h3]
 rcases Zdq h2 with hk | hk | hk | hk | hk | hk | hk | hk | hk | hk <;>
  simp only [hk, Zfx, Zfv, Zb1, hf, ht, if_true, Option.bind_some] <;> simp
 all_goals (repeat' split) <;> first | rfl | (exfalso; omega) | simp_all
theorem Zu7 (v : Vl) (h : ¬ (v.kind < 1 ∨ 10 < v.kind)) : ZgL v = !Za4 v := by
 have hp : ∀ x : Nat, decide (0 < (x : Int)) = !decide ((x : Int) = 0) := fun x => by
  by_cases h : x = 0
  ·
   subst h; rfl
  ·
   rw [decide_eq_true (show 0 < (x : Int) by omega), decide_eq_false (show ¬ (x : Int) = 0 by omega)]; rfl
 rw [ZgL, Za4]
 simp only [hp]
 rcases Zdq h with hk | hk | hk | hk | hk | hk | hk | hk | hk | hk <;> simp only [hk] <;> simp [Bool.and_assoc]
theorem ZwY (n : Nat) (hn : 3 ≤ n) (a b : Int) : Zgv n [a, b] = some (if a = 0 then b else a) := by
 obtain ⟨m, rfl⟩ : ∃ m, n = m + 3 := ⟨n - 3, by omega⟩
 rw [Zgv, Zd3]
 simp only [List.length_cons, List.length_nil]
 rw [if_pos (by simp), show idx [a, b] 0 = some a from rfl]
 simp only [Option.bind_some]
 by_cases h : a = 0
 ·
  rw [decide_eq_true h, if_neg (by decide), if_pos (by decide), if_pos h, Zd3]
  simp only [List.length_cons, List.length_nil]
  rw [if_pos (by simp), show idx [a, b] (0 + 1) = some b from rfl]
  simp only [Option.bind_some]
  by_cases h2 : b = 0
  ·
   rw [decide_eq_true h2, if_neg (by decide), if_pos (by decide), Zd3]
   simp only [List.length_cons, List.length_nil]
   rw [if_neg (by simp), Zg2, h2]
  ·
   rw [decide_eq_false h2, if_pos (by decide)]
 ·
  rw [decide_eq_false h, if_pos (by decide), if_neg h]
theorem ZsA (n : Nat) (hn : 3 ≤ n) (v : Vl) (hfl : v.fields.length < n) (hs : v.fields.length ≤ 1000000000) (hv : v.ok) (h1 : ¬ ZbB v = true) (h2 : ¬ (v.kind < 1 ∨ 10 < v.kind)) (h3 : ¬ Za4 v = true) :
  (v.kind = 1 → Zcu v = ZfD v) ∧ (v.kind = 2 → ZcL v = ZfD v) ∧ (v.kind = 3 → ZeX n v = some (ZfD v)) ∧ (v.kind = 4 → ZeI v = some (ZfD v)) ∧ (v.kind = 5 → ZcG v = ZfD v) ∧
  (v.kind = 6 → ZcN v = ZfD v) ∧ (v.kind = 7 → Zcz v = ZfD v) ∧ (v.kind = 8 → ZcJ v = ZfD v) ∧ (v.kind = 9 → ZeS n v = some (ZfD v)) ∧ (v.kind = 10 → Zeq v = some (ZfD v)) := by
 obtain ⟨o1, _, o3⟩ := v.ok_eq.1 hv
 have hz : ∀ p ∈ v.fields, p.1.size ≤ maxLen := fun p hp => Zkv (by have := (o3 p hp).1; omega)
 have ht : v.text.size ≤ maxLen := Zkv o1
 rw [ZfD, if_neg h1, if_neg h2, if_neg h3]
 refine ⟨fun hk => ?_, fun hk => ?_, fun hk => ?_, fun hk => ?_, fun hk => ?_, fun hk => ?_, fun hk => ?_, fun hk => ?_, fun hk => ?_, fun hk => ?_⟩
 ·
  simp [hk, Zcu, ZaV, ZaD]
 ·
  have hsc : v.scale = 0 := by
   rw [Za4] at h3
   simp [hk] at h3
   exact h3.1.1.1
  simp [hk, hsc, ZcL, ZaV, ZaD]
 ·
  rw [ZeX, ZwY n hn]
  simp [hk, ZaV, ZaD]
  by_cases q : v.int < -999999999999999 ∨ 999999999999999 < v.int
  ·
   simp [q]; omega
  ·
   simp [q]; omega
 ·
  rw [ZeI]
  simp only [hk, Zbp, Zdp, if_pos ht]
  simp
  (repeat' split) <;> first | rfl | (exfalso; omega) | simp_all
 ·
  simp [hk, ZcG, Zbp]
  (repeat' split) <;> first | rfl | (exfalso; omega) | simp_all
 ·
  simp [hk, ZcN, ZaV, ZaD]
 ·
  simp [hk, Zcz, ZaV, ZaD]
 ·
  simp [hk, ZcJ, Zbp]
  (repeat' split) <;> first | rfl | (exfalso; omega) | simp_all
 ·
  rw [ZeS]
  by_cases h : 64 < v.fields.length
  ·
   simp [hk, Zbp, h, show (64 : Int) < (v.fields.length : Int) by omega]
  ·
   have e := ZqY n v hs hz v.fields.length n 0 (by omega) hfl
   simp only [List.drop_zero] at e
   simp only [hk, Zbp, decide_eq_false (show ¬ (64 : Int) < (v.fields.length : Int) by omega), Bool.false_eq_true, if_false, decide_true, Bool.not_true, if_neg h]
   exact e
 ·
  rw [Zeq, if_pos ht]
  simp only [hk, Zbp]
  simp
  (repeat' split) <;> first | rfl | (exfalso; omega) | simp_all
theorem ZuN (n : Nat) (hn : 3 ≤ n) (lv : Nat) (v : Vl) (rest : List (Nat × Vl)) (c : Int) (hfl : v.fields.length < n) (hs : v.fields.length ≤ 1000000000) (hv : v.ok) :
  ZaY n ((lv, v) :: rest) c = if I64 (c + 1) then (if 4096 < c + 1 then some 9 else if 8 < (lv : Int) then some 23 else if ZfD v = 0 then ZaY n rest (c + 1) else some (ZfD v)) else none := by
 rw [ZaY]
 by_cases hI : I64 (c + 1)
 rotate_left
 ·
  rw [if_neg hI, if_neg hI]
 rw [if_pos hI, if_pos hI]
 by_cases q1 : 4096 < c + 1
 ·
  rw [if_pos q1, if_pos (decide_eq_true q1)]
 rw [if_neg q1, if_neg (by simpa using q1)]
 by_cases q2 : 8 < (lv : Int)
 ·
  rw [if_pos q2, if_pos (decide_eq_true q2)]
 rw [if_neg q2, if_neg (by simpa using q2)]
 simp only
 by_cases h1 : ZbB v = true
 ·
  have : ZfD v = 19 := by rw [ZfD, if_pos h1]
  rw [if_pos h1, this]; rfl
 rw [if_neg h1]
 by_cases h2 : v.kind < 1 ∨ 10 < v.kind
 ·
  have : ZfD v = 11 := by rw [ZfD, if_neg h1, if_pos h2]
  rw [if_pos (by simpa using h2), this]; rfl
 rw [if_neg (by simpa using h2), Zu7 v h2]
 by_cases h3 : Za4 v = true
 ·
  have : ZfD v = 3 := by rw [ZfD, if_neg h1, if_neg h2, if_pos h3]
  rw [h3, this]; rfl
 rw [Bool.eq_false_iff.2 h3]
 obtain ⟨r1, r2, r3, r4, r5, r6, r7, r8, r9, r10⟩ := ZsA n hn v hfl hs hv h1 h2 h3
 rcases Zdq h2 with hk | hk | hk | hk | hk | hk | hk | hk | hk | hk
 ·
  have e := r1 hk; by_cases z : ZfD v = 0 <;> simp [hk, e, z]
 ·
  have e := r2 hk; by_cases z : ZfD v = 0 <;> simp [hk, e, z]
 ·
  have e := r3 hk; by_cases z : ZfD v = 0 <;> simp [hk, e, z]
 ·
  have e := r4 hk; by_cases z : ZfD v = 0 <;> simp [hk, e, z]
 ·
  have e := r5 hk; by_cases z : ZfD v = 0 <;> simp [hk, e, z]
 ·
  have e := r6 hk; by_cases z : ZfD v = 0 <;> simp [hk, e, z]
 ·
  have e := r7 hk; by_cases z : ZfD v = 0 <;> simp [hk, e, z]
 ·
  have e := r8 hk; by_cases z : ZfD v = 0 <;> simp [hk, e, z]
 ·
  have e := r9 hk; by_cases z : ZfD v = 0 <;> simp [hk, e, z]
 ·
  have e := r10 hk; by_cases z : ZfD v = 0 <;> simp [hk, e, z]
def ZlS : List (Nat × Vl) → Int → Int
 | [], _ => 0
 | p :: r, c => if 4096 < c + 1 then 9 else if 8 < (p.1 : Int) then 23 else if ZfD p.2 = 0 then ZlS r (c + 1) else ZfD p.2
def ZuF (v : Vl) : Int := ZlS (Zge 1 v) 0
theorem ZlX {v x : Vl} (h : x ∈ Zbi v) : x ∈ v.list ∨ ∃ p ∈ v.fields, p.2 = x := by
 unfold Zbi at h
 split at h
 ·
  exact .inl h
 ·
  split at h
  ·
   obtain ⟨p, hp, rfl⟩ := List.mem_map.1 h; exact .inr ⟨p, hp, rfl⟩
  ·
   simp at h
theorem ZeG {v x : Vl} (h : x ∈ Zbi v) : x.size < v.size := by
 rcases ZlX h with h | ⟨p, hp, rfl⟩
 ·
  exact v.list_size x h
 ·
  exact v.field_size p hp
theorem ZoT {v x : Vl} (hv : v.ok) (h : x ∈ Zbi v) : x.ok := by
 obtain ⟨_, o2, o3⟩ := v.ok_eq.1 hv
 rcases ZlX h with h | ⟨p, hp, rfl⟩
 ·
  exact o2 x h
 ·
  exact (o3 p hp).2
theorem Zun : ∀ (k : Nat) (v : Vl) (lv : Nat), v.size ≤ k → v.ok → ∀ p ∈ Zge lv v, p.2.ok ∧ p.2.size ≤ v.size
 | 0, v, lv, h, hv, p, hp => absurd h (by have := v.size_eq; omega)
 | k + 1, v, lv, h, hv, p, hp => by
  rw [Zht] at hp
  rcases List.mem_cons.1 hp with rfl | hp
  ·
   exact ⟨hv, Nat.le_refl _⟩
  ·
   obtain ⟨x, hx, hp⟩ := List.mem_flatMap.1 hp
   have := ZeG hx
   obtain ⟨h1, h2⟩ := Zun k x (lv + 1) (by omega) (ZoT hv hx) p hp
   exact ⟨h1, by omega⟩
theorem Zfk (v : Vl) : v.fields.length < v.size := by have := Zg6 v.fields; have := v.size_eq; omega
theorem Zmb (n : Nat) (hn : 3 ≤ n) : ∀ (l : List (Nat × Vl)) (c : Int), (∀ p ∈ l, p.2.ok ∧ p.2.size ≤ 1000000000 ∧ p.2.size < n) → 0 ≤ c → c ≤ 4096 → ZaY n l c = some (ZlS l c)
 | [], c, _, _, _ => rfl
 | p :: r, c, hl, h1, h2 => by
  obtain ⟨o1, o2, o3⟩ := hl p (List.mem_cons_self ..)
  have := Zfk p.2
  rw [show p = (p.1, p.2) from rfl, ZuN n hn p.1 p.2 r c (by omega) (by omega) o1, if_pos (by unfold I64; omega), ZlS]
  simp only
  split
  ·
   rfl
  ·
   split
   ·
    rfl
   ·
    split
    ·
     exact Zmb n hn r (c + 1) (fun q hq => hl q (List.mem_cons_of_mem _ hq)) (by omega) (by omega)
    ·
     rfl
theorem ZmY (n : Nat) (v : Vl) (hn : v.size + 3 ≤ n) (hs : v.size < 1048576) (hv : v.ok) : ZeP n v = some (ZuF v) := by
 rw [ZeP, if_pos hs]
 exact Zmb n (by omega) _ 0 (fun p hp => by obtain ⟨h1, h2⟩ := Zun v.size v 1 (Nat.le_refl _) hv p hp; exact ⟨h1, by omega, by omega⟩) (by omega) (by omega)
theorem Zqy (n : Nat) (v : Vl) (hs : v.fields.length ≤ 1000000000) : ∀ (k m i : Nat) (x : List Vl), i + k = v.fields.length → k < m → x.length = i → Zcq n v m x i = some (x ++ (v.fields.drop i).map (·.2))
 | k, 0, i, _, _, h, _ => absurd h (Nat.not_lt_zero _)
 | 0, m + 1, i, x, hi, _, _ => by
  rw [Zcq, Zao, decide_eq_false (by omega)]
  simp only [Bool.false_eq_true, if_false, ZdU]
  rw [List.drop_eq_nil_of_le (by omega), List.map_nil, List.append_nil]
 | k + 1, m + 1, i, x, hi, hm, hx => by
  have hlt : i < v.fields.length := by omega
  rw [Zcq, Zao, decide_eq_true hlt]
  simp only [if_true, Zap hlt, Option.bind_some]
  rw [if_pos (by omega), if_pos (Zaq (by omega))]
  have ih := Zqy n v hs k m (i + 1) (x ++ [v.fields[i].2]) (by omega) (by omega) (by simp [hx])
  rw [List.drop_eq_getElem_cons hlt, List.map_cons]
  rw [List.append_assoc] at ih
  exact ih
theorem Zkp (n : Nat) (v : Vl) (hn : v.size ≤ n) (hs : v.size ≤ 1000000000) : ZeD n v = some (Zbi v) := by
 have a := Zis v.list
 have b := Zg6 v.fields
 have c := v.size_eq
 have h8 : ∀ b : Bool, b = true → Zdh n v b = some v.list := fun b hb => by
  rw [Zdh, if_pos hb, if_pos (by omega)]; rfl
 rw [ZeD, Zbi]
 by_cases h1 : v.kind = 8
 ·
  rw [if_pos (decide_eq_true h1), h8 true rfl, if_pos (.inl h1)]
 ·
  rw [if_neg (by rw [decide_eq_true_eq]; exact h1)]
  by_cases h2 : v.kind = 10
  ·
   rw [h8 _ (decide_eq_true h2), if_pos (.inr h2)]
  ·
   rw [if_neg (by omega), Zdh, if_neg (by rw [decide_eq_true_eq]; exact h2)]
   by_cases h3 : v.kind = 9
   ·
    rw [if_pos (decide_eq_true h3), if_pos h3]
    have := Zqy n v (by omega) v.fields.length n 0 [] (by omega) (by omega) rfl
    rw [List.drop_zero, List.nil_append] at this
    exact this
   ·
    rw [if_neg (by rw [decide_eq_true_eq]; exact h3), if_neg h3]; rfl
theorem Zra (n : Nat) (ag : List Itm → Int → Option Int) (c : Int) (it : Itm) (ys : List Vl) (h1 : I64 (it.level + 1)) (h2 : I64 (c + 1)) : ∀ (k m : Nat) (s : List Itm), k ≤ ys.length → k < m → s.length + k ≤ 1000000000 →
  ZcH n ag c it ys m s ((k : Int) - 1) = ag (s ++ ((ys.take k).map fun y => Itm.mk y (it.level + 1)).reverse) (c + 1)
 | k, 0, s, _, h, _ => absurd h (Nat.not_lt_zero _)
 | 0, m + 1, s, _, _, _ => by
  rw [ZcH, if_neg (by simp), Zfc, if_pos h2]
  simp
 | k + 1, m + 1, s, hk, hm, hs2 => by
  have hlt : k < ys.length := by omega
  rw [ZcH, if_pos (by simp), ZhT, Zap hlt]
  simp only [Option.bind_some]
  rw [if_pos h1, if_pos (by omega), if_pos (by unfold I64; omega), Zra n ag c it ys h1 h2 k m _ (by omega) (by omega) (by simp; omega)]
  rw [List.take_succ_eq_append_getElem hlt, List.map_append, List.reverse_append, List.append_assoc]
  rfl
def Zps (s : List Itm) : List (Nat × Vl) := s.reverse.flatMap fun it => Zge it.level.toNat it.v
def szS (s : List Itm) : Nat := (s.map fun it => it.v.size).sum
theorem ZqA (s t : List Itm) : szS (s ++ t) = szS s + szS t := by simp [szS]
theorem Zvt (s : List Itm) : szS s.reverse = szS s := by unfold szS; rw [List.map_reverse, List.sum_reverse]
theorem ZoH : ∀ l : List Vl, Zet l = (l.map Vl.size).sum
 | [] => rfl
 | v :: r => by simp [Zet, ZoH r]
theorem ZoD : ∀ l : List (ByteArray × Vl), Zei l = (l.map fun p => p.2.size).sum
 | [] => rfl
 | (_, v) :: r => by simp [Zei, ZoD r]
theorem ZmP (v : Vl) : ((Zbi v).map Vl.size).sum < v.size := by
 have c := v.size_eq
 unfold Zbi
 split
 ·
  rw [← ZoH]; omega
 ·
  split
  ·
   rw [List.map_map]
   have := ZoD v.fields
   have e : (v.fields.map (Vl.size ∘ fun x => x.2)).sum = Zei v.fields := this.symm
   omega
  ·
   simp; omega
theorem ZqO (l : List Vl) (z : Int) : szS (l.map fun y => Itm.mk y z) = (l.map Vl.size).sum := by
 unfold szS; rw [List.map_map]; rfl
theorem Zny : ∀ s : List Itm, s.length ≤ szS s
 | [] => Nat.le_refl _
 | it :: r => by have := Zny r; have := it.v.size_eq; simp [szS] at *; omega
theorem Zuv (n : Nat) : ∀ (m : Nat) (s : List Itm) (c : Int), szS s < m → szS s ≤ 1000000000 → (∀ it ∈ s, 0 ≤ it.level ∧ it.level ≤ 9 ∧ it.v.ok ∧ it.v.size < n) → 0 ≤ c → c ≤ 4096 → Zch n m s c = some (ZlS (Zps s) c)
 | 0, s, c, h, _, _, _, _ => absurd h (Nat.not_lt_zero _)
 | m + 1, s, c, h, hz, hs, h1, h2 => by
  have hlen := Zny s
  rw [Zch]
  rcases List.eq_nil_or_concat s with rfl | ⟨t, it, rfl⟩
  ·
   rfl
  ·
   rw [List.concat_eq_append] at *
   obtain ⟨q1, q2, q3, q4⟩ := hs it (by simp)
   have e1 : (((t ++ [it]).length : Int)) - 1 = (t.length : Int) := by rw [List.length_append]; simp
   have e2 : idx (t ++ [it]) (t.length : Int) = some it := by
    rw [Zap (by simp)]; simp
   have hsz : szS (t ++ [it]) = szS t + it.v.size := by rw [ZqA]; simp [szS]
   have hl2 : (t ++ [it]).length = t.length + 1 := by simp
   rw [e1, e2, if_pos (by rw [decide_eq_true_eq]; omega), if_pos (Zir (by omega))]
   simp only [Option.bind_some]
   rw [if_pos (Zir (by omega)), if_pos ⟨by omega, by omega⟩]
   have hfl : Zps (t ++ [it]) = (it.level.toNat, it.v) :: ((Zbi it.v).flatMap (Zge (it.level.toNat + 1)) ++ Zps t) := by
    unfold Zps
    rw [List.reverse_append, List.flatMap_append]
    simp only [List.reverse_cons, List.reverse_nil, List.nil_append, List.flatMap_cons, List.flatMap_nil, List.append_nil]
    rw [Zht]; rfl
   rw [hfl, ZlS]
   by_cases c1 : 4096 < c + 1
   ·
    rw [if_pos (decide_eq_true (by omega)), if_pos c1]
   rw [if_neg (by rw [decide_eq_true_eq]; omega), if_neg c1]
   have hlv : ((it.level.toNat : Nat) : Int) = it.level := by omega
   simp only [hlv]
   by_cases c2 : 8 < it.level
   ·
    rw [if_pos (decide_eq_true c2), if_pos c2]
   have hfn := Zfk it.v
   rw [if_neg (by rw [decide_eq_true_eq]; exact c2), if_neg c2, ZrU n it.v (by omega) (by omega) q3]
   simp only [Option.bind_some]
   by_cases c3 : ZfD it.v = 0
   rotate_left
   ·
    rw [decide_eq_false c3, if_neg c3]; rfl
   rw [decide_eq_true c3, if_pos c3, Zkp n it.v (by omega) (by omega)]
   simp only [Bool.not_true, Bool.false_eq_true, if_false, Option.bind_some, Int.toNat_natCast]
   have hpl := (Zgx it.v).2.2
   have hlt := Zny t
   have hps := ZmP it.v
   rw [if_pos (by unfold I64; omega), List.take_left, Zra n (Zch n m) c it (Zbi it.v) (by unfold I64; omega) (by unfold I64; omega) (Zbi it.v).length n t (Nat.le_refl _) (by omega) (by omega), List.take_length]
   have hz2 : szS (t ++ ((Zbi it.v).map fun y => Itm.mk y (it.level + 1)).reverse) = szS t + ((Zbi it.v).map Vl.size).sum := by
    rw [ZqA, Zvt, ZqO]
   rw [Zuv n m _ (c + 1) (by omega) (by omega) (fun x hx => ?_) (by omega) (by omega)]
   ·
    congr 2
    unfold Zps
    rw [List.reverse_append, List.reverse_reverse, List.flatMap_append, List.flatMap_map]
    congr 1
    dsimp only
    rw [show (it.level + 1).toNat = it.level.toNat + 1 by omega]
   ·
    rcases List.mem_append.1 hx with hx | hx
    ·
     exact hs x (by simp [hx])
    ·
     obtain ⟨y, hy, rfl⟩ := List.mem_map.1 (List.mem_reverse.1 hx)
     have := ZeG hy
     exact ⟨by simp only; omega, by simp only; omega, ZoT q3 hy, by simp only; omega⟩
theorem ZkT (n : Nat) (v : Vl) (hn : v.size < n) (hs : v.size ≤ 1000000000) (hv : v.ok) : Zd1 n v = some (ZuF v) := by
 have e : szS [Itm.mk v 1] = v.size := by simp [szS]
 rw [Zd1, Zuv n n [Itm.mk v 1] 0 (by omega) (by omega) (fun it hit => by rw [List.mem_singleton.1 hit]; exact ⟨by simp, by simp, hv, hn⟩) (by omega) (by omega)]
 simp [Zps, ZuF]
theorem Zn3 (l : List Vl) (i : Nat) (h : i < l.length) : Zet (l.drop i) = l[i].size + Zet (l.drop (i + 1)) := by rw [List.drop_eq_getElem_cons h, Zet]
theorem Znu (l : List (ByteArray × Vl)) (i : Nat) (h : i < l.length) : Zei (l.drop i) = l[i].2.size + Zei (l.drop (i + 1)) := by
 rw [List.drop_eq_getElem_cons h]
 obtain ⟨a, b⟩ := l[i]
 rfl
theorem ZnN (l : List Ty) (i : Nat) (h : i < l.length) : ZeO (l.drop i) = l[i].size + ZeO (l.drop (i + 1)) := by rw [List.drop_eq_getElem_cons h, ZeO]
theorem ZmV (l : List TF) (i : Nat) (h : i < l.length) : Zcx (l.drop i) = l[i].2.2.2.1.size + Zcx (l.drop (i + 1)) := by
 rw [List.drop_eq_getElem_cons h]
 obtain ⟨a, b, c, t, d⟩ := l[i]
 rfl
theorem ZgR {α : Type} {p : α → Prop} (l : List α) (i : Nat) (h : i < l.length) (h1 : p l[i]) (h2 : ∀ x ∈ l.drop (i + 1), p x) : ∀ x ∈ l.drop i, p x := by
 rw [List.drop_eq_getElem_cons h]
 intro x hx
 rcases List.mem_cons.1 hx with rfl | hx
 ·
  exact h1
 ·
  exact h2 x hx
theorem Zdm {α : Type} {p : α → Prop} (l : List α) (i : Nat) (h : l.length ≤ i) : ∀ x ∈ l.drop i, p x := by
 rw [List.drop_eq_nil_of_le h]; simp
def SmV (rec : Vl → Int → Int → Option (Bool × Int)) (lv : Nat) : Prop :=
 ∀ (v : Vl) (left : Int), 0 ≤ left → left ≤ 300 → ∃ b left', rec v (lv : Int) left = some (b, left') ∧ -1 ≤ left' ∧ left' < left ∧ (b = true → (v.size : Int) + left' = left ∧ 0 ≤ left' ∧ v.depth ≤ lv ∧ v.ok)
theorem Zrg (rec : Vl → Int → Int → Option (Bool × Int)) (n : Nat) (v : Vl) (lv : Nat) (hlv : lv ≤ 100) (hr : SmV rec lv) : ∀ (m i : Nat) (left : Int), 0 ≤ left → left ≤ 300 → (i : Int) + left ≤ 1000 → left + 1 < (m : Int) →
  ∃ b left', ZbA rec n v ((lv : Int) + 1) m i left = some (b, left') ∧ -1 ≤ left' ∧ left' ≤ left ∧ (b = true → (Zei (v.fields.drop i) : Int) + left' = left ∧ 0 ≤ left' ∧ ∀ p ∈ v.fields.drop i, p.1.size ≤ 100 ∧ p.2.ok ∧ p.2.depth ≤ lv)
 | 0, i, left, h1, _, _, h => by omega
 | m + 1, i, left, h1, h2, h3, h => by
  rw [ZbA, Zao]
  by_cases hlt : i < v.fields.length
  ·
   rw [decide_eq_true hlt]
   simp only [if_true, Zap hlt, Option.bind_some]
   by_cases hn : 100 < v.fields[i].1.size
   ·
    rw [decide_eq_true (by omega), if_pos rfl]
    exact ⟨false, left, rfl, by omega, by omega, fun h => by cases h⟩
   ·
    rw [decide_eq_false (by omega)]
    simp only [Bool.false_eq_true, if_false]
    rw [if_pos (by unfold I64; omega), show (lv : Int) + 1 - 1 = lv by omega]
    obtain ⟨b, left', e, k1, k2, k3⟩ := hr v.fields[i].2 left h1 h2
    rw [e]
    simp only [Option.bind_some]
    cases b with
    | false => simp only [Bool.not_false, if_true]; exact ⟨false, left', rfl, k1, by omega, fun h => by cases h⟩
    | true =>
     obtain ⟨q1, q2, q3, q4⟩ := k3 rfl
     simp only [Bool.not_true, Bool.false_eq_true, if_false]
     rw [if_pos (by unfold I64; omega)]
     obtain ⟨b, l2, e2, j1, j2, j3⟩ := Zrg rec n v lv hlv hr m (i + 1) left' q2 (by omega) (by omega) (by omega)
     refine ⟨b, l2, e2, j1, by omega, fun hb => ?_⟩
     obtain ⟨p1, p2, p3⟩ := j3 hb
     refine ⟨?_, p2, ZgR _ i hlt ⟨by omega, q4, q3⟩ p3⟩
     rw [Znu _ _ hlt]; push_cast; omega
  ·
   rw [decide_eq_false hlt]
   simp only [Bool.false_eq_true, if_false, ZcZ]
   refine ⟨true, left, rfl, by omega, by omega, fun _ => ⟨?_, h1, Zdm _ _ (by omega)⟩⟩
   rw [List.drop_eq_nil_of_le (by omega)]; simp [Zei]
theorem Zq7 (rec : Vl → Int → Int → Option (Bool × Int)) (n : Nat) (hn : 310 ≤ n) (v : Vl) (lv : Nat) (hlv : lv ≤ 100) (hr : SmV rec lv) : ∀ (m i : Nat) (left : Int), 0 ≤ left → left ≤ 300 → (i : Int) + left ≤ 1000 → left + 1 < (m : Int) →
  ∃ b left', Zbz rec n v ((lv : Int) + 1) m i left = some (b, left') ∧ -1 ≤ left' ∧ left' ≤ left ∧ (b = true → (Zet (v.list.drop i) : Int) + Zei v.fields + left' = left ∧ 0 ≤ left' ∧ (∀ x ∈ v.list.drop i, x.ok ∧ x.depth ≤ lv) ∧ ∀ p ∈ v.fields, p.1.size ≤ 100 ∧ p.2.ok ∧ p.2.depth ≤ lv)
 | 0, i, left, h1, _, _, h => by omega
 | m + 1, i, left, h1, h2, h3, h => by
  rw [Zbz, Zao]
  by_cases hlt : i < v.list.length
  ·
   rw [decide_eq_true hlt]
   simp only [if_true, Zap hlt, Option.bind_some]
   rw [if_pos (by unfold I64; omega), show (lv : Int) + 1 - 1 = lv by omega]
   obtain ⟨b, left', e, k1, k2, k3⟩ := hr v.list[i] left h1 h2
   rw [e]
   simp only [Option.bind_some]
   cases b with
   | false => simp only [Bool.not_false, if_true]; exact ⟨false, left', rfl, k1, by omega, fun h => by cases h⟩
   | true =>
    obtain ⟨q1, q2, q3, q4⟩ := k3 rfl
    simp only [Bool.not_true, Bool.false_eq_true, if_false]
    rw [if_pos (by unfold I64; omega)]
    obtain ⟨b, l2, e2, j1, j2, j3⟩ := Zq7 rec n hn v lv hlv hr m (i + 1) left' q2 (by omega) (by omega) (by omega)
    refine ⟨b, l2, e2, j1, by omega, fun hb => ?_⟩
    obtain ⟨p1, p2, p3, p4⟩ := j3 hb
    refine ⟨?_, p2, ZgR _ i hlt ⟨q4, q3⟩ p3, p4⟩
    rw [Zn3 _ _ hlt]; push_cast; omega
  ·
   rw [decide_eq_false hlt]
   simp only [Bool.false_eq_true, if_false, Zdb]
   obtain ⟨b, l2, e2, j1, j2, j3⟩ := Zrg rec n v lv hlv hr n 0 left h1 h2 (by omega) (by omega)
   refine ⟨b, l2, e2, j1, j2, fun hb => ?_⟩
   obtain ⟨p1, p2, p3⟩ := j3 hb
   rw [List.drop_zero] at p1 p3
   refine ⟨?_, p2, Zdm _ _ (by omega), p3⟩
   rw [List.drop_eq_nil_of_le (by omega)]; simp only [Zet]; omega
theorem Zxn : ∀ (lv n : Nat), lv ≤ 100 → lv + 311 ≤ n → SmV (ZbG n) lv
 | _, 0, _, h => by omega
 | lv, n + 1, hlv, hn => by
  intro v left h1 h2
  rw [ZbG, Zdz, if_pos (by unfold I64; omega)]
  by_cases hc : left - 1 < 0 ∨ (lv : Int) = 0 ∨ 2000 < v.text.size
  ·
   rw [if_pos (by simp only [Bool.or_eq_true, decide_eq_true_eq]; omega)]
   exact ⟨false, left - 1, rfl, by omega, by omega, fun h => by cases h⟩
  ·
   rw [if_neg (by simp only [Bool.or_eq_true, decide_eq_true_eq]; omega)]
   obtain ⟨lv', rfl⟩ : ∃ k, lv = k + 1 := ⟨lv - 1, by omega⟩
   obtain ⟨b, l2, e2, j1, j2, j3⟩ := Zq7 (ZbG n) n (by omega) v lv' (by omega) (Zxn lv' n (by omega) (by omega)) n 0 (left - 1) (by omega) (by omega) (by omega) (by omega)
   refine ⟨b, l2, by push_cast; exact e2, j1, by omega, fun hb => ?_⟩
   obtain ⟨p1, p2, p3, p4⟩ := j3 hb
   rw [List.drop_zero] at p1 p3
   refine ⟨?_, p2, ?_, v.ok_eq.2 ⟨by omega, fun x hx => (p3 x hx).1, fun p hp => ⟨(p4 p hp).1, (p4 p hp).2.1⟩⟩⟩
   ·
    rw [v.size_eq]; push_cast; omega
   ·
    rw [v.depth_eq]
    have a := (ZkC v.list lv').2 fun x hx => (p3 x hx).2
    have b := (ZkQ v.fields lv').2 fun p hp => (p4 p hp).2.2
    omega
theorem Zk5 (n : Nat) (hn : 400 ≤ n) (v : Vl) : ∃ b, Zcr n v = some b ∧ (b = true → v.small) := by
 obtain ⟨b, l2, e, h1, h2, h3⟩ := Zxn 12 n (by omega) (by omega) v 300 (by omega) (by omega)
 refine ⟨b, by rw [Zcr]; rw [show ((12 : Nat) : Int) = 12 from rfl] at e; rw [e]; rfl, fun hb => ?_⟩
 obtain ⟨p1, p2, p3, p4⟩ := h3 hb
 exact ⟨by omega, p3, p4⟩
def SmT (rec : Ty → Int → Int → Option (Bool × Int)) (lv : Nat) : Prop :=
 ∀ (t : Ty) (left : Int), 0 ≤ left → left ≤ 200 → ∃ b left', rec t (lv : Int) left = some (b, left') ∧ -1 ≤ left' ∧ left' < left ∧ (b = true → (t.size : Int) + left' = left ∧ 0 ≤ left' ∧ t.depth ≤ lv ∧ t.ok)
theorem ZqK (rec : Ty → Int → Int → Option (Bool × Int)) (n : Nat) (hn : 400 ≤ n) (ag : Int → Int → Option (Bool × Int)) (x9 : Int) (p : TF) (y : Bool × Int) (hl : p.2.2.2.2.length ≤ 3) : ∀ (k m i : Nat), i + k = p.2.2.2.2.length → k < m →
  (Zb3 rec n ag x9 p y m i = some (false, y.2)) ∨ (Zb3 rec n ag x9 p y m i = Zeg rec n ag x9 y.2 ∧ ∀ v ∈ p.2.2.2.2.drop i, v.small)
 | k, 0, i, _, h => absurd h (Nat.not_lt_zero _)
 | 0, m + 1, i, hi, _ => by
  rw [Zb3, Zao, decide_eq_false (by omega)]
  simp only [Bool.false_eq_true, if_false]
  exact .inr ⟨by trivial, Zdm _ _ (by omega)⟩
 | k + 1, m + 1, i, hi, hm => by
  have hlt : i < p.2.2.2.2.length := by omega
  rw [Zb3, Zao, decide_eq_true hlt]
  simp only [if_true, Zap hlt, Option.bind_some]
  obtain ⟨b, e, hb⟩ := Zk5 n hn p.2.2.2.2[i]
  rw [e]
  simp only [Option.bind_some]
  cases b with
  | false => simp only [Bool.not_false, if_true]; exact .inl (by trivial)
  | true =>
   simp only [Bool.not_true, Bool.false_eq_true, if_false]
   rw [if_pos (Zaq (by omega))]
   rcases ZqK rec n hn ag x9 p y hl k m (i + 1) (by omega) (by omega) with h | ⟨h, h2⟩
   ·
    exact .inl h
   ·
    exact .inr ⟨h, ZgR _ i hlt (hb rfl) h2⟩
theorem Zq4 (rec : Ty → Int → Int → Option (Bool × Int)) (n : Nat) (hn : 400 ≤ n) (t : Ty) (lv : Nat) (hlv : lv ≤ 100) (hr : SmT rec lv) : ∀ (m i : Nat) (left : Int), 0 ≤ left → left ≤ 200 → (i : Int) + left ≤ 1000 → left + 1 < (m : Int) →
  ∃ b left', ZbS rec n t ((lv : Int) + 1) m i left = some (b, left') ∧ -1 ≤ left' ∧ left' ≤ left ∧ (b = true → (Zcx (t.fields.drop i) : Int) + left' = left ∧ 0 ≤ left' ∧ ∀ p ∈ t.fields.drop i, (p.2.1.size ≤ 100 ∧ p.2.2.2.1.ok ∧ p.2.2.2.2.length ≤ 3 ∧ ∀ v ∈ p.2.2.2.2, v.small) ∧ p.2.2.2.1.depth ≤ lv)
 | 0, i, left, h1, _, _, h => by omega
 | m + 1, i, left, h1, h2, h3, h => by
  rw [ZbS, Zao]
  by_cases hlt : i < t.fields.length
  ·
   rw [decide_eq_true hlt]
   simp only [if_true, Zap hlt, Option.bind_some]
   rw [if_pos (by unfold I64; omega), show (lv : Int) + 1 - 1 = lv by omega]
   obtain ⟨b, left', e, k1, k2, k3⟩ := hr t.fields[i].2.2.2.1 left h1 h2
   rw [e]
   simp only [Option.bind_some]
   by_cases hc : b = false ∨ 3 < t.fields[i].2.2.2.2.length ∨ 100 < t.fields[i].2.1.size
   ·
    rw [if_pos (by simp only [Bool.or_eq_true, decide_eq_true_eq, Bool.not_eq_true']; rcases hc with hc | hc | hc; exact .inl (.inl hc); exact .inl (.inr (by omega)); exact .inr (by omega))]
    exact ⟨false, left', rfl, k1, by omega, fun h => by cases h⟩
   ·
    rw [if_neg (by simp only [Bool.or_eq_true, decide_eq_true_eq, Bool.not_eq_true']; intro h; apply hc; rcases h with (h | h) | h; exact .inl h; exact .inr (.inl (by omega)); exact .inr (.inr (by omega)))]
    have hb : b = true := by cases b <;> simp_all
    obtain ⟨q1, q2, q3, q4⟩ := k3 hb
    rcases ZqK rec n hn (ZbS rec n t ((lv : Int) + 1) m) i t.fields[i] (b, left') (by omega) t.fields[i].2.2.2.2.length n 0 (by omega) (by omega) with e3 | ⟨e3, e4⟩
    ·
     refine ⟨false, left', ?_, k1, by omega, fun h => by cases h⟩
     exact e3
    ·
     obtain ⟨b2, l2, e2, j1, j2, j3⟩ := Zq4 rec n hn t lv hlv hr m (i + 1) left' q2 (by omega) (by omega) (by omega)
     refine ⟨b2, l2, ?_, j1, by omega, fun hb => ?_⟩
     ·
      refine e3.trans ?_
      rw [Zeg, if_pos (by unfold I64; omega)]
      exact e2
     ·
      obtain ⟨p1, p2, p3⟩ := j3 hb
      rw [List.drop_zero] at e4
      refine ⟨?_, p2, ZgR _ i hlt ⟨⟨by omega, q4, by omega, e4⟩, q3⟩ p3⟩
      rw [ZmV _ _ hlt]; push_cast; omega
  ·
   rw [decide_eq_false hlt]
   simp only [Bool.false_eq_true, if_false, Ze3]
   refine ⟨true, left, rfl, by omega, by omega, fun _ => ⟨?_, h1, Zdm _ _ (by omega)⟩⟩
   rw [List.drop_eq_nil_of_le (by omega)]; simp [Zcx]
theorem Zrf (rec : Ty → Int → Int → Option (Bool × Int)) (n : Nat) (hn : 400 ≤ n) (t : Ty) (lv : Nat) (hlv : lv ≤ 100) (hr : SmT rec lv) : ∀ (m i : Nat) (left : Int), 0 ≤ left → left ≤ 200 → (i : Int) + left ≤ 1000 → left + 1 < (m : Int) →
  ∃ b left', Zdn rec n t ((lv : Int) + 1) m i left = some (b, left') ∧ -1 ≤ left' ∧ left' ≤ left ∧ (b = true → (ZeO (t.elem.drop i) : Int) + Zcx t.fields + left' = left ∧ 0 ≤ left' ∧ (∀ x ∈ t.elem.drop i, x.ok ∧ x.depth ≤ lv) ∧ ∀ p ∈ t.fields, (p.2.1.size ≤ 100 ∧ p.2.2.2.1.ok ∧ p.2.2.2.2.length ≤ 3 ∧ ∀ v ∈ p.2.2.2.2, v.small) ∧ p.2.2.2.1.depth ≤ lv)
 | 0, i, left, h1, _, _, h => by omega
 | m + 1, i, left, h1, h2, h3, h => by
  rw [Zdn, Zao]
  by_cases hlt : i < t.elem.length
  ·
   rw [decide_eq_true hlt]
   simp only [if_true, Zap hlt, Option.bind_some]
   rw [if_pos (by unfold I64; omega), show (lv : Int) + 1 - 1 = lv by omega]
   obtain ⟨b, left', e, k1, k2, k3⟩ := hr t.elem[i] left h1 h2
   rw [e]
   simp only [Option.bind_some]
   cases b with
   | false => simp only [Bool.not_false, if_true]; exact ⟨false, left', rfl, k1, by omega, fun h => by cases h⟩
   | true =>
    obtain ⟨q1, q2, q3, q4⟩ := k3 rfl
    simp only [Bool.not_true, Bool.false_eq_true, if_false]
    rw [if_pos (by unfold I64; omega)]
    obtain ⟨b, l2, e2, j1, j2, j3⟩ := Zrf rec n hn t lv hlv hr m (i + 1) left' q2 (by omega) (by omega) (by omega)
    refine ⟨b, l2, e2, j1, by omega, fun hb => ?_⟩
    obtain ⟨p1, p2, p3, p4⟩ := j3 hb
    refine ⟨?_, p2, ZgR _ i hlt ⟨q4, q3⟩ p3, p4⟩
    rw [ZnN _ _ hlt]; push_cast; omega
  ·
   rw [decide_eq_false hlt]
   simp only [Bool.false_eq_true, if_false, Ze7]
   obtain ⟨b, l2, e2, j1, j2, j3⟩ := Zq4 rec n hn t lv hlv hr n 0 left h1 h2 (by omega) (by omega)
   refine ⟨b, l2, e2, j1, j2, fun hb => ?_⟩
   obtain ⟨p1, p2, p3⟩ := j3 hb
   rw [List.drop_zero] at p1 p3
   refine ⟨?_, p2, Zdm _ _ (by omega), p3⟩
   rw [List.drop_eq_nil_of_le (by omega)]; simp only [ZeO]; omega
theorem Zq0 (rec : Ty → Int → Int → Option (Bool × Int)) (n : Nat) (t : Ty) (a1 a2 : Int) (hw : t.words.length ≤ 70) : ∀ (k m i : Nat), i + k = t.words.length → k < m →
  (Zb5 rec n t a1 a2 m i = some (false, a2 - 1)) ∨ (Zb5 rec n t a1 a2 m i = ZeJ rec n t a1 a2 ∧ ∀ w ∈ t.words.drop i, w.size ≤ 2000)
 | k, 0, i, _, h => absurd h (Nat.not_lt_zero _)
 | 0, m + 1, i, hi, _ => by
  rw [Zb5, Zao, decide_eq_false (by omega)]
  simp only [Bool.false_eq_true, if_false]
  exact .inr ⟨by trivial, Zdm _ _ (by omega)⟩
 | k + 1, m + 1, i, hi, hm => by
  have hlt : i < t.words.length := by omega
  rw [Zb5, Zao, decide_eq_true hlt]
  simp only [if_true, Zap hlt, Option.bind_some]
  by_cases hs : 2000 < t.words[i].size
  ·
   rw [decide_eq_true (by omega), if_pos rfl]; exact .inl rfl
  ·
   rw [decide_eq_false (by omega)]
   simp only [Bool.false_eq_true, if_false]
   rw [if_pos (Zaq (by omega))]
   rcases Zq0 rec n t a1 a2 hw k m (i + 1) (by omega) (by omega) with h | ⟨h, h2⟩
   ·
    exact .inl h
   ·
    exact .inr ⟨h, ZgR _ i hlt (by omega) h2⟩
theorem ZwC : ∀ (lv n : Nat), lv ≤ 100 → lv + 401 ≤ n → SmT (Zdr n) lv
 | _, 0, _, h => by omega
 | lv, n + 1, hlv, hn => by
  intro t left h1 h2
  rw [Zdr, ZgQ, if_pos (by unfold I64; omega)]
  by_cases hc : left - 1 < 0 ∨ (lv : Int) = 0 ∨ 70 < t.words.length
  ·
   rw [if_pos (by simp only [Bool.or_eq_true, decide_eq_true_eq]; omega)]
   exact ⟨false, left - 1, rfl, by omega, by omega, fun h => by cases h⟩
  ·
   rw [if_neg (by simp only [Bool.or_eq_true, decide_eq_true_eq]; omega)]
   obtain ⟨lv', rfl⟩ : ∃ k, lv = k + 1 := ⟨lv - 1, by omega⟩
   rcases Zq0 (Zdr n) n t ((lv' + 1 : Nat) : Int) left (by omega) t.words.length n 0 (by omega) (by omega) with e | ⟨e, hw⟩
   ·
    exact ⟨false, left - 1, e, by omega, by omega, fun h => by cases h⟩
   ·
    obtain ⟨b, l2, e2, j1, j2, j3⟩ := Zrf (Zdr n) n (by omega) t lv' (by omega) (ZwC lv' n (by omega) (by omega)) n 0 (left - 1) (by omega) (by omega) (by omega) (by omega)
    refine ⟨b, l2, ?_, j1, by omega, fun hb => ?_⟩
    ·
     refine e.trans ?_
     rw [ZeJ]; push_cast; exact e2
    ·
     obtain ⟨p1, p2, p3, p4⟩ := j3 hb
     rw [List.drop_zero] at p1 p3 hw
     refine ⟨?_, p2, ?_, t.ok_eq.2 ⟨by omega, hw, fun x hx => (p3 x hx).1, fun p hp => (p4 p hp).1⟩⟩
     ·
      rw [t.size_eq]; push_cast; omega
     ·
      rw [t.depth_eq]
      have a := (Zfr t.elem lv').2 fun x hx => (p3 x hx).2
      have b := (ZeN t.fields lv').2 fun p hp => (p4 p hp).2
      omega
def Ty.small (t : Ty) : Prop := t.size ≤ 200 ∧ t.depth ≤ 12 ∧ t.ok
theorem ZrZ (n : Nat) (hn : 500 ≤ n) (t : Ty) : ∃ b, Zfn n t = some b ∧ (b = true → t.small) := by
 obtain ⟨b, l2, e, h1, h2, h3⟩ := ZwC 12 n (by omega) (by omega) t 200 (by omega) (by omega)
 refine ⟨b, by rw [Zfn]; rw [show ((12 : Nat) : Int) = 12 from rfl] at e; rw [e]; rfl, fun hb => ?_⟩
 obtain ⟨p1, p2, p3, p4⟩ := h3 hb
 exact ⟨by omega, p3, p4⟩
def ZaX  : Ty :=
 Ty.mk 9 0 0 0 ([]) ([]) ([(1, (⟨#[110]⟩ : ByteArray), 1, Ty.mk 2 1 9 0 ([]) ([]) ([]), []), (2, (⟨#[108]⟩ : ByteArray), 2, Ty.mk 8 0 3 0 ([]) ([Ty.mk 4 1 5 0 ([]) ([]) ([])]) ([]), [])])
theorem Zk3 (w0 : World) (B : List (List AV)) (Rw : List RowA) (L : List LoopA)  (r : Ty) (h : ZaX  = r) :
  ACalls Tryz.prog w0 47 [] ⟨B, Rw, L⟩ fun x st => x = .agg (r.cs) ∧ st = ⟨B, Rw, L⟩ := by
 rw [ZaX] at h
 refine hd [.cell 0 26] Tryz.func47 Tryz.ntmps47 fun M0 W0 hN hNR hNL hcalm hu hO hs => ?_
 simp only [Zav]
 refine rg [0] hs ?_
 apply Zab; intro K2 hK2
 apply Zae 1 [0, 1]
 rw [Zaa]; simp +decide only [go_sem, Nat.reduceAdd, ZaF, Zan, Zam]
 (repeat' apply And.intro) <;> first | refine hK2 _ _ ?_ | exact cl
 clear hK2
 apply Zab; intro K3 hK3
 apply Zae 1 [0]
 rw [Zaa]; simp +decide only [go_sem, Nat.reduceAdd, ZaF, Zan, Zam]
 (repeat' apply And.intro) <;> first | refine hK3 _ _ ?_ | exact cl
 clear hK3
 apply Zah; simp +decide only [go_sem, Nat.reduceAdd]
 subst h
 first | refine ZaG hcalm rfl hO.pre ev ⟨?_, rfl⟩ | refine Zbg hcalm rfl hO.pre ev ⟨?_, rfl⟩
 first | rfl | (simp +decide only [go_sem, Nat.reduceAdd]; done) | (simp +decide only [go_sem, Nat.reduceAdd, Vl.cs, Ty.cs]; done)
theorem Zki (w0 : World) (B : List (List AV)) (Rw : List RowA) (L : List LoopA)  :
  ACalls Tryz.prog w0 47 [] ⟨B, Rw, L⟩ fun x st => x = .agg ((ZaX ).cs) ∧ st = ⟨B, Rw, L⟩ := Zk3 w0 B Rw L  _ rfl
def Zfz (rec : Ty → Vl → Option Bool) (a0 : Vl) (a1 : Ty) : Option Bool :=
 (idx a1.elem 0).bind fun x3 =>
 (rec x3 a0).bind fun y4 =>
 some (!y4)
theorem Zpm (w0 : World) (rec : Ty → Vl → Option Bool) (ih : ∀ (B : List (List AV)) (Rw : List RowA) (L : List LoopA) (a0 : Ty) (a1 : Vl) (r : Bool) (h : rec a0 a1 = some r), ACalls Tryz.prog w0 107 [.agg (a0.cs), .agg (a1.cs)] ⟨B, Rw, L⟩ fun x st => x = .val (.bool r) ∧ st = ⟨B, Rw, L⟩) (B : List (List AV)) (Rw : List RowA) (L : List LoopA) (a0 : Vl) (la1 : Nat) (a1 : Ty) (hla1 : B[la1]? = some (a1.cs)) (r : Bool) (h : Zfz rec a0 a1 = some r) :
  ACalls Tryz.prog w0 183 [.agg (a0.cs), .box la1 0] ⟨B, Rw, L⟩ fun x st => x = .val (.bool r) ∧ st = ⟨B, Rw, L⟩ := by
 rw [Zfz] at h
 refine hd [.tmp 3] Tryz.func183 Tryz.ntmps183 fun M0 W0 hN hNR hNL hcalm hu hO hs => ?_
 simp only [Zav]
 have hltla1 := (List.getElem?_eq_some_iff.1 hla1).1
 have hs := And.intro (Zag hla1) hs
 refine rg [1, 2] hs ?_
 apply Zab; intro K2 hK2
 obtain ⟨x3, hx3a, hx3b, hx3d, h⟩ := ix avT h
 have hx3e : (a1.elem.map avT).getD 0 .junk = _ := hx3d
 obtain ⟨y4, hy4, h⟩ := bind_some h
 apply Zat mix 8 2 1 [3] (by kernel_rfl)
 rw [Zaa]; simp +decide only [go_sem, Nat.reduceAdd, Zag hla1, hx3d, hx3e]
 have hs := And.intro hx3d hs
 have hs := And.intro hx3e hs
 (repeat' apply And.intro) <;> first | refine Zaf _ (ih _ _ _ x3 a0 _ hy4) (hv hs) ?_ | exact cl
 rw [Zaa]; simp +decide only [go_sem, Nat.reduceAdd, Zag hla1, hx3d, hx3e]
 (repeat' with_reducible apply And.intro) <;> first | (rw [Zaa]; simp +decide only [go_sem, Nat.reduceAdd, Zag hla1, hx3d, hx3e]) | exact cl
 (repeat' apply And.intro) <;> first | refine hK2 _ _ ?_ | exact cl
 clear hK2
 exact rt h hs hcalm hO
def Zct (n : Nat)  : Option Int :=
 some ((-1))
def ZaR (n : Nat) (a0 : List (ByteArray × Vl)) (a1 : (ByteArray × Vl) → Option Bool) : Nat → Int → Option Int
 | 0, _ => none
 | m + 1, x8_l6 =>
  if decide (x8_l6 < ((a0.length : Int))) then
   (idx a0 x8_l6).bind fun x13 =>
   (a1 x13).bind fun y14 =>
   if y14 then
    some (x8_l6)
   else
    if I64 (x8_l6 + 1) then
     (ZaR n a0 a1 m) (x8_l6 + 1)
    else none
  else
   Zct n 
def Zbs (n : Nat) (a0 : List (ByteArray × Vl)) (a1 : (ByteArray × Vl) → Option Bool) : Option Int :=
 ZaR n a0 a1 n 0
theorem Zeb (w0 : World) (n : Nat) (B : List (List AV)) (Rw : List RowA) (L : List LoopA) (a0 : List (ByteArray × Vl)) (fa1 : FuncId) (ca1 : List AV) (a1 : (ByteArray × Vl) → Option Bool) (ha1 : ∀ (x0 : ByteArray × Vl) r, a1 x0 = some r → ∀ B' rows, B <+: B' → Rw <+: rows → ACalls Tryz.prog w0 fa1 ([.agg (.val (.string x0.1) :: (x0.2.cs))] ++ ca1) ⟨B', rows, L⟩ fun v s => v = .val (.bool r) ∧ s = ⟨B', rows, L⟩) (r : Int) (h : Zbs n a0 a1 = some r) :
  ACalls Tryz.prog w0 67 [.list (a0.map avF) .none, .clo fa1 ca1] ⟨B, Rw, L⟩ fun x st => x = .val (.int .i64 r) ∧ st = ⟨B, Rw, L⟩ := by
 rw [Zbs] at h
 refine hd [.tmp 4] Tryz.func67 Tryz.ntmps67 fun M0 W0 hN hNR hNL hcalm hu hO hs => ?_
 simp only [Zav]
 have hU_a1 := Zd0 (hu (.clo fa1 ca1) (by simp))
 refine rg [0, 1] hs ?_
 refine Zai (fun e st => Ck e st B Rw L [] [] [] (Zct n  = some r)) ?_ ?_
 ·
  intro K4 hK4
  refine rg [0, 1, 7, 8] hs ?_
  apply Zad
  refine Zal (fun m e st => ∃ (x8_l6 : Int), Ck e st B Rw L [(0, true, .list (a0.map avF) .none), (1, true, .clo fa1 ca1), (7, true, .val (.int .i64 ((a0.length : Int)))), (8, true, .val (.int .i64 x8_l6))] [] [] (ZaR n a0 a1 m x8_l6 = some r)) n ⟨0, ([]), Rw, ef hs, ef hs, hO, h⟩ ?_
  rintro ml6 e st ⟨x8_l6, Xl6, Rl6, rfl, rfl, hO, h⟩ Ul6 Vl6
  cases ml6 with
  | zero => cases h
  | succ ml6 =>
  rw [ZaR] at h
  refine Zbb hN hNR hNL rfl hcalm hO (by (simp +decide only [go_sem, Nat.reduceAdd]) <;> (try (repeat' apply And.intro)) <;> first | omega | assumption | exact hU_a1 _ _ _ (by omega) (by have := hO.len; omega) (by omega)) (by (simp +decide only [go_sem, Nat.reduceAdd, Zb2]) <;> (try (repeat' apply And.intro)) <;> first | omega | assumption | exact hU_a1 _ _ _ (by omega) (by have := hO.len; omega) (by omega)) ?_
  refine rg [0, 1, 7, 8, 9] hs ?_
  apply Zab; intro K8 hK8
  refine cnd h hs (fun hs h => ?_) (fun hs h => ?_)
  rotate_left
  ·
   refine sx [] hs hK4 ?_
   exact ⟨([]), Rl6, ef hs, ef hs, hO, h⟩
  refine sk [0, 1, 7, 8] hs hK8 ?_
  clear hK8
  apply Zab; intro K10 hK10
  apply Zad
  refine rg [0, 1, 5, 7, 8] hs ?_
  obtain ⟨x13, hx13, h⟩ := bind_some h
  obtain ⟨hx13a, hx13b, hx13c⟩ := Zar hx13
  have hx13d := Zay (f := avF) hx13c
  obtain ⟨y14, hy14, h⟩ := bind_some h
  have hs := And.intro hx13d hs
  refine rc 2 [0, 1, 5, 7, 8, 16] hs ?_; intro K12 hK12
  refine Znx _ (ha1 x13 _ hy14 _ _ (by first | exact List.prefix_append _ _ | exact List.prefix_refl _) hO.pre) (hv hs) ?_
  refine ne hs hK12 ?_
  clear hK12
  refine cnd h hs (fun hs h => ?_) (fun hs h => ?_)
  ·
   refine rg [4] hs ?_
   exact rt h hs hcalm hO
  refine sk [0, 1, 7, 8] hs hK10 ?_
  clear hK10
  obtain ⟨hg17, h⟩ := Zac h
  refine rl [0, 1, 7, 8] hs (fun e s => Vl6 ml6 e s (Nat.lt_succ_self _)) ?_
  exact ⟨(x8_l6 + 1), ([]), Rl6, ef hs, ef hs, hO, h⟩
 ·
  clear h; rintro e st ⟨Xk3, Rk3, rfl, rfl, hO, h⟩
  rw [Zct] at h
  refine Zbb hN hNR hNL rfl hcalm hO (by (simp +decide only [go_sem, Nat.reduceAdd]) <;> (try (repeat' apply And.intro)) <;> first | omega | assumption | exact hU_a1 _ _ _ (by omega) (by have := hO.len; omega) (by omega)) (by (simp +decide only [go_sem, Nat.reduceAdd, Zb2]) <;> (try (repeat' apply And.intro)) <;> first | omega | assumption | exact hU_a1 _ _ _ (by omega) (by have := hO.len; omega) (by omega)) ?_
  refine rg [4] hs ?_
  exact rt h hs hcalm hO
def Zd2 (a0 : ByteArray × Vl) (a1 : ByteArray) : Bool :=
 sEq a0.1 a1
theorem ZlY (w0 : World) (B : List (List AV)) (Rw : List RowA) (L : List LoopA) (a0 : ByteArray × Vl) (la1 : Nat) (a1 : ByteArray) (hla1 : B[la1]? = some ([.val (.string a1)])) (r : Bool) (h : Zd2 a0 a1 = r) :
  ACalls Tryz.prog w0 124 [.agg (.val (.string a0.1) :: (a0.2.cs)), .box la1 0] ⟨B, Rw, L⟩ fun x st => x = .val (.bool r) ∧ st = ⟨B, Rw, L⟩ := by
 rw [Zd2] at h
 refine hd [.tmp 3] Tryz.func124 Tryz.ntmps124 fun M0 W0 hN hNR hNL hcalm hu hO hs => ?_
 simp only [Zav]
 have hltla1 := (List.getElem?_eq_some_iff.1 hla1).1
 have hs := And.intro (Zag hla1) hs
 refine rg [1, 2] hs ?_
 refine rg [3] hs ?_
 apply Zah; simp +decide only [go_sem, Nat.reduceAdd, Zag hla1]
 subst h
 first | refine ZaG hcalm rfl hO.pre ev ⟨?_, rfl⟩ | refine Zbg hcalm rfl hO.pre ev ⟨?_, rfl⟩
 first | rfl | (simp +decide only [go_sem, Nat.reduceAdd, Zag hla1]; done) | (simp +decide only [go_sem, Nat.reduceAdd, Vl.cs, Ty.cs, Zag hla1]; done)
theorem Zk4 (w0 : World) (B : List (List AV)) (Rw : List RowA) (L : List LoopA) (a0 : ByteArray × Vl) (la1 : Nat) (a1 : ByteArray) (hla1 : B[la1]? = some ([.val (.string a1)])) :
  ACalls Tryz.prog w0 124 [.agg (.val (.string a0.1) :: (a0.2.cs)), .box la1 0] ⟨B, Rw, L⟩ fun x st => x = .val (.bool (Zd2 a0 a1)) ∧ st = ⟨B, Rw, L⟩ := ZlY w0 B Rw L a0 la1 a1 hla1 _ rfl
def ZhQ (n : Nat) (a0 : Vl) (a1 : ByteArray) : Option Int :=
 (Zbs n a0.fields (fun (x0 : ByteArray × Vl) => some (Zd2 x0 a1))).bind fun y3 =>
 some (y3)
theorem Zo0 (w0 : World) (n : Nat) (B : List (List AV)) (Rw : List RowA) (L : List LoopA) (a0 : Vl) (a1 : ByteArray) (r : Int) (h : ZhQ n a0 a1 = some r) :
  ACalls Tryz.prog w0 64 [.agg (a0.cs), .val (.string a1)] ⟨B, Rw, L⟩ fun x st => x = .val (.int .i64 r) ∧ st = ⟨B, Rw, L⟩ := by
 rw [ZhQ] at h
 refine hd [.tmp 4] Tryz.func64 Tryz.ntmps64 fun M0 W0 hN hNR hNL hcalm hu hO hs => ?_
 simp only [Zav]
 refine rg [2, 3] hs ?_
 obtain ⟨y3, hy3, h⟩ := bind_some h
 refine rc 2 [4] hs ?_; intro K2 hK2
 refine Zaf _ (Zeb w0 n _ _ _ a0.fields 124 [.box (B.length + 1) 0] (fun (x0 : ByteArray × Vl) => some (Zd2 x0 a1)) (fun x0 r hx B' rows' hB' hR' => by cases hx; exact Zk4 w0 _ _ _ x0 _ a1 (ZeC hB' ev)) _ hy3) (hv hs) ?_
 refine ne hs hK2 ?_
 clear hK2
 exact rt h hs hcalm hO
def Zgw (n : Nat) (a0 : Vl) (a1 : ByteArray) : Option (Vl × Bool) :=
 (ZhQ n a0 a1).bind fun y3 =>
 if (!(decide (a0.kind = 9))) || (decide (y3 < 0)) then
  some ((Vl.mk 0 0 0 ((⟨#[]⟩ : ByteArray)) ([]) ([]), false))
 else
  (idx a0.fields y3).bind fun x9 =>
  (ZbN n x9.2).bind fun y10 =>
  some ((y10, true))
theorem ZoX (w0 : World) (n : Nat) (B : List (List AV)) (Rw : List RowA) (L : List LoopA) (a0 : Vl) (a1 : ByteArray) (r : Vl × Bool) (h : Zgw n a0 a1 = some r) :
  ACalls Tryz.prog w0 185 [.agg (a0.cs), .val (.string a1)] ⟨B, Rw, L⟩ fun x st => x = .tup [.agg (r.1.cs), .val (.bool r.2)] ∧ st = ⟨B, Rw, L⟩ := by
 rw [Zgw] at h
 refine hd [.cell 4 46, .tmp 5] Tryz.func185 Tryz.ntmps185 fun M0 W0 hN hNR hNL hcalm hu hO hs => ?_
 simp only [Zav]
 refine rg [1, 2, 4] hs ?_
 obtain ⟨y3, hy3, h⟩ := bind_some h
 refine rc 2 [2, 4, 6] hs ?_; intro K2 hK2
 refine Zaf _ (Zo0 w0 n _ _ _ a0 a1 _ hy3) (hv hs) ?_
 refine ne hs hK2 ?_
 clear hK2
 apply Zab; intro K4 hK4
 refine rg [2, 4, 6, 16] hs ?_
 refine cnd h hs (fun hs h => ?_) (fun hs h => ?_)
 ·
  have hb6 := hs.1
  apply Zab; intro K7 hK7
  apply Zae 1 [4, 5]
  rw [Zaa]; simp +decide only [go_sem, Nat.reduceAdd, hb6, ZaF, Zan, Zam]
  (repeat' apply And.intro) <;> first | refine hK7 _ _ ?_ | exact cl
  clear hK7
  exact rt h hs hcalm hO
 have hb6 := hs.1
 refine sk [2, 4, 6] hs hK4 ?_
 clear hK4
 obtain ⟨x9, hx9, h⟩ := bind_some h
 obtain ⟨hx9a, hx9b, hx9c⟩ := Zar hx9
 have hx9d := Zay (f := avF) hx9c
 obtain ⟨y10, hy10, h⟩ := bind_some h
 have hs := And.intro hx9d hs
 refine rc 2 [4, 5] hs ?_; intro K8 hK8
 refine Zaf _ (Zds w0 n _ _ _ x9.2 _ hy10) (hv hs) ?_
 refine ne hs hK8 ?_
 clear hK8
 exact rt h hs hcalm hO
def Zfy (n : Nat) (a0 : Int × ByteArray × Int × Ty × List Vl) (a1 : Vl) : Option Bool :=
 (Zgw n a1 a0.2.1).bind fun y3 =>
 some ((!y3.2) && (!(decide (a0.2.2.1 = 2))))
theorem ZpC (w0 : World) (n : Nat) (B : List (List AV)) (Rw : List RowA) (L : List LoopA) (a0 : Int × ByteArray × Int × Ty × List Vl) (la1 : Nat) (a1 : Vl) (hla1 : B[la1]? = some (a1.cs)) (r : Bool) (h : Zfy n a0 a1 = some r) :
  ACalls Tryz.prog w0 184 [.agg (.val (.int .i64 a0.1) :: (.val (.string a0.2.1) :: (.val (.int .i64 a0.2.2.1) :: ((a0.2.2.2.1.cs) ++ ([.list (a0.2.2.2.2.map avV) .none]))))), .box la1 0] ⟨B, Rw, L⟩ fun x st => x = .val (.bool r) ∧ st = ⟨B, Rw, L⟩ := by
 rw [Zfy] at h
 refine hd [.tmp 3] Tryz.func184 Tryz.ntmps184 fun M0 W0 hN hNR hNL hcalm hu hO hs => ?_
 simp only [Zav]
 have hltla1 := (List.getElem?_eq_some_iff.1 hla1).1
 have hs := And.intro (Zag hla1) hs
 refine rg [1, 2] hs ?_
 obtain ⟨y3, hy3, h⟩ := bind_some h
 refine rc 2 [2, 5] hs ?_; intro K2 hK2
 refine Zaf _ (ZoX w0 n _ _ _ a1 a0.2.1 _ hy3) (hv hs) ?_
 refine ne hs hK2 ?_
 clear hK2
 refine rg [3] hs ?_
 exact rt h hs hcalm hO
def Zaw (n : Nat) (a0 : List (Int × ByteArray × Int × Ty × List Vl)) (a1 : (Int × ByteArray × Int × Ty × List Vl) → Option Bool) : Option Bool :=
 (ZaJ n a0 a1).bind fun y3 =>
 some (decide (0 ≤ y3))
theorem Zcp (w0 : World) (n : Nat) (B : List (List AV)) (Rw : List RowA) (L : List LoopA) (a0 : List (Int × ByteArray × Int × Ty × List Vl)) (fa1 : FuncId) (ca1 : List AV) (a1 : (Int × ByteArray × Int × Ty × List Vl) → Option Bool) (ha1 : ∀ (x0 : Int × ByteArray × Int × Ty × List Vl) r, a1 x0 = some r → ∀ B' rows, B <+: B' → Rw <+: rows → ACalls Tryz.prog w0 fa1 ([.agg (.val (.int .i64 x0.1) :: (.val (.string x0.2.1) :: (.val (.int .i64 x0.2.2.1) :: ((x0.2.2.2.1.cs) ++ ([.list (x0.2.2.2.2.map avV) .none])))))] ++ ca1) ⟨B', rows, L⟩ fun v s => v = .val (.bool r) ∧ s = ⟨B', rows, L⟩) (r : Bool) (h : Zaw n a0 a1 = some r) :
  ACalls Tryz.prog w0 150 [.list (a0.map Zer) .none, .clo fa1 ca1] ⟨B, Rw, L⟩ fun x st => x = .val (.bool r) ∧ st = ⟨B, Rw, L⟩ := by
 rw [Zaw] at h
 refine hd [.tmp 4] Tryz.func150 Tryz.ntmps150 fun M0 W0 hN hNR hNL hcalm hu hO hs => ?_
 simp only [Zav]
 have hU_a1 := Zd0 (hu (.clo fa1 ca1) (by simp))
 refine rg [0, 1] hs ?_
 obtain ⟨y3, hy3, h⟩ := bind_some h
 refine rc 2 [4] hs ?_; intro K2 hK2
 refine Zaf _ (Zc8 w0 n _ _ _ a0 fa1 ca1 a1 (fun x0 r hx B'' rows'' q1 q2 => ha1 x0 r hx B'' rows'' (List.IsPrefix.trans (by first | exact List.prefix_append _ _ | exact List.prefix_refl _) q1) (hO.pre.trans q2)) _ hy3) (hv hs) ?_
 refine ne hs hK2 ?_
 clear hK2
 exact rt h hs hcalm hO
def ZcA (n : Nat)  : Option Int :=
 some ((-1))
def ZaT (n : Nat) (a0 : List Vl) (a1 : Vl → Option Bool) : Nat → Int → Option Int
 | 0, _ => none
 | m + 1, x8_l6 =>
  if decide (x8_l6 < ((a0.length : Int))) then
   (idx a0 x8_l6).bind fun x13 =>
   (a1 x13).bind fun y14 =>
   if y14 then
    some (x8_l6)
   else
    if I64 (x8_l6 + 1) then
     (ZaT n a0 a1 m) (x8_l6 + 1)
    else none
  else
   ZcA n 
def ZbZ (n : Nat) (a0 : List Vl) (a1 : Vl → Option Bool) : Option Int :=
 ZaT n a0 a1 n 0
theorem Zgm (w0 : World) (n : Nat) (B : List (List AV)) (Rw : List RowA) (L : List LoopA) (a0 : List Vl) (fa1 : FuncId) (ca1 : List AV) (a1 : Vl → Option Bool) (ha1 : ∀ (x0 : Vl) r, a1 x0 = some r → ∀ B' rows, B <+: B' → Rw <+: rows → ACalls Tryz.prog w0 fa1 ([.agg (x0.cs)] ++ ca1) ⟨B', rows, L⟩ fun v s => v = .val (.bool r) ∧ s = ⟨B', rows, L⟩) (r : Int) (h : ZbZ n a0 a1 = some r) :
  ACalls Tryz.prog w0 225 [.list (a0.map avV) .none, .clo fa1 ca1] ⟨B, Rw, L⟩ fun x st => x = .val (.int .i64 r) ∧ st = ⟨B, Rw, L⟩ := by
 rw [ZbZ] at h
 refine hd [.tmp 4] Tryz.func225 Tryz.ntmps225 fun M0 W0 hN hNR hNL hcalm hu hO hs => ?_
 simp only [Zav]
 have hU_a1 := Zd0 (hu (.clo fa1 ca1) (by simp))
 refine rg [0, 1] hs ?_
 refine Zai (fun e st => Ck e st B Rw L [] [] [] (ZcA n  = some r)) ?_ ?_
 ·
  intro K4 hK4
  refine rg [0, 1, 7, 8] hs ?_
  apply Zad
  refine Zal (fun m e st => ∃ (x8_l6 : Int), Ck e st B Rw L [(0, true, .list (a0.map avV) .none), (1, true, .clo fa1 ca1), (7, true, .val (.int .i64 ((a0.length : Int)))), (8, true, .val (.int .i64 x8_l6))] [] [] (ZaT n a0 a1 m x8_l6 = some r)) n ⟨0, ([]), Rw, ef hs, ef hs, hO, h⟩ ?_
  rintro ml6 e st ⟨x8_l6, Xl6, Rl6, rfl, rfl, hO, h⟩ Ul6 Vl6
  cases ml6 with
  | zero => cases h
  | succ ml6 =>
  rw [ZaT] at h
  refine Zbb hN hNR hNL rfl hcalm hO (by (simp +decide only [go_sem, Nat.reduceAdd]) <;> (try (repeat' apply And.intro)) <;> first | omega | assumption | exact hU_a1 _ _ _ (by omega) (by have := hO.len; omega) (by omega)) (by (simp +decide only [go_sem, Nat.reduceAdd, Zb2]) <;> (try (repeat' apply And.intro)) <;> first | omega | assumption | exact hU_a1 _ _ _ (by omega) (by have := hO.len; omega) (by omega)) ?_
  refine rg [0, 1, 7, 8, 9] hs ?_
  apply Zab; intro K8 hK8
  refine cnd h hs (fun hs h => ?_) (fun hs h => ?_)
  rotate_left
  ·
   refine sx [] hs hK4 ?_
   exact ⟨([]), Rl6, ef hs, ef hs, hO, h⟩
  refine sk [0, 1, 7, 8] hs hK8 ?_
  clear hK8
  apply Zab; intro K10 hK10
  apply Zad
  refine rg [0, 1, 5, 7, 8] hs ?_
  obtain ⟨x13, hx13, h⟩ := bind_some h
  obtain ⟨hx13a, hx13b, hx13c⟩ := Zar hx13
  have hx13d := Zay (f := avV) hx13c
  obtain ⟨y14, hy14, h⟩ := bind_some h
  have hs := And.intro hx13d hs
  refine rc 2 [0, 1, 5, 7, 8, 16] hs ?_; intro K12 hK12
  refine Znx _ (ha1 x13 _ hy14 _ _ (by first | exact List.prefix_append _ _ | exact List.prefix_refl _) hO.pre) (hv hs) ?_
  refine ne hs hK12 ?_
  clear hK12
  refine cnd h hs (fun hs h => ?_) (fun hs h => ?_)
  ·
   refine rg [4] hs ?_
   exact rt h hs hcalm hO
  refine sk [0, 1, 7, 8] hs hK10 ?_
  clear hK10
  obtain ⟨hg17, h⟩ := Zac h
  refine rl [0, 1, 7, 8] hs (fun e s => Vl6 ml6 e s (Nat.lt_succ_self _)) ?_
  exact ⟨(x8_l6 + 1), ([]), Rl6, ef hs, ef hs, hO, h⟩
 ·
  clear h; rintro e st ⟨Xk3, Rk3, rfl, rfl, hO, h⟩
  rw [ZcA] at h
  refine Zbb hN hNR hNL rfl hcalm hO (by (simp +decide only [go_sem, Nat.reduceAdd]) <;> (try (repeat' apply And.intro)) <;> first | omega | assumption | exact hU_a1 _ _ _ (by omega) (by have := hO.len; omega) (by omega)) (by (simp +decide only [go_sem, Nat.reduceAdd, Zb2]) <;> (try (repeat' apply And.intro)) <;> first | omega | assumption | exact hU_a1 _ _ _ (by omega) (by have := hO.len; omega) (by omega)) ?_
  refine rg [4] hs ?_
  exact rt h hs hcalm hO
def Zbd (n : Nat) (a0 : List Vl) (a1 : Vl → Option Bool) : Option Bool :=
 (ZbZ n a0 a1).bind fun y3 =>
 some (decide (0 ≤ y3))
theorem ZfB (w0 : World) (n : Nat) (B : List (List AV)) (Rw : List RowA) (L : List LoopA) (a0 : List Vl) (fa1 : FuncId) (ca1 : List AV) (a1 : Vl → Option Bool) (ha1 : ∀ (x0 : Vl) r, a1 x0 = some r → ∀ B' rows, B <+: B' → Rw <+: rows → ACalls Tryz.prog w0 fa1 ([.agg (x0.cs)] ++ ca1) ⟨B', rows, L⟩ fun v s => v = .val (.bool r) ∧ s = ⟨B', rows, L⟩) (r : Bool) (h : Zbd n a0 a1 = some r) :
  ACalls Tryz.prog w0 182 [.list (a0.map avV) .none, .clo fa1 ca1] ⟨B, Rw, L⟩ fun x st => x = .val (.bool r) ∧ st = ⟨B, Rw, L⟩ := by
 rw [Zbd] at h
 refine hd [.tmp 4] Tryz.func182 Tryz.ntmps182 fun M0 W0 hN hNR hNL hcalm hu hO hs => ?_
 simp only [Zav]
 have hU_a1 := Zd0 (hu (.clo fa1 ca1) (by simp))
 refine rg [0, 1] hs ?_
 obtain ⟨y3, hy3, h⟩ := bind_some h
 refine rc 2 [4] hs ?_; intro K2 hK2
 refine Zaf _ (Zgm w0 n _ _ _ a0 fa1 ca1 a1 (fun x0 r hx B'' rows'' q1 q2 => ha1 x0 r hx B'' rows'' (List.IsPrefix.trans (by first | exact List.prefix_append _ _ | exact List.prefix_refl _) q1) (hO.pre.trans q2)) _ hy3) (hv hs) ?_
 refine ne hs hK2 ?_
 clear hK2
 exact rt h hs hcalm hO
def Zdu (n : Nat)  : Option Int :=
 some ((-1))
def Zbc (n : Nat) (a0 : List ByteArray) (a1 : ByteArray) : Nat → Int → Option Int
 | 0, _ => none
 | m + 1, x8_l6 =>
  if decide (x8_l6 < ((a0.length : Int))) then
   (idx a0 x8_l6).bind fun x13 =>
   if sEq a1 x13 then
    some (x8_l6)
   else
    if I64 (x8_l6 + 1) then
     (Zbc n a0 a1 m) (x8_l6 + 1)
    else none
  else
   Zdu n 
def ZcX (n : Nat) (a0 : List ByteArray) (a1 : ByteArray) : Option Int :=
 Zbc n a0 a1 n 0
theorem ZhV (w0 : World) (n : Nat) (B : List (List AV)) (Rw : List RowA) (L : List LoopA) (a0 : List ByteArray) (a1 : ByteArray) (r : Int) (h : ZcX n a0 a1 = some r) :
  ACalls Tryz.prog w0 190 [.list (a0.map avS) .none, .val (.string a1)] ⟨B, Rw, L⟩ fun x st => x = .val (.int .i64 r) ∧ st = ⟨B, Rw, L⟩ := by
 rw [ZcX] at h
 refine hd [.tmp 4] Tryz.func190 Tryz.ntmps190 fun M0 W0 hN hNR hNL hcalm hu hO hs => ?_
 simp only [Zav]
 refine rg [0, 1] hs ?_
 refine Zai (fun e st => Ck e st B Rw L [] [] [] (Zdu n  = some r)) ?_ ?_
 ·
  intro K4 hK4
  refine rg [0, 1, 7, 8] hs ?_
  apply Zad
  refine Zal (fun m e st => ∃ (x8_l6 : Int), Ck e st B Rw L [(0, true, .list (a0.map avS) .none), (1, true, .val (.string a1)), (7, true, .val (.int .i64 ((a0.length : Int)))), (8, true, .val (.int .i64 x8_l6))] [] [] (Zbc n a0 a1 m x8_l6 = some r)) n ⟨0, ([]), Rw, ef hs, ef hs, hO, h⟩ ?_
  rintro ml6 e st ⟨x8_l6, Xl6, Rl6, rfl, rfl, hO, h⟩ Ul6 Vl6
  cases ml6 with
  | zero => cases h
  | succ ml6 =>
  rw [Zbc] at h
  refine td hN hNR hNL hcalm hO ?_
  refine rg [0, 1, 7, 8, 9] hs ?_
  apply Zab; intro K8 hK8
  refine cnd h hs (fun hs h => ?_) (fun hs h => ?_)
  rotate_left
  ·
   refine sx [] hs hK4 ?_
   exact ⟨([]), Rl6, ef hs, ef hs, hO, h⟩
  refine sk [0, 1, 7, 8] hs hK8 ?_
  clear hK8
  apply Zab; intro K10 hK10
  apply Zad
  refine rg [0, 1, 5, 7, 8] hs ?_
  obtain ⟨x13, hx13, h⟩ := bind_some h
  obtain ⟨hx13a, hx13b, hx13c⟩ := Zar hx13
  have hx13d := Zay (f := avS) hx13c
  have hs := And.intro hx13d hs
  refine rg [0, 1, 5, 7, 8, 16] hs ?_
  refine cnd h hs (fun hs h => ?_) (fun hs h => ?_)
  ·
   refine rg [4] hs ?_
   exact rt h hs hcalm hO
  refine sk [0, 1, 7, 8] hs hK10 ?_
  clear hK10
  obtain ⟨hg16, h⟩ := Zac h
  refine rl [0, 1, 7, 8] hs (fun e s => Vl6 ml6 e s (Nat.lt_succ_self _)) ?_
  exact ⟨(x8_l6 + 1), ([]), Rl6, ef hs, ef hs, hO, h⟩
 ·
  clear h; rintro e st ⟨Xk3, Rk3, rfl, rfl, hO, h⟩
  rw [Zdu] at h
  refine td hN hNR hNL hcalm hO ?_
  refine rg [4] hs ?_
  exact rt h hs hcalm hO
def Zbu (n : Nat) (a0 : List ByteArray) (a1 : ByteArray) : Option Bool :=
 (ZcX n a0 a1).bind fun y3 =>
 some (decide (0 ≤ y3))
theorem ZgD (w0 : World) (n : Nat) (B : List (List AV)) (Rw : List RowA) (L : List LoopA) (a0 : List ByteArray) (a1 : ByteArray) (r : Bool) (h : Zbu n a0 a1 = some r) :
  ACalls Tryz.prog w0 131 [.list (a0.map avS) .none, .val (.string a1)] ⟨B, Rw, L⟩ fun x st => x = .val (.bool r) ∧ st = ⟨B, Rw, L⟩ := by
 rw [Zbu] at h
 refine hd [.tmp 4] Tryz.func131 Tryz.ntmps131 fun M0 W0 hN hNR hNL hcalm hu hO hs => ?_
 simp only [Zav]
 refine rg [0, 1] hs ?_
 obtain ⟨y3, hy3, h⟩ := bind_some h
 refine rc 2 [4] hs ?_; intro K2 hK2
 refine Zaf _ (ZhV w0 n _ _ _ a0 a1 _ hy3) (hv hs) ?_
 refine ne hs hK2 ?_
 clear hK2
 exact rt h hs hcalm hO
def ZhX (rec : Ty → Vl → Option Bool) (n : Nat) (a0 : Ty) (a1 : Vl) : Option Bool :=
 (Zaw n a0.fields (fun (x0 : Int × ByteArray × Int × Ty × List Vl) => Zfy n x0 a1)).bind fun y69 =>
 some (!y69)
def Zi8 (rec : Ty → Vl → Option Bool) (n : Nat)  : Option Bool :=
 some (true)
def Zek (rec : Ty → Vl → Option Bool) (n : Nat) (a0 : Ty) (a1 : Vl) : Nat → Int → Option Bool
 | 0, _ => none
 | m + 1, x107_l51 =>
  if decide (x107_l51 < ((a1.fields.length : Int))) then
   (idx a1.fields x107_l51).bind fun x57 =>
   (Zen n a0 x57.1).bind fun y59 =>
   if !y59.2 then
    some (false)
   else
    (rec y59.1.2.2.2.1 x57.2).bind fun y64 =>
    if !y64 then
     some (false)
    else
     if I64 (x107_l51 + 1) then
      (Zek rec n a0 a1 m) (x107_l51 + 1)
     else none
  else
   ZhX rec n a0 a1 
def Zbm (rec : Ty → Vl → Option Bool) (n : Nat) (a0 : Ty) (a1 : Vl) (x18_k11 : Bool) : Option Bool :=
 if x18_k11 then
  some ((decide (a0.min ≤ a1.int) && decide (a1.int ≤ a0.max)) && (decide (a1.scale = a0.scale)))
 else
  if decide (a0.kind = 4) then
   if decide (0 < ((a0.words.length : Int))) then
    (Zbu n a0.words a1.text).bind fun y27 =>
    some (y27)
   else
    some (decide (a0.min ≤ ((a1.text.size : Int))) && decide (((a1.text.size : Int)) ≤ a0.max))
  else
   if decide (a0.kind = 5) then
    some (decide (a0.min ≤ ((a1.text.size : Int))) && decide (((a1.text.size : Int)) ≤ a0.max))
   else
    if decide (a0.kind = 8) then
     if decide (a0.min ≤ ((a1.list.length : Int))) && decide (((a1.list.length : Int)) ≤ a0.max) then
      (Zbd n a1.list (fun (x0 : Vl) => Zfz rec x0 a0)).bind fun y36 =>
      some (!y36)
     else
      some (false)
    else
     if decide (a0.kind = 10) then
      (Zen n a0 a1.text).bind fun y40 =>
      if y40.2 then
       (idx a1.list 0).bind fun x43 =>
       (rec y40.1.2.2.2.1 x43).bind fun y44 =>
       some (y44)
      else
       some (false)
     else
      if decide (a0.kind = 9) then
       Zek rec n a0 a1 n 0
      else
       Zi8 rec n 
def Zlj (rec : Ty → Vl → Option Bool) (n : Nat) (a0 : Ty) (a1 : Vl) : Option Bool :=
 if !(decide (a1.kind = a0.kind)) then
  some (false)
 else
  if decide (a0.kind = 2) then
   Zbm rec n a0 a1 true
  else
   if decide (a0.kind = 6) then
    Zbm rec n a0 a1 true
   else
    if decide (a0.kind = 7) then
     Zbm rec n a0 a1 true
    else
     Zbm rec n a0 a1 (decide (a0.kind = 3))
def ZdF : Nat → Ty → Vl → Option Bool
 | 0, _, _ => none
 | n + 1, a0, a1 => Zlj (ZdF n) n a0 a1
def Zn5 (w0 : World) (F : Ty → Vl → Option Bool) : Prop := ∀ (B : List (List AV)) (Rw : List RowA) (L : List LoopA) (a0 : Ty) (a1 : Vl) (r : Bool), F a0 a1 = some r → ACalls Tryz.prog w0 107 [.agg (a0.cs), .agg (a1.cs)] ⟨B, Rw, L⟩ fun x st => x = .val (.bool r) ∧ st = ⟨B, Rw, L⟩
theorem Zpj (w0 : World) (rec : Ty → Vl → Option Bool) (ih : Zn5 w0 rec) (n : Nat) : Zn5 w0 (Zlj rec n) := by
 intro B Rw L a0 a1 r h
 rw [Zlj] at h
 refine hd [.tmp 4] Tryz.func107 Tryz.ntmps107 fun M0 W0 hN hNR hNL hcalm hu hO hs => ?_
 simp only [Zav]
 refine rg [2, 3] hs ?_
 apply Zab; intro K2 hK2
 refine rg [2, 3, 15] hs ?_
 refine cnd h hs (fun hs h => ?_) (fun hs h => ?_)
 ·
  have hb4 := hs.1
  refine rg [4] hs ?_
  exact rt h hs hcalm hO
 have hb4 := hs.1
 refine sk [2, 3] hs hK2 ?_
 clear hK2
 refine Zai (fun e st => Ck e st B Rw L [] [a0.cs, a1.cs] [] (Zi8 rec n  = some r)) ?_ ?_
 ·
  intro K8 hK8
  refine rg [2, 3, 17] hs ?_
  apply Zad
  refine Zai (fun e st => ∃ (x18_k11 : Bool), Ck e st B Rw L [(2, true, .box B.length 0), (3, true, .box (B.length + 1) 0), (17, true, .val (.int .i64 a0.kind)), (18, true, .val (.bool x18_k11))] [a0.cs, a1.cs] [] (Zbm rec n a0 a1 x18_k11 = some r)) ?_ ?_
  ·
   intro K12 hK12
   refine rg [2, 3, 17, 18] hs ?_
   refine cnd h hs (fun hs h => ?_) (fun hs h => ?_)
   ·
    refine sk [2, 3, 17, 18] hs hK12 ?_
    exact ⟨true, ([]), Rw, ef hs, ef hs, hO, h⟩
   refine rg [2, 3, 17, 18] hs ?_
   refine cnd h hs (fun hs h => ?_) (fun hs h => ?_)
   ·
    refine sk [2, 3, 17, 18] hs hK12 ?_
    exact ⟨true, ([]), Rw, ef hs, ef hs, hO, h⟩
   refine rg [2, 3, 17, 18] hs ?_
   refine cnd h hs (fun hs h => ?_) (fun hs h => ?_)
   ·
    refine sk [2, 3, 17, 18] hs hK12 ?_
    exact ⟨true, ([]), Rw, ef hs, ef hs, hO, h⟩
   refine rl [2, 3, 17, 18] hs hK12 ?_
   exact ⟨(decide (a0.kind = 3)), ([]), Rw, ef hs, ef hs, hO, h⟩
  ·
   clear h; rintro e st ⟨x18_k11, Xk11, Rk11, rfl, rfl, hO, h⟩
   rw [Zbm] at h
   refine td hN hNR hNL hcalm hO ?_
   refine cnd h hs (fun hs h => ?_) (fun hs h => ?_)
   ·
    have hb19 := hs.1
    refine rc 2 [4] hs ?_; intro K20 hK20
    refine Zaf _ (ZlJ w0 _ _ _ a1.int a0.min a0.max) (hv hs) ?_
    refine ne hs hK20 ?_
    clear hK20
    exact rt h hs hcalm hO
   have hb19 := hs.1
   refine rg [2, 3, 17, 37] hs ?_
   refine cnd h hs (fun hs h => ?_) (fun hs h => ?_)
   ·
    have hb22 := hs.1
    apply Zab; intro K23 hK23
    refine rg [2, 3, 42] hs ?_
    refine cnd h hs (fun hs h => ?_) (fun hs h => ?_)
    ·
     obtain ⟨y27, hy27, h⟩ := bind_some h
     refine rc 2 [4] hs ?_; intro K26 hK26
     refine Zaf _ (ZgD w0 n _ _ _ a0.words a1.text _ hy27) (hv hs) ?_
     refine ne hs hK26 ?_
     clear hK26
     exact rt h hs hcalm hO
    refine sk [2, 3] hs hK23 ?_
    clear hK23
    refine rc 2 [4] hs ?_; intro K28 hK28
    refine Zaf _ (ZlJ w0 _ _ _ ((a1.text.size : Int)) a0.min a0.max) (hv hs) ?_
    refine ne hs hK28 ?_
    clear hK28
    exact rt h hs hcalm hO
   have hb22 := hs.1
   refine rg [2, 3, 17, 56] hs ?_
   refine cnd h hs (fun hs h => ?_) (fun hs h => ?_)
   ·
    have hb30 := hs.1
    refine rc 2 [4] hs ?_; intro K31 hK31
    refine Zaf _ (ZlJ w0 _ _ _ ((a1.text.size : Int)) a0.min a0.max) (hv hs) ?_
    refine ne hs hK31 ?_
    clear hK31
    exact rt h hs hcalm hO
   have hb30 := hs.1
   refine rg [2, 3, 17, 66] hs ?_
   refine cnd h hs (fun hs h => ?_) (fun hs h => ?_)
   ·
    have hb33 := hs.1
    apply Zab; intro K34 hK34
    rcases Bool.eq_false_or_eq_true (decide (a0.min ≤ ((a1.list.length : Int))) && decide (((a1.list.length : Int)) ≤ a0.max)) with hf35 | hf35
    ·
     replace h := Za2 h hf35
     obtain ⟨y36, hy36, h⟩ := bind_some h
     have hs := And.intro hf35 hs
     refine rk 3 [4] hs ?_
     refine Zaf _ (ZlJ w0 _ _ _ ((a1.list.length : Int)) a0.min a0.max) (hv hs) ?_
     refine nc hs ?_
     refine Zaf _ (ZfB w0 n _ _ _ a1.list 183 [.box B.length 0] (fun (x0 : Vl) => Zfz rec x0 a0) (fun x0 r hx B' rows' hB' hR' => by exact Zpm w0 rec ih _ _ _ x0 _ a0 (ZeC hB' (ef hs)) _ hx) _ hy36) (hv hs) ?_
     refine ne hs hK34 ?_
     clear hK34
     exact rt h hs hcalm hO
    ·
     replace h := ZaZ h hf35
     apply Zae 3 [4]
     rw [Zaa]; simp +decide only [go_sem, Nat.reduceAdd, hb4, hb19, hb22, hb30, hb33, hf35]
     have hs := And.intro hf35 hs
     (repeat' apply And.intro) <;> first | refine Zaf _ (ZlJ w0 _ _ _ ((a1.list.length : Int)) a0.min a0.max) (hv hs) ?_ | exact cl
     rw [Zaa]; simp +decide only [go_sem, Nat.reduceAdd, hb4, hb19, hb22, hb30, hb33, hf35]
     (repeat' apply And.intro) <;> first | refine ZaL ?_ | exact cl
     rw [Zaa]; simp +decide only [go_sem, Nat.reduceAdd, hb4, hb19, hb22, hb30, hb33, hf35]
     (repeat' apply And.intro) <;> first | refine hK34 _ _ ?_ | exact cl
     clear hK34
     exact rt h hs hcalm hO
   have hb33 := hs.1
   refine rg [2, 3, 17, 83] hs ?_
   refine cnd h hs (fun hs h => ?_) (fun hs h => ?_)
   ·
    have hb38 := hs.1
    obtain ⟨y40, hy40, h⟩ := bind_some h
    refine rc 2 [3, 5, 6] hs ?_; intro K39 hK39
    refine Zaf _ (Zh9 w0 n _ _ _ a0 a1.text _ hy40) (hv hs) ?_
    refine ne hs hK39 ?_
    clear hK39
    apply Zab; intro K41 hK41
    rcases Bool.eq_false_or_eq_true (y40.2) with hf42 | hf42
    ·
     replace h := Za2 h hf42
     obtain ⟨x43, hx43a, hx43b, hx43d, h⟩ := ix avV h
     have hx43e : (a1.list.map avV).getD 0 .junk = _ := hx43d
     obtain ⟨y44, hy44, h⟩ := bind_some h
     apply Zat mix 11 2 1 [4] (by kernel_rfl)
     rw [Zaa]; simp +decide only [go_sem, Nat.reduceAdd, hb4, hb19, hb22, hb30, hb33, hb38, hf42, hx43d, hx43e]
     have hs := And.intro hf42 hs
     have hs := And.intro hx43d hs
     have hs := And.intro hx43e hs
     (repeat' apply And.intro) <;> first | refine Zaf _ (ih _ _ _ y40.1.2.2.2.1 x43 _ hy44) (hv hs) ?_ | exact cl
     rw [Zaa]; simp +decide only [go_sem, Nat.reduceAdd, hb4, hb19, hb22, hb30, hb33, hb38, hf42, hx43d, hx43e]
     (repeat' with_reducible apply And.intro) <;> first | (rw [Zaa]; simp +decide only [go_sem, Nat.reduceAdd, hb4, hb19, hb22, hb30, hb33, hb38, hf42, hx43d, hx43e]) | exact cl
     (repeat' apply And.intro) <;> first | refine hK41 _ _ ?_ | exact cl
     clear hK41
     exact rt h hs hcalm hO
    ·
     replace h := ZaZ h hf42
     apply Zat mix 11 2 1 [4] (by kernel_rfl)
     rw [Zaa]; simp +decide only [go_sem, Nat.reduceAdd, hb4, hb19, hb22, hb30, hb33, hb38, hf42]
     (repeat' apply And.intro) <;> first | refine ZaL ?_ | exact cl
     rw [Zaa]; simp +decide only [go_sem, Nat.reduceAdd, hb4, hb19, hb22, hb30, hb33, hb38, hf42]
     (repeat' with_reducible apply And.intro) <;> first | (rw [Zaa]; simp +decide only [go_sem, Nat.reduceAdd, hb4, hb19, hb22, hb30, hb33, hb38, hf42]) | exact cl
     (repeat' apply And.intro) <;> first | refine hK41 _ _ ?_ | exact cl
     clear hK41
     have hs := And.intro hf42 hs
     exact rt h hs hcalm hO
   have hb38 := hs.1
   refine rg [2, 3, 102] hs ?_
   refine cnd h hs (fun hs h => ?_) (fun hs h => ?_)
   ·
    have hb46 := hs.1
    refine Zai (fun e st => Ck e st B Rw L [(2, true, .box B.length 0), (3, true, .box (B.length + 1) 0)] [a0.cs, a1.cs] [] (ZhX rec n a0 a1  = some r)) ?_ ?_
    ·
     intro K49 hK49
     refine rg [2, 3, 105, 106, 107] hs ?_
     apply Zad
     refine Zal (fun m e st => ∃ (x107_l51 : Int), Ck e st B Rw L [(2, true, .box B.length 0), (3, true, .box (B.length + 1) 0), (105, true, .list (a1.fields.map avF) .none), (106, true, .val (.int .i64 ((a1.fields.length : Int)))), (107, true, .val (.int .i64 x107_l51))] [a0.cs, a1.cs] [] (Zek rec n a0 a1 m x107_l51 = some r)) n ⟨0, ([]), Rk11, ef hs, ef hs, hO, h⟩ ?_
     rintro ml51 e st ⟨x107_l51, Xl51, Rl51, rfl, rfl, hO, h⟩ Ul51 Vl51
     cases ml51 with
     | zero => cases h
     | succ ml51 =>
     rw [Zek] at h
     refine td hN hNR hNL hcalm hO ?_
     refine rg [2, 3, 105, 106, 107, 108] hs ?_
     apply Zab; intro K53 hK53
     refine cnd h hs (fun hs h => ?_) (fun hs h => ?_)
     rotate_left
     ·
      have hb54 := hs.1
      refine sx [2, 3] hs hK49 ?_
      exact ⟨([]), Rl51, ef hs, ef hs, hO, h⟩
     have hb54 := hs.1
     refine sk [2, 3, 105, 106, 107] hs hK53 ?_
     clear hK53
     apply Zab; intro K55 hK55
     apply Zad
     obtain ⟨x57, hx57, h⟩ := bind_some h
     obtain ⟨hx57a, hx57b, hx57c⟩ := Zar hx57
     have hx57d := Zay (f := avF) hx57c
     have hs := And.intro hx57d hs
     refine rg [2, 3, 8, 105, 106, 107] hs ?_
     obtain ⟨y59, hy59, h⟩ := bind_some h
     refine rc 2 [2, 3, 8, 9, 10, 105, 106, 107] hs ?_; intro K58 hK58
     refine Zaf _ (Zh9 w0 n _ _ _ a0 x57.1 _ hy59) (hv hs) ?_
     refine ne hs hK58 ?_
     clear hK58
     apply Zab; intro K60 hK60
     rcases Bool.eq_false_or_eq_true (!y59.2) with hf61 | hf61
     ·
      replace h := Za2 h hf61
      apply Zae 2 [2, 3, 105, 106, 107, 127]
      rw [Zaa]; simp +decide only [go_sem, Nat.reduceAdd, hb4, hb19, hb22, hb30, hb33, hb38, hb46, hb54, hx57d, hf61]
      (repeat' apply And.intro) <;> first | refine ZaL ?_ | exact cl
      rw [Zaa]; simp +decide only [go_sem, Nat.reduceAdd, hb4, hb19, hb22, hb30, hb33, hb38, hb46, hb54, hx57d, hf61]
      (repeat' apply And.intro) <;> first | refine hK60 _ _ ?_ | exact cl
      clear hK60
      have hs := And.intro hf61 hs
      refine Zaz true ev (ef hs) (fun hb62 => ?_) (fun hb62 => by cases hb62)
      refine rg [4] hs ?_
      exact rt h hs hcalm hO
     ·
      replace h := ZaZ h hf61
      obtain ⟨y64, hy64, h⟩ := bind_some h
      have hs := And.intro hf61 hs
      refine rk 2 [2, 3, 105, 106, 107, 127] hs ?_
      refine Zaf _ (ih _ _ _ y59.1.2.2.2.1 x57.2 _ hy64) (hv hs) ?_
      refine ne hs hK60 ?_
      clear hK60
      refine cnd h hs (fun hs h => ?_) (fun hs h => ?_)
      ·
       refine rg [4] hs ?_
       exact rt h hs hcalm hO
      refine sk [2, 3, 105, 106, 107] hs hK55 ?_
      clear hK55
      obtain ⟨hg67, h⟩ := Zac h
      refine rl [2, 3, 105, 106, 107] hs (fun e s => Vl51 ml51 e s (Nat.lt_succ_self _)) ?_
      exact ⟨(x107_l51 + 1), ([.val (.string x57.1) :: (x57.2.cs), .val (.int .i64 y59.1.1) :: (.val (.string y59.1.2.1) :: (.val (.int .i64 y59.1.2.2.1) :: ((y59.1.2.2.2.1.cs) ++ ([.list (y59.1.2.2.2.2.map avV) .none]))))]), Rl51, ef hs, ef hs, hO, h⟩
    ·
     clear h; rintro e st ⟨Xk48, Rk48, rfl, rfl, hO, h⟩
     rw [ZhX] at h
     refine td hN hNR hNL hcalm hO ?_
     obtain ⟨y69, hy69, h⟩ := bind_some h
     refine rc 2 [4] hs ?_; intro K68 hK68
     refine Zaf _ (Zcp w0 n _ _ _ a0.fields 184 [.box (B.length + 1) 0] (fun (x0 : Int × ByteArray × Int × Ty × List Vl) => Zfy n x0 a1) (fun x0 r hx B' rows' hB' hR' => by exact ZpC w0 n _ _ _ x0 _ a1 (ZeC hB' (ef hs)) _ hx) _ hy69) (hv hs) ?_
     refine ne hs hK68 ?_
     clear hK68
     exact rt h hs hcalm hO
   have hb46 := hs.1
   refine sk [] hs hK8 ?_
   exact ⟨([]), Rk11, ef hs, ef hs, hO, h⟩
 ·
  clear h; rintro e st ⟨Xk7, Rk7, rfl, rfl, hO, h⟩
  rw [Zi8] at h
  refine td hN hNR hNL hcalm hO ?_
  refine rg [4] hs ?_
  exact rt h hs hcalm hO
theorem ZoI (w0 : World) : ∀ n : Nat, Zn5 w0 (ZdF n)
 | 0 => fun _ _ _ _ _ _ h => (nomatch h)
 | n + 1 => Zpj w0 (ZdF n) (ZoI w0 n) n
def ZdL (n : Nat) (a0 : Ty) (a1 : Vl) : Option Bool :=
 (ZeP n a1).bind fun y3 =>
 if decide (y3 = 0) then
  (ZdF n a0 a1).bind fun y5 =>
  some (y5)
 else
  some (false)
theorem ZiU (w0 : World) (hT : Lib.Utf8Tabs 0 1 w0) (n : Nat) (B : List (List AV)) (Rw : List RowA) (L : List LoopA) (a0 : Ty) (a1 : Vl) (r : Bool) (h : ZdL n a0 a1 = some r) :
  ACalls Tryz.prog w0 59 [.agg (a0.cs), .agg (a1.cs)] ⟨B, Rw, L⟩ fun x st => x = .val (.bool r) ∧ st = ⟨B, Rw, L⟩ := by
 rw [ZdL] at h
 refine hd [.tmp 4] Tryz.func59 Tryz.ntmps59 fun M0 W0 hN hNR hNL hcalm hu hO hs => ?_
 simp only [Zav]
 refine rg [2, 3] hs ?_
 apply Zab; intro K2 hK2
 obtain ⟨y3, hy3, h⟩ := bind_some h
 rcases Bool.eq_false_or_eq_true (decide (y3 = 0)) with hf4 | hf4
 ·
  replace h := Za2 h hf4
  obtain ⟨y5, hy5, h⟩ := bind_some h
  have hs := And.intro hf4 hs
  refine rk 3 [4] hs ?_
  refine Zaf _ (ZiF w0 hT n _ _ _ a1 _ hy3) (hv hs) ?_
  refine nc hs ?_
  refine Zaf _ (ZoI w0 n _ _ _ a0 a1 _ hy5) (hv hs) ?_
  refine ne hs hK2 ?_
  clear hK2
  exact rt h hs hcalm hO
 ·
  replace h := ZaZ h hf4
  apply Zae 3 [4]
  rw [Zaa]; simp +decide only [go_sem, Nat.reduceAdd, hf4]
  have hs := And.intro hf4 hs
  (repeat' apply And.intro) <;> first | refine Zaf _ (ZiF w0 hT n _ _ _ a1 _ hy3) (hv hs) ?_ | exact cl
  rw [Zaa]; simp +decide only [go_sem, Nat.reduceAdd, hf4]
  (repeat' apply And.intro) <;> first | refine ZaL ?_ | exact cl
  rw [Zaa]; simp +decide only [go_sem, Nat.reduceAdd, hf4]
  (repeat' apply And.intro) <;> first | refine hK2 _ _ ?_ | exact cl
  clear hK2
  exact rt h hs hcalm hO
def ZaO (a0 : Int × ByteArray × Int × Ty × List Vl) (a1 : Int × ByteArray × Int × Ty × List Vl) : Bool :=
 (sEq a0.2.1 a1.2.1) || (decide (a0.1 = a1.1))
theorem Znl (w0 : World) (B : List (List AV)) (Rw : List RowA) (L : List LoopA) (a0 : Int × ByteArray × Int × Ty × List Vl) (la1 : Nat) (a1 : Int × ByteArray × Int × Ty × List Vl) (hla1 : B[la1]? = some (.val (.int .i64 a1.1) :: (.val (.string a1.2.1) :: (.val (.int .i64 a1.2.2.1) :: ((a1.2.2.2.1.cs) ++ ([.list (a1.2.2.2.2.map avV) .none])))))) (r : Bool) (h : ZaO a0 a1 = r) :
  ACalls Tryz.prog w0 227 [.agg (.val (.int .i64 a0.1) :: (.val (.string a0.2.1) :: (.val (.int .i64 a0.2.2.1) :: ((a0.2.2.2.1.cs) ++ ([.list (a0.2.2.2.2.map avV) .none]))))), .box la1 0] ⟨B, Rw, L⟩ fun x st => x = .val (.bool r) ∧ st = ⟨B, Rw, L⟩ := by
 rw [ZaO] at h
 refine hd [.tmp 3] Tryz.func227 Tryz.ntmps227 fun M0 W0 hN hNR hNL hcalm hu hO hs => ?_
 simp only [Zav]
 have hltla1 := (List.getElem?_eq_some_iff.1 hla1).1
 have hs := And.intro (Zag hla1) hs
 refine rg [1, 2] hs ?_
 refine rg [3] hs ?_
 apply Zah; simp +decide only [go_sem, Nat.reduceAdd, Zag hla1]
 subst h
 first | refine ZaG hcalm rfl hO.pre ev ⟨?_, rfl⟩ | refine Zbg hcalm rfl hO.pre ev ⟨?_, rfl⟩
 first | rfl | (simp +decide only [go_sem, Nat.reduceAdd, Zag hla1]; done) | (simp +decide only [go_sem, Nat.reduceAdd, Vl.cs, Ty.cs, Zag hla1]; done)
theorem Zle (w0 : World) (B : List (List AV)) (Rw : List RowA) (L : List LoopA) (a0 : Int × ByteArray × Int × Ty × List Vl) (la1 : Nat) (a1 : Int × ByteArray × Int × Ty × List Vl) (hla1 : B[la1]? = some (.val (.int .i64 a1.1) :: (.val (.string a1.2.1) :: (.val (.int .i64 a1.2.2.1) :: ((a1.2.2.2.1.cs) ++ ([.list (a1.2.2.2.2.map avV) .none])))))) :
  ACalls Tryz.prog w0 227 [.agg (.val (.int .i64 a0.1) :: (.val (.string a0.2.1) :: (.val (.int .i64 a0.2.2.1) :: ((a0.2.2.2.1.cs) ++ ([.list (a0.2.2.2.2.map avV) .none]))))), .box la1 0] ⟨B, Rw, L⟩ fun x st => x = .val (.bool (ZaO a0 a1)) ∧ st = ⟨B, Rw, L⟩ := Znl w0 B Rw L a0 la1 a1 hla1 _ rfl
def Zgp (n : Nat) (a0 : Ty) (a1 : Int) : Option Int :=
 (idx a0.fields a1).bind fun x3 =>
 if x3.2.1.size ≤ maxLen then
  if !(Zc3 x3.2.1) then
   some (12)
  else
   if !(decide (1 ≤ x3.1) && decide (x3.1 ≤ 9999)) then
    some (2)
   else
    if 0 ≤ 0 ∧ 0 ≤ a1 ∧ a1 ≤ (a0.fields.length : Int) then
     (Zaw n (a0.fields.take a1.toNat) (fun (x0 : Int × ByteArray × Int × Ty × List Vl) => some (ZaO x0 x3))).bind fun y14 =>
     if y14 then
      some (7)
     else
      if (!(decide (1 ≤ x3.2.2.1) && decide (x3.2.2.1 ≤ 3))) || ((decide (a0.kind = 10)) && (!(decide (x3.2.2.1 = 1)))) then
       some (11)
      else
       if (decide (x3.2.2.1 = 3)) && (decide (((x3.2.2.2.2.length : Int)) = 0)) then
        some (4)
       else
        if (decide (1 < ((x3.2.2.2.2.length : Int)))) || ((!(decide (x3.2.2.1 = 3))) && (decide (0 < ((x3.2.2.2.2.length : Int))))) then
         some (3)
        else
         some (0)
    else none
 else none
theorem Zpv (w0 : World) (n : Nat) (B : List (List AV)) (Rw : List RowA) (L : List LoopA) (a0 : Ty) (a1 : Int) (r : Int) (h : Zgp n a0 a1 = some r) :
  ACalls Tryz.prog w0 195 [.agg (a0.cs), .val (.int .i64 a1)] ⟨B, Rw, L⟩ fun x st => x = .val (.int .i64 r) ∧ st = ⟨B, Rw, L⟩ := by
 rw [Zgp] at h
 refine hd [.tmp 4] Tryz.func195 Tryz.ntmps195 fun M0 W0 hN hNR hNL hcalm hu hO hs => ?_
 simp only [Zav]
 refine rg [1, 2] hs ?_
 obtain ⟨x3, hx3, h⟩ := bind_some h
 obtain ⟨hx3a, hx3b, hx3c⟩ := Zar hx3
 have hx3d := Zay (f := Zer) hx3c
 have hs := And.intro hx3d hs
 refine rg [1, 2, 5] hs ?_
 apply Zab; intro K4 hK4
 apply Zad
 obtain ⟨hg6, h⟩ := Zac h
 refine rc 2 [1, 2, 5, 11] hs ?_; intro K5 hK5
 refine Zaf _ (Zhx w0 _ _ _ x3.2.1 hg6) (hv hs) ?_
 refine ne hs hK5 ?_
 clear hK5
 refine cnd h hs (fun hs h => ?_) (fun hs h => ?_)
 ·
  refine rg [4] hs ?_
  exact rt h hs hcalm hO
 refine rc 2 [1, 2, 5, 16] hs ?_; intro K9 hK9
 refine Zaf _ (ZlJ w0 _ _ _ x3.1 1 9999) (hv hs) ?_
 refine ne hs hK9 ?_
 clear hK9
 refine cnd h hs (fun hs h => ?_) (fun hs h => ?_)
 ·
  refine rg [4] hs ?_
  exact rt h hs hcalm hO
 obtain ⟨hg13, h⟩ := Zac h
 obtain ⟨y14, hy14, h⟩ := bind_some h
 refine rc 2 [2, 5, 21] hs ?_; intro K12 hK12
 refine Zaf _ (Zcp w0 n _ _ _ (a0.fields.take a1.toNat) 227 [.box (B.length + 1) 0] (fun (x0 : Int × ByteArray × Int × Ty × List Vl) => some (ZaO x0 x3)) (fun x0 r hx B' rows' hB' hR' => by cases hx; exact Zle w0 _ _ _ x0 _ x3 (ZeC hB' (ef hs))) _ hy14) (hv hs) ?_
 refine ne hs hK12 ?_
 clear hK12
 refine cnd h hs (fun hs h => ?_) (fun hs h => ?_)
 ·
  refine rg [4] hs ?_
  exact rt h hs hcalm hO
 refine rc 2 [5, 28] hs ?_; intro K17 hK17
 refine Zaf _ (ZlJ w0 _ _ _ x3.2.2.1 1 3) (hv hs) ?_
 refine ne hs hK17 ?_
 clear hK17
 refine cnd h hs (fun hs h => ?_) (fun hs h => ?_)
 ·
  refine rg [4] hs ?_
  exact rt h hs hcalm hO
 refine rg [5, 43] hs ?_
 refine cnd h hs (fun hs h => ?_) (fun hs h => ?_)
 ·
  refine rg [4] hs ?_
  exact rt h hs hcalm hO
 refine rg [53] hs ?_
 refine cnd h hs (fun hs h => ?_) (fun hs h => ?_)
 ·
  refine rg [4] hs ?_
  exact rt h hs hcalm hO
 refine sk [] hs hK4 ?_
 clear hK4
 refine rg [4] hs ?_
 exact rt h hs hcalm hO
def Zee  (x5_k4 : Bool) : Int :=
 if x5_k4 then
  3
 else
  0
def ZfZ (a0 : Ty) (a1 : Lim) : Int :=
 if (!a1.bounds) && ((!(decide (a0.min = 0))) || (!(decide (a0.max = 0)))) then
  Zee  true
 else
  if (!a1.scale) && (!(decide (a0.scale = 0))) then
   Zee  true
  else
   if (!a1.text) && (decide (0 < ((a0.words.length : Int)))) then
    Zee  true
   else
    if (!a1.list) && (decide (0 < ((a0.elem.length : Int)))) then
     Zee  true
    else
     Zee  ((!a1.fields) && (decide (0 < ((a0.fields.length : Int)))))
theorem ZpU (w0 : World) (B : List (List AV)) (Rw : List RowA) (L : List LoopA) (a0 : Ty) (a1 : Lim) (r : Int) (h : ZfZ a0 a1 = r) :
  ACalls Tryz.prog w0 193 [.agg (a0.cs), .agg (.val (.string a1.name) :: (.val (.int .i64 a1.low) :: (.val (.int .i64 a1.high) :: (.val (.bool a1.bounds) :: (.val (.bool a1.scale) :: (.val (.bool a1.text) :: (.val (.bool a1.list) :: ([.val (.bool a1.fields)]))))))))] ⟨B, Rw, L⟩ fun x st => x = .val (.int .i64 r) ∧ st = ⟨B, Rw, L⟩ := by
 rw [ZfZ] at h
 refine hd [.tmp 4] Tryz.func193 Tryz.ntmps193 fun M0 W0 hN hNR hNL hcalm hu hO hs => ?_
 simp only [Zav]
 refine rg [2, 3] hs ?_
 apply Zab; intro K2 hK2
 apply Zad
 refine Zai (fun e st => ∃ (x5_k4 : Bool), Ck e st B Rw L [(5, true, .val (.bool x5_k4))] [a0.cs, .val (.string a1.name) :: (.val (.int .i64 a1.low) :: (.val (.int .i64 a1.high) :: (.val (.bool a1.bounds) :: (.val (.bool a1.scale) :: (.val (.bool a1.text) :: (.val (.bool a1.list) :: ([.val (.bool a1.fields)])))))))] [] (Zee  x5_k4 = r)) ?_ ?_
 ·
  intro K5 hK5
  refine rg [2, 3, 5] hs ?_
  refine cnd h hs (fun hs h => ?_) (fun hs h => ?_)
  ·
   refine sk [5] hs hK5 ?_
   exact ⟨true, ([]), Rw, ef hs, ef hs, hO, h⟩
  refine rg [2, 3, 5] hs ?_
  refine cnd h hs (fun hs h => ?_) (fun hs h => ?_)
  ·
   refine sk [5] hs hK5 ?_
   exact ⟨true, ([]), Rw, ef hs, ef hs, hO, h⟩
  refine rg [2, 3, 5] hs ?_
  refine cnd h hs (fun hs h => ?_) (fun hs h => ?_)
  ·
   refine sk [5] hs hK5 ?_
   exact ⟨true, ([]), Rw, ef hs, ef hs, hO, h⟩
  refine rg [2, 3, 5] hs ?_
  refine cnd h hs (fun hs h => ?_) (fun hs h => ?_)
  ·
   refine sk [5] hs hK5 ?_
   exact ⟨true, ([]), Rw, ef hs, ef hs, hO, h⟩
  refine rl [5] hs hK5 ?_
  exact ⟨((!a1.fields) && (decide (0 < ((a0.fields.length : Int))))), ([]), Rw, ef hs, ef hs, hO, h⟩
 ·
  clear h; rintro e st ⟨x5_k4, Xk4, Rk4, rfl, rfl, hO, h⟩
  rw [Zee] at h
  refine td hN hNR hNL hcalm hO ?_
  refine cnd h hs (fun hs h => ?_) (fun hs h => ?_)
  ·
   have hb14 := hs.1
   refine rg [4] hs ?_
   apply Zah; simp +decide only [go_sem, Nat.reduceAdd, hb14]
   subst h
   first | refine ZaG hcalm rfl hO.pre ev ⟨?_, rfl⟩ | refine Zbg hcalm rfl hO.pre ev ⟨?_, rfl⟩
   first | rfl | (simp +decide only [go_sem, Nat.reduceAdd, hb14]; done) | (simp +decide only [go_sem, Nat.reduceAdd, Vl.cs, Ty.cs, hb14]; done)
  have hb14 := hs.1
  refine sk [] hs hK2 ?_
  clear hK2
  refine rg [4] hs ?_
  apply Zah; simp +decide only [go_sem, Nat.reduceAdd, hb14]
  subst h
  first | refine ZaG hcalm rfl hO.pre ev ⟨?_, rfl⟩ | refine Zbg hcalm rfl hO.pre ev ⟨?_, rfl⟩
  first | rfl | (simp +decide only [go_sem, Nat.reduceAdd, hb14]; done) | (simp +decide only [go_sem, Nat.reduceAdd, Vl.cs, Ty.cs, hb14]; done)
theorem Zpb (w0 : World) (B : List (List AV)) (Rw : List RowA) (L : List LoopA) (a0 : Ty) (a1 : Lim) :
  ACalls Tryz.prog w0 193 [.agg (a0.cs), .agg (.val (.string a1.name) :: (.val (.int .i64 a1.low) :: (.val (.int .i64 a1.high) :: (.val (.bool a1.bounds) :: (.val (.bool a1.scale) :: (.val (.bool a1.text) :: (.val (.bool a1.list) :: ([.val (.bool a1.fields)]))))))))] ⟨B, Rw, L⟩ fun x st => x = .val (.int .i64 (ZfZ a0 a1)) ∧ st = ⟨B, Rw, L⟩ := ZpU w0 B Rw L a0 a1 _ rfl
def Zed  : ((List Lim)) :=
 [Lim.mk ((⟨#[]⟩ : ByteArray)) 0 0 false false false false false, Lim.mk ((⟨#[98, 111, 111, 108]⟩ : ByteArray)) 0 0 false false false false false, Lim.mk ((⟨#[105, 110, 116]⟩ : ByteArray)) ((-999999999999999)) 999999999999999 true false false false false, Lim.mk ((⟨#[100, 101, 99, 105, 109, 97, 108]⟩ : ByteArray)) ((-999999999999999)) 999999999999999 true true false false false, Lim.mk ((⟨#[116, 101, 120, 116]⟩ : ByteArray)) 0 1024 true false true false false, Lim.mk ((⟨#[98, 121, 116, 101, 115]⟩ : ByteArray)) 0 1024 true false false false false, Lim.mk ((⟨#[100, 97, 116, 101]⟩ : ByteArray)) ((-719162)) 2932896 true false false false false, Lim.mk ((⟨#[116, 105, 109, 101]⟩ : ByteArray)) ((-62135596800000)) 253402300799999 true false false false false, Lim.mk ((⟨#[108, 105, 115, 116]⟩ : ByteArray)) 0 256 true false false true false, Lim.mk ((⟨#[114, 101, 99, 111, 114, 100]⟩ : ByteArray)) 0 0 false false false false true, Lim.mk ((⟨#[118, 97, 114, 105, 97, 110, 116]⟩ : ByteArray)) 0 0 false false false false true]
theorem Zpr (w0 : World) (B : List (List AV)) (Rw : List RowA) (L : List LoopA)  (r : (List Lim)) (h : Zed  = r) :
  ACalls Tryz.prog w0 192 [] ⟨B, Rw, L⟩ fun x st => x = .agg (r.flatMap fun x => (ZsL x).cells) ∧ st = ⟨B, Rw, L⟩ := by
 rw [Zed] at h
 refine hd [.cell 0 185] Tryz.func192 Tryz.ntmps192 fun M0 W0 hN hNR hNL hcalm hu hO hs => ?_
 simp only [Zav]
 refine rg [0] hs ?_
 apply Zab; intro K2 hK2
 apply Zae 1 [0]
 rw [Zaa]; simp +decide only [go_sem, Nat.reduceAdd, ZaF, Zan, Zam, List.getElem?_cons_zero, List.getElem?_cons_succ, List.nil_append, List.cons_append]
 (repeat' apply And.intro) <;> first | refine hK2 _ _ ?_ | exact cl
 clear hK2
 apply Zah; simp +decide only [go_sem, Nat.reduceAdd]
 subst h
 first | refine ZaG hcalm rfl hO.pre ev ⟨?_, rfl⟩ | refine Zbg hcalm rfl hO.pre ev ⟨?_, rfl⟩
 first | rfl | (simp +decide only [go_sem, Nat.reduceAdd]; done) | (simp +decide only [go_sem, Nat.reduceAdd, Vl.cs, Ty.cs]; done)
theorem ZnJ (w0 : World) (B : List (List AV)) (Rw : List RowA) (L : List LoopA)  :
  ACalls Tryz.prog w0 192 [] ⟨B, Rw, L⟩ fun x st => x = .agg ((Zed ).flatMap fun x => (ZsL x).cells) ∧ st = ⟨B, Rw, L⟩ := Zpr w0 B Rw L  _ rfl
def Zex (a0 : ByteArray) : Vl :=
 Vl.mk 4 0 0 a0 ([]) ([])
theorem ZqW (w0 : World) (B : List (List AV)) (Rw : List RowA) (L : List LoopA) (a0 : ByteArray) (r : Vl) (h : Zex a0 = r) :
  ACalls Tryz.prog w0 168 [.val (.string a0)] ⟨B, Rw, L⟩ fun x st => x = .agg (r.cs) ∧ st = ⟨B, Rw, L⟩ := by
 rw [Zex] at h
 refine hd [.cell 2 46] Tryz.func168 Tryz.ntmps168 fun M0 W0 hN hNR hNL hcalm hu hO hs => ?_
 simp only [Zav]
 refine rg [0, 2] hs ?_
 apply Zab; intro K2 hK2
 apply Zae 1 [2]
 rw [Zaa]; simp +decide only [go_sem, Nat.reduceAdd, ZaF, Zan, Zam]
 (repeat' apply And.intro) <;> first | refine hK2 _ _ ?_ | exact cl
 clear hK2
 apply Zah; simp +decide only [go_sem, Nat.reduceAdd]
 subst h
 first | refine ZaG hcalm rfl hO.pre ev ⟨?_, rfl⟩ | refine Zbg hcalm rfl hO.pre ev ⟨?_, rfl⟩
 first | rfl | (simp +decide only [go_sem, Nat.reduceAdd]; done) | (simp +decide only [go_sem, Nat.reduceAdd, Vl.cs, Ty.cs]; done)
theorem ZiG (w0 : World) (B : List (List AV)) (Rw : List RowA) (L : List LoopA) (a0 : ByteArray) :
  ACalls Tryz.prog w0 168 [.val (.string a0)] ⟨B, Rw, L⟩ fun x st => x = .agg ((Zex a0).cs) ∧ st = ⟨B, Rw, L⟩ := ZqW w0 B Rw L a0 _ rfl
def ZfG (n : Nat)  : Option Int :=
 some (0)
def ZcR (n : Nat) (a0 : Ty) : Nat → Int → Option Int
 | 0, _ => none
 | m + 1, x23_l13 =>
  if decide (x23_l13 < ((a0.words.length : Int))) then
   (idx a0.words x23_l13).bind fun x19 =>
   (ZeP n (Zex x19)).bind fun y22 =>
   if !(decide (y22 = 0)) then
    some (y22)
   else
    if decide (0 < x23_l13) then
     if I64 (x23_l13 - 1) then
      (idx a0.words (x23_l13 - 1)).bind fun x30 =>
      if sEq x19 x30 then
       some (7)
      else
       if I64 (x23_l13 - 1) then
        if sLt x19 x30 then
         some (24)
        else
         if I64 (x23_l13 + 1) then
          (ZcR n a0 m) (x23_l13 + 1)
         else none
       else none
     else none
    else
     if I64 (x23_l13 + 1) then
      (ZcR n a0 m) (x23_l13 + 1)
     else none
  else
   ZfG n 
def ZgI (n : Nat) (a0 : Ty) : Option Int :=
 if (!(decide (a0.min = 0))) || (!(decide (a0.max = 0))) then
  some (3)
 else
  if decide (64 < ((a0.words.length : Int))) then
   some (9)
  else
   ZcR n a0 n 0
theorem Zo9 (w0 : World) (hT : Lib.Utf8Tabs 0 1 w0) (n : Nat) (B : List (List AV)) (Rw : List RowA) (L : List LoopA) (a0 : Ty) (r : Int) (h : ZgI n a0 = some r) :
  ACalls Tryz.prog w0 194 [.agg (a0.cs)] ⟨B, Rw, L⟩ fun x st => x = .val (.int .i64 r) ∧ st = ⟨B, Rw, L⟩ := by
 rw [ZgI] at h
 refine hd [.tmp 2] Tryz.func194 Tryz.ntmps194 fun M0 W0 hN hNR hNL hcalm hu hO hs => ?_
 simp only [Zav]
 refine rg [1] hs ?_
 apply Zab; intro K2 hK2
 apply Zad
 refine rg [1, 6] hs ?_
 refine cnd h hs (fun hs h => ?_) (fun hs h => ?_)
 ·
  refine rg [2] hs ?_
  exact rt h hs hcalm hO
 refine rg [1, 15] hs ?_
 refine cnd h hs (fun hs h => ?_) (fun hs h => ?_)
 ·
  refine rg [2] hs ?_
  exact rt h hs hcalm hO
 refine sk [1] hs hK2 ?_
 clear hK2
 refine Zai (fun e st => Ck e st B Rw L [] [a0.cs] [] (ZfG n  = some r)) ?_ ?_
 ·
  intro K11 hK11
  refine rg [1, 21, 22, 23] hs ?_
  apply Zad
  refine Zal (fun m e st => ∃ (x23_l13 : Int), Ck e st B Rw L [(1, true, .box B.length 0), (21, true, .list (a0.words.map avS) .none), (22, true, .val (.int .i64 ((a0.words.length : Int)))), (23, true, .val (.int .i64 x23_l13))] [a0.cs] [] (ZcR n a0 m x23_l13 = some r)) n ⟨0, ([]), Rw, ef hs, ef hs, hO, h⟩ ?_
  rintro ml13 e st ⟨x23_l13, Xl13, Rl13, rfl, rfl, hO, h⟩ Ul13 Vl13
  cases ml13 with
  | zero => cases h
  | succ ml13 =>
  rw [ZcR] at h
  refine td hN hNR hNL hcalm hO ?_
  refine rg [1, 21, 22, 23, 24] hs ?_
  apply Zab; intro K15 hK15
  refine cnd h hs (fun hs h => ?_) (fun hs h => ?_)
  rotate_left
  ·
   refine sx [] hs hK11 ?_
   exact ⟨([]), Rl13, ef hs, ef hs, hO, h⟩
  refine sk [1, 21, 22, 23] hs hK15 ?_
  clear hK15
  apply Zab; intro K17 hK17
  apply Zad
  obtain ⟨x19, hx19, h⟩ := bind_some h
  obtain ⟨hx19a, hx19b, hx19c⟩ := Zar hx19
  have hx19d := Zay (f := avS) hx19c
  have hs := And.intro hx19d hs
  refine rg [1, 3, 4, 21, 22, 23] hs ?_
  apply Zab; intro K20 hK20
  obtain ⟨y22, hy22, h⟩ := bind_some h
  refine rc 3 [1, 3, 4, 5, 21, 22, 23] hs ?_; intro K21 hK21
  refine Zaf _ (ZiG w0 _ _ _ x19) (hv hs) ?_
  refine nc hs ?_
  refine Zaf _ (ZiF w0 hT n _ _ _ (Zex x19) _ hy22) (hv hs) ?_
  refine ne hs hK21 ?_
  clear hK21
  refine rg [1, 3, 4, 5, 21, 22, 23, 32] hs ?_
  refine cnd h hs (fun hs h => ?_) (fun hs h => ?_)
  ·
   refine rg [2] hs ?_
   exact rt h hs hcalm hO
  refine sk [1, 3, 4, 21, 22, 23] hs hK20 ?_
  clear hK20
  apply Zab; intro K26 hK26
  apply Zab; intro K27 hK27
  rcases Bool.eq_false_or_eq_true (decide (0 < x23_l13)) with hf28 | hf28
  ·
   replace h := Za2 h hf28
   obtain ⟨hg29, h⟩ := Zac h
   obtain ⟨x30, hx30a, hx30b, hx30d, h⟩ := ix avS h
   have hs := And.intro hf28 hs
   have hs := And.intro hx30d hs
   refine rl [1, 3, 4, 21, 22, 23, 45] hs hK27 ?_
   clear hK27
   refine cnd h hs (fun hs h => ?_) (fun hs h => ?_)
   ·
    refine rg [2] hs ?_
    exact rt h hs hcalm hO
   refine sk [1, 3, 4, 21, 22, 23] hs hK26 ?_
   clear hK26
   obtain ⟨hg34, h⟩ := Zac h
   refine rg [1, 21, 22, 23, 57] hs ?_
   refine cnd h hs (fun hs h => ?_) (fun hs h => ?_)
   ·
    refine rg [2] hs ?_
    exact rt h hs hcalm hO
   refine sk [1, 21, 22, 23] hs hK17 ?_
   clear hK17
   obtain ⟨hg37, h⟩ := Zac h
   refine rl [1, 21, 22, 23] hs (fun e s => Vl13 ml13 e s (Nat.lt_succ_self _)) ?_
   exact ⟨(x23_l13 + 1), ([]), Rl13, ef hs, ef hs, hO, h⟩
  ·
   replace h := ZaZ h hf28
   have hs := And.intro hf28 hs
   refine rl [1, 3, 4, 21, 22, 23, 45] hs hK27 ?_
   clear hK27
   refine Zaz false ev (ef hs) (fun hb38 => by cases hb38) (fun hb38 => ?_)
   refine sk [1, 3, 4, 21, 22, 23] hs hK26 ?_
   clear hK26
   refine rg [1, 21, 22, 23, 57] hs ?_
   refine Zaz false ev (ef hs) (fun hb40 => by cases hb40) (fun hb40 => ?_)
   refine sk [1, 21, 22, 23] hs hK17 ?_
   clear hK17
   obtain ⟨hg41, h⟩ := Zac h
   refine rl [1, 21, 22, 23] hs (fun e s => Vl13 ml13 e s (Nat.lt_succ_self _)) ?_
   exact ⟨(x23_l13 + 1), ([]), Rl13, ef hs, ef hs, hO, h⟩
 ·
  clear h; rintro e st ⟨Xk10, Rk10, rfl, rfl, hO, h⟩
  rw [ZfG] at h
  refine td hN hNR hNL hcalm hO ?_
  refine rg [2] hs ?_
  exact rt h hs hcalm hO
def Zjg (n : Nat)  : Option Int :=
 some (0)
def Zem (n : Nat) (a0 : Ty) : Nat → Int → Option Int
 | 0, _ => none
 | m + 1, x106_l48 =>
  if decide (x106_l48 < ((a0.fields.length : Int))) then
   (Zgp n a0 x106_l48).bind fun y55 =>
   if !(decide (y55 = 0)) then
    some (y55)
   else
    if I64 (x106_l48 + 1) then
     (Zem n a0 m) (x106_l48 + 1)
    else none
  else
   Zjg n 
def Zef (n : Nat) (a0 : Ty) (x69_k32 : Bool) : Option Int :=
 if x69_k32 then
  some (4)
 else
  if (decide (a0.kind = 8)) && (decide (1 < ((a0.elem.length : Int)))) then
   some (3)
  else
   if decide (64 < ((a0.fields.length : Int))) then
    some (9)
   else
    Zem n a0 n 0
def Zfs (n : Nat) (a0 : Ty) : Option Int :=
 if (decide (a0.kind = 8)) && (decide (((a0.elem.length : Int)) = 0)) then
  Zef n a0 true
 else
  Zef n a0 ((decide (a0.kind = 10)) && (decide (((a0.fields.length : Int)) = 0)))
def ZgG (n : Nat) (a0 : Ty) (x37_k24 : Bool) : Option Int :=
 if x37_k24 then
  some (2)
 else
  Zfs n a0 
def ZjN (n : Nat) (a0 : Ty) : Option Int :=
 if !(decide (1 ≤ a0.kind) && decide (a0.kind ≤ 10)) then
  some (11)
 else
  (idx (Zed ) a0.kind).bind fun x7 =>
  if !(decide ((ZfZ a0 x7) = 0)) then
   some (ZfZ a0 x7)
  else
   if (decide (a0.kind = 4)) && (decide (0 < ((a0.words.length : Int)))) then
    (ZgI n a0).bind fun y19 =>
    if !(decide (y19 = 0)) then
     some (y19)
    else
     Zfs n a0 
   else
    if x7.bounds && (((decide (a0.max < a0.min)) || (decide (a0.min < x7.low))) || (decide (x7.high < a0.max))) then
     ZgG n a0 true
    else
     ZgG n a0 (x7.scale && (!(decide (0 ≤ a0.scale) && decide (a0.scale ≤ 12))))
theorem ZsP (w0 : World) (hT : Lib.Utf8Tabs 0 1 w0) (n : Nat) (B : List (List AV)) (Rw : List RowA) (L : List LoopA) (a0 : Ty) (r : Int) (h : ZjN n a0 = some r) :
  ACalls Tryz.prog w0 135 [.agg (a0.cs)] ⟨B, Rw, L⟩ fun x st => x = .val (.int .i64 r) ∧ st = ⟨B, Rw, L⟩ := by
 rw [ZjN] at h
 refine hd [.tmp 2] Tryz.func135 Tryz.ntmps135 fun M0 W0 hN hNR hNL hcalm hu hO hs => ?_
 simp only [Zav]
 refine rg [1] hs ?_
 apply Zab; intro K2 hK2
 refine rc 2 [1, 11] hs ?_; intro K3 hK3
 refine Zaf _ (ZlJ w0 _ _ _ a0.kind 1 10) (hv hs) ?_
 refine ne hs hK3 ?_
 clear hK3
 refine cnd h hs (fun hs h => ?_) (fun hs h => ?_)
 ·
  have hb4 := hs.1
  refine rg [2] hs ?_
  exact rt h hs hcalm hO
 have hb4 := hs.1
 refine sk [1] hs hK2 ?_
 clear hK2
 apply Zab; intro K6 hK6
 obtain ⟨x7, hx7, h⟩ := bind_some h
 obtain ⟨hx7a, hx7b, hx7c⟩ := Zar hx7
 have hx7d := ZiK (f := fun x => (ZsL x).cells) 8 (fun _ => rfl) hx7c
 have hx7n : (Zed ).length = 11 := rfl
 first | rw [hx7n] at hx7b | simp only [List.length_cons, List.length_nil, Nat.reduceAdd, Nat.zero_add] at hx7b
 simp only [Zcn, ZcQ, Zcy, Zcs, Zcw, Zcm, ZbF, ZbK, ZcC, Za8, Za9, ZbE, ZbC, ZbH, Zj8] at hx7d
 apply ZgK mix [4, 5] [1, 3] (by kernel_rfl) (fun s => ∃ (X : List (List AV)) (rows : List RowA), s = ⟨B ++ ([a0.cs] ++ X), rows, L⟩) 3 (B.length + 1)
 ·
  simp +decide only [go_sem, Nat.reduceAdd]
 ·
  rintro s ⟨X, rows, rfl⟩
  refine ⟨2, ?_⟩
  rw [Zaa]; simp +decide only [go_sem, Nat.reduceAdd, Zeu, hb4, hx7d, Nat.mul_one]
  (repeat' apply And.intro) <;> first | refine Zaf _ (ZnJ w0 _ _ _ ) (by first | rfl | (simp +decide only [go_sem, Nat.reduceAdd, hb4, hx7d, Nat.mul_one]; done) | (simp +decide only [go_sem, Nat.reduceAdd, Vl.cs, Ty.cs, hb4, hx7d, Nat.mul_one]; done)) ?_ | exact cl
  rw [Zaa]; simp +decide only [go_sem, Nat.reduceAdd, hb4, hx7d, Nat.mul_one]
  (repeat' apply And.intro) <;> first | rfl | exact cl
 ·
  refine Good.mk [4] (by kernel_rfl) ⟨[], _, by first | rfl | simp only [List.append_nil, List.nil_append]⟩ ?_ ?_
  ·
   intro h; exact absurd h (by decide)
  ·
   intro i hi; simp only [List.mem_cons, List.not_mem_nil, or_false] at hi
   subst hi
   ·
    apply Zbn rfl rfl ev
    ·
     simp +decide only [go_sem, Nat.reduceAdd, Zc1, hb4, hx7d, Nat.mul_one]
     (repeat' apply And.intro) <;> first | rfl | exact cl
    ·
     simp +decide only [go_sem, Nat.reduceAdd, hb4, hx7d, Nat.mul_one]
     refine Good.mk [5] (by kernel_rfl) ⟨_, _, by first | rfl | simp only [List.append_nil, List.nil_append]⟩ ?_ ?_
     ·
      intro h; exact absurd h (by decide)
     ·
      intro i hi; simp only [List.mem_cons, List.not_mem_nil, or_false] at hi
      subst hi
      ·
       apply Zbn rfl rfl ev
       ·
        simp +decide only [go_sem, Nat.reduceAdd, Zc1, hb4, hx7d, Nat.mul_one]
        (repeat' apply And.intro) <;> first | rfl | exact cl
       ·
        simp +decide only [go_sem, Nat.reduceAdd, hb4, hx7d, Nat.mul_one]
        refine Good.mk [] (by kernel_rfl) ⟨_, _, by first | rfl | simp only [List.append_nil, List.nil_append]⟩ ?_ ?_
        ·
         intro _; apply ZdD [1, 3]; first | (simp +decide only [go_sem, Nat.reduceAdd, hb4, hx7d, Nat.mul_one]; done) | (simp +decide only [go_sem, Nat.reduceAdd, hb4, hx7d, Nat.mul_one]; rfl)
        ·
         intro i hi; cases hi
 simp +decide only [go_sem, Nat.reduceAdd, hb4, hx7d, Nat.mul_one]
 (repeat' apply And.intro) <;> first | refine hK6 _ _ ?_ | exact cl
 clear hK6
 apply Zab; intro K8 hK8
 have hs := And.intro hx7d hs
 refine rc 2 [1, 3, 4] hs ?_; intro K9 hK9
 refine Zaf _ (Zpb w0 _ _ _ a0 x7) (hv hs) ?_
 refine ne hs hK9 ?_
 clear hK9
 refine rg [1, 3, 4, 20] hs ?_
 refine cnd h hs (fun hs h => ?_) (fun hs h => ?_)
 ·
  refine rg [2] hs ?_
  exact rt h hs hcalm hO
 refine sk [1, 3] hs hK8 ?_
 clear hK8
 refine Zai (fun e st => Ck e st B Rw L [(1, true, .box B.length 0)] [a0.cs, .val (.string x7.name) :: (.val (.int .i64 x7.low) :: (.val (.int .i64 x7.high) :: (.val (.bool x7.bounds) :: (.val (.bool x7.scale) :: (.val (.bool x7.text) :: (.val (.bool x7.list) :: ([.val (.bool x7.fields)])))))))] [] (Zfs n a0  = some r)) ?_ ?_
 ·
  intro K15 hK15
  apply Zad
  refine rg [1, 3, 22] hs ?_
  refine cnd h hs (fun hs h => ?_) (fun hs h => ?_)
  ·
   obtain ⟨y19, hy19, h⟩ := bind_some h
   refine rc 2 [1, 5] hs ?_; intro K18 hK18
   refine Zaf _ (Zo9 w0 hT n _ _ _ a0 _ hy19) (hv hs) ?_
   refine ne hs hK18 ?_
   clear hK18
   refine rg [1, 5, 35] hs ?_
   refine cnd h hs (fun hs h => ?_) (fun hs h => ?_)
   ·
    refine rg [2] hs ?_
    exact rt h hs hcalm hO
   refine sk [1] hs hK15 ?_
   exact ⟨([]), Rw, ef hs, ef hs, hO, h⟩
  refine Zai (fun e st => ∃ (x37_k24 : Bool), Ck e st B Rw L [(1, true, .box B.length 0), (37, true, .val (.bool x37_k24))] [a0.cs, .val (.string x7.name) :: (.val (.int .i64 x7.low) :: (.val (.int .i64 x7.high) :: (.val (.bool x7.bounds) :: (.val (.bool x7.scale) :: (.val (.bool x7.text) :: (.val (.bool x7.list) :: ([.val (.bool x7.fields)])))))))] [] (ZgG n a0 x37_k24 = some r)) ?_ ?_
  ·
   intro K25 hK25
   refine rg [1, 3, 37] hs ?_
   refine cnd h hs (fun hs h => ?_) (fun hs h => ?_)
   ·
    refine sk [1, 37] hs hK25 ?_
    exact ⟨true, ([]), Rw, ef hs, ef hs, hO, h⟩
   refine rk 2 [1, 37] hs ?_
   refine ZdT _ (fun _ => ZlJ w0 _ _ _ a0.scale 0 12) (hv hs) ?_
   refine ne hs hK25 ?_
   exact ⟨(x7.scale && (!(decide (0 ≤ a0.scale) && decide (a0.scale ≤ 12)))), ([]), Rw, ef hs, ef hs, hO, h⟩
  ·
   clear h; rintro e st ⟨x37_k24, Xk24, Rk24, rfl, rfl, hO, h⟩
   rw [ZgG] at h
   refine td hN hNR hNL hcalm hO ?_
   refine cnd h hs (fun hs h => ?_) (fun hs h => ?_)
   ·
    refine rg [2] hs ?_
    exact rt h hs hcalm hO
   refine sk [1] hs hK15 ?_
   exact ⟨([]), Rk24, ef hs, ef hs, hO, h⟩
 ·
  clear h; rintro e st ⟨Xk14, Rk14, rfl, rfl, hO, h⟩
  rw [Zfs] at h
  refine td hN hNR hNL hcalm hO ?_
  apply Zab; intro K30 hK30
  apply Zad
  refine Zai (fun e st => ∃ (x69_k32 : Bool), Ck e st B Rw L [(1, true, .box B.length 0), (69, true, .val (.bool x69_k32))] [a0.cs, .val (.string x7.name) :: (.val (.int .i64 x7.low) :: (.val (.int .i64 x7.high) :: (.val (.bool x7.bounds) :: (.val (.bool x7.scale) :: (.val (.bool x7.text) :: (.val (.bool x7.list) :: ([.val (.bool x7.fields)])))))))] [] (Zef n a0 x69_k32 = some r)) ?_ ?_
  ·
   intro K33 hK33
   refine rg [1, 69] hs ?_
   refine cnd h hs (fun hs h => ?_) (fun hs h => ?_)
   ·
    refine sk [1, 69] hs hK33 ?_
    exact ⟨true, ([]), Rk14, ef hs, ef hs, hO, h⟩
   refine rl [1, 69] hs hK33 ?_
   exact ⟨((decide (a0.kind = 10)) && (decide (((a0.fields.length : Int)) = 0))), ([]), Rk14, ef hs, ef hs, hO, h⟩
  ·
   clear h; rintro e st ⟨x69_k32, Xk32, Rk32, rfl, rfl, hO, h⟩
   rw [Zef] at h
   refine td hN hNR hNL hcalm hO ?_
   refine cnd h hs (fun hs h => ?_) (fun hs h => ?_)
   ·
    refine rg [2] hs ?_
    exact rt h hs hcalm hO
   refine rg [1, 88] hs ?_
   refine cnd h hs (fun hs h => ?_) (fun hs h => ?_)
   ·
    refine rg [2] hs ?_
    exact rt h hs hcalm hO
   refine rg [1, 98] hs ?_
   refine cnd h hs (fun hs h => ?_) (fun hs h => ?_)
   ·
    refine rg [2] hs ?_
    exact rt h hs hcalm hO
   refine sk [1] hs hK30 ?_
   clear hK30
   refine Zai (fun e st => Ck e st B Rw L [] [a0.cs, .val (.string x7.name) :: (.val (.int .i64 x7.low) :: (.val (.int .i64 x7.high) :: (.val (.bool x7.bounds) :: (.val (.bool x7.scale) :: (.val (.bool x7.text) :: (.val (.bool x7.list) :: ([.val (.bool x7.fields)])))))))] [] (Zjg n  = some r)) ?_ ?_
   ·
    intro K46 hK46
    refine rg [1, 105, 106] hs ?_
    apply Zad
    refine Zal (fun m e st => ∃ (x106_l48 : Int), Ck e st B Rw L [(1, true, .box B.length 0), (105, true, .val (.int .i64 ((a0.fields.length : Int)))), (106, true, .val (.int .i64 x106_l48))] [a0.cs, .val (.string x7.name) :: (.val (.int .i64 x7.low) :: (.val (.int .i64 x7.high) :: (.val (.bool x7.bounds) :: (.val (.bool x7.scale) :: (.val (.bool x7.text) :: (.val (.bool x7.list) :: ([.val (.bool x7.fields)])))))))] [] (Zem n a0 m x106_l48 = some r)) n ⟨0, ([]), Rk32, ef hs, ef hs, hO, h⟩ ?_
    rintro ml48 e st ⟨x106_l48, Xl48, Rl48, rfl, rfl, hO, h⟩ Ul48 Vl48
    cases ml48 with
    | zero => cases h
    | succ ml48 =>
    rw [Zem] at h
    refine td hN hNR hNL hcalm hO ?_
    refine rg [1, 105, 106, 107] hs ?_
    apply Zab; intro K50 hK50
    refine cnd h hs (fun hs h => ?_) (fun hs h => ?_)
    rotate_left
    ·
     refine sx [] hs hK46 ?_
     exact ⟨([]), Rl48, ef hs, ef hs, hO, h⟩
    refine sk [1, 105, 106] hs hK50 ?_
    clear hK50
    apply Zab; intro K52 hK52
    apply Zad
    refine rg [1, 6, 105, 106] hs ?_
    obtain ⟨y55, hy55, h⟩ := bind_some h
    refine rc 2 [1, 7, 105, 106] hs ?_; intro K54 hK54
    refine Zaf _ (Zpv w0 n _ _ _ a0 x106_l48 _ hy55) (hv hs) ?_
    refine ne hs hK54 ?_
    clear hK54
    refine rg [1, 7, 105, 106, 113] hs ?_
    refine cnd h hs (fun hs h => ?_) (fun hs h => ?_)
    ·
     refine rg [2] hs ?_
     exact rt h hs hcalm hO
    refine sk [1, 105, 106] hs hK52 ?_
    clear hK52
    obtain ⟨hg59, h⟩ := Zac h
    refine rl [1, 105, 106] hs (fun e s => Vl48 ml48 e s (Nat.lt_succ_self _)) ?_
    exact ⟨(x106_l48 + 1), ([]), Rl48, ef hs, ef hs, hO, h⟩
   ·
    clear h; rintro e st ⟨Xk45, Rk45, rfl, rfl, hO, h⟩
    rw [Zjg] at h
    refine td hN hNR hNL hcalm hO ?_
    refine rg [2] hs ?_
    exact rt h hs hcalm hO
def Zhi (rec : Ty → Int → Int → Option (Int × Int)) (n : Nat)  (pla2_k18 : Int) : Option (Int × Int) :=
 some ((0, pla2_k18))
def Zbk (rec : Ty → Int → Int → Option (Int × Int)) (n : Nat) (a0 : Ty) (a1 : Int) (y21 : (List Ty)) : Nat → Int → Int → Option (Int × Int)
 | 0, _, _ => none
 | m + 1, x32_l22, pla2_l22 =>
  if decide (x32_l22 < ((y21.length : Int))) then
   (idx y21 x32_l22).bind fun x28 =>
   if I64 (a1 + 1) then
    (rec x28 (a1 + 1) pla2_l22).bind fun y32 =>
    if !(decide (y32.1 = 0)) then
     some ((y32.1, y32.2))
    else
     if decide (a0.kind = 9) then
      (idx a0.fields x32_l22).bind fun x38 =>
      if decide (x38.2.2.1 = 3) then
       (idx x38.2.2.2.2 0).bind fun x40 =>
       (ZdL n x28 x40).bind fun y41 =>
       if !y41 then
        some ((18, y32.2))
       else
        if I64 (x32_l22 + 1) then
         (Zbk rec n a0 a1 y21 m) (x32_l22 + 1) y32.2
        else none
      else
       if I64 (x32_l22 + 1) then
        (Zbk rec n a0 a1 y21 m) (x32_l22 + 1) y32.2
       else none
     else
      if I64 (x32_l22 + 1) then
       (Zbk rec n a0 a1 y21 m) (x32_l22 + 1) y32.2
      else none
   else none
  else
   Zhi rec n pla2_l22
def ZhS (rec : Ty → Int → Int → Option (Int × Int)) (n : Nat) (a0 : Ty) (a1 : Int) (a2 : Int) : Option (Int × Int) :=
 if decide (a2 = 0) then
  some ((9, a2))
 else
  if decide (8 < a1) then
   some ((23, a2))
  else
   if I64 (a2 - 1) then
    (ZjN n a0).bind fun y13 =>
    if !(decide (y13 = 0)) then
     some ((y13, a2 - 1))
    else
     (ZeU n a0).bind fun y21 =>
     Zbk rec n a0 a1 y21 n 0 (a2 - 1)
   else none
def ZeL : Nat → Ty → Int → Int → Option (Int × Int)
 | 0, _, _, _ => none
 | n + 1, a0, a1, a2 => ZhS (ZeL n) n a0 a1 a2
def Zj4 (w0 : World) (F : Ty → Int → Int → Option (Int × Int)) : Prop := ∀ (B : List (List AV)) (Rw : List RowA) (L : List LoopA) (a0 : Ty) (a1 : Int) (la2 : Nat) (a2 : Int) (hla2 : B[la2]? = some ([.val (.int .i64 a2)])) (r : Int × Int), F a0 a1 a2 = some r → ACalls Tryz.prog w0 80 [.agg (a0.cs), .val (.int .i64 a1), .box la2 0] ⟨B, Rw, L⟩ fun x st => x = .val (.int .i64 r.1) ∧ st = ⟨(B.set la2 [.val (.int .i64 r.2)]), Rw, L⟩
theorem Zmv (w0 : World) (hT : Lib.Utf8Tabs 0 1 w0) (rec : Ty → Int → Int → Option (Int × Int)) (ih : Zj4 w0 rec) (n : Nat) : Zj4 w0 (ZhS rec n) := by
 intro B Rw L a0 a1 la2 a2 hla2 r h
 rw [ZhS] at h
 refine hd [.tmp 6] Tryz.func80 Tryz.ntmps80 fun M0 W0 hN hNR hNL hcalm hu hO hs => ?_
 simp only [Zav]
 have hltla2 := (List.getElem?_eq_some_iff.1 hla2).1
 have hs := And.intro (Zag hla2) hs
 refine rg [1, 2, 3] hs ?_
 apply Zab; intro K2 hK2
 apply Zad
 refine rg [1, 2, 3, 11] hs ?_
 refine cnd h hs (fun hs h => ?_) (fun hs h => ?_)
 ·
  have hb4 := hs.1
  refine rg [6] hs ?_
  exact rt h hs hcalm hO
 have hb4 := hs.1
 refine rg [1, 2, 3, 16] hs ?_
 refine cnd h hs (fun hs h => ?_) (fun hs h => ?_)
 ·
  have hb7 := hs.1
  refine rg [6] hs ?_
  exact rt h hs hcalm hO
 have hb7 := hs.1
 refine sk [1, 2, 3] hs hK2 ?_
 clear hK2
 obtain ⟨hg10, h⟩ := Zac h
 refine rg [1, 2, 3] hs ?_
 apply Zab; intro K11 hK11
 obtain ⟨y13, hy13, h⟩ := bind_some h
 refine rc 2 [1, 2, 3, 7] hs ?_; intro K12 hK12
 refine Zaf _ (ZsP w0 hT n _ _ _ a0 _ hy13) (hv hs) ?_
 refine ne hs hK12 ?_
 clear hK12
 refine rg [1, 2, 3, 7, 27] hs ?_
 refine cnd h hs (fun hs h => ?_) (fun hs h => ?_)
 ·
  have hb15 := hs.1
  refine rg [6] hs ?_
  apply Zah; simp +decide only [go_sem, Nat.reduceAdd, Zag hla2, hb4, hb7, hb15]
  have hgt := Option.some.inj h; subst hgt
  first | refine ZaG (Zaj hcalm ev) (by simp only [List.length_set]) hO.pre ev ⟨?_, rfl⟩ | refine Zbg (Zaj hcalm ev) (by simp only [List.length_set]) hO.pre ev ⟨?_, rfl⟩
  first | rfl | (simp +decide only [go_sem, Nat.reduceAdd, Zag hla2, hb4, hb7, hb15]; done) | (simp +decide only [go_sem, Nat.reduceAdd, Vl.cs, Ty.cs, Zag hla2, hb4, hb7, hb15]; done)
 have hb15 := hs.1
 refine sk [1, 2, 3] hs hK11 ?_
 clear hK11
 refine Zai (fun e st => ∃ (pla2_k18 : Int) (Xk18 : List (List AV)) (Rk18 : List RowA), e = [] ∧ st = ⟨(B.set la2 ([.val (.int .i64 pla2_k18)])) ++ ([a0.cs] ++ Xk18), Rk18, L⟩ ∧ Owns Rw Rk18 [] ∧ Zhi rec n pla2_k18 = some r) ?_ ?_
 ·
  intro K19 hK19
  obtain ⟨y21, hy21, h⟩ := bind_some h
  refine rc 2 [1, 2, 3, 30, 31, 32] hs ?_; intro K20 hK20
  refine Zaf _ (Zif w0 n _ _ _ a0 _ hy21) (hv hs) ?_
  refine ne hs hK20 ?_
  clear hK20
  apply Zad
  refine Zal (fun m e st => ∃ (x32_l22 : Int) (pla2_l22 : Int) (Xl22 : List (List AV)) (Rl22 : List RowA), e = [(1, true, .val (.int .i64 a1)), (2, true, .box la2 0), (3, true, .box B.length 0), (30, true, .list (y21.map avT) .none), (31, true, .val (.int .i64 ((y21.length : Int)))), (32, true, .val (.int .i64 x32_l22))] ∧ st = ⟨(B.set la2 ([.val (.int .i64 pla2_l22)])) ++ ([a0.cs] ++ Xl22), Rl22, L⟩ ∧ Owns Rw Rl22 [] ∧ Zbk rec n a0 a1 y21 m x32_l22 pla2_l22 = some r) n ⟨0, (a2 - 1), ([]), Rw, ef hs, ef hs, hO, h⟩ ?_
  rintro ml22 e st ⟨x32_l22, pla2_l22, Xl22, Rl22, rfl, rfl, hO, h⟩ Ul22 Vl22
  cases ml22 with
  | zero => cases h
  | succ ml22 =>
  rw [Zbk] at h
  refine Zbb hN hNR hNL (by simp only [List.length_set]) (Zaj hcalm ev) hO (by (simp +decide only [go_sem, Nat.reduceAdd]) <;> (try (repeat' apply And.intro)) <;> first | omega | assumption) (by (simp +decide only [go_sem, Nat.reduceAdd, Zb2]) <;> (try (repeat' apply And.intro)) <;> first | omega | assumption) ?_
  refine rg [1, 2, 3, 30, 31, 32, 33] hs ?_
  apply Zab; intro K24 hK24
  refine cnd h hs (fun hs h => ?_) (fun hs h => ?_)
  rotate_left
  ·
   have hb25 := hs.1
   refine sx [] hs hK19 ?_
   exact ⟨pla2_l22, ([]), Rl22, ef hs, ef hs, hO, h⟩
  have hb25 := hs.1
  refine sk [1, 2, 3, 30, 31, 32] hs hK24 ?_
  clear hK24
  apply Zab; intro K26 hK26
  apply Zad
  obtain ⟨x28, hx28, h⟩ := bind_some h
  obtain ⟨hx28a, hx28b, hx28c⟩ := Zar hx28
  have hx28d := Zay (f := avT) hx28c
  have hs := And.intro hx28d hs
  refine rg [1, 2, 3, 8, 9, 30, 31, 32] hs ?_
  apply Zab; intro K29 hK29
  obtain ⟨hg31, h⟩ := Zac h
  obtain ⟨y32, hy32, h⟩ := bind_some h
  refine rc 2 [1, 2, 3, 8, 9, 10, 30, 31, 32] hs ?_; intro K30 hK30
  refine Zca _ (ih _ _ _ x28 (a1 + 1) la2 pla2_l22 (ef hs) _ hy32) (hv hs) ?_; rintro _ _ ⟨rfl, rfl⟩
  refine ne hs hK30 ?_
  clear hK30
  refine rg [1, 2, 3, 8, 9, 10, 30, 31, 32, 43] hs ?_
  refine cnd h hs (fun hs h => ?_) (fun hs h => ?_)
  ·
   have hb34 := hs.1
   refine rg [6] hs ?_
   apply Zah; simp +decide only [go_sem, Nat.reduceAdd, Zag hla2, hb4, hb7, hb15, hb25, hx28d, hb34]
   have hgt := Option.some.inj h; subst hgt
   first | refine ZaG (Zaj hcalm ev) (by simp only [List.length_set]) hO.pre ev ⟨?_, rfl⟩ | refine Zbg (Zaj hcalm ev) (by simp only [List.length_set]) hO.pre ev ⟨?_, rfl⟩
   first | rfl | (simp +decide only [go_sem, Nat.reduceAdd, Zag hla2, hb4, hb7, hb15, hb25, hx28d, hb34]; done) | (simp +decide only [go_sem, Nat.reduceAdd, Vl.cs, Ty.cs, Zag hla2, hb4, hb7, hb15, hb25, hx28d, hb34]; done)
  have hb34 := hs.1
  refine sk [1, 2, 3, 8, 9, 30, 31, 32] hs hK29 ?_
  clear hK29
  apply Zab; intro K36 hK36
  rcases Bool.eq_false_or_eq_true (decide (a0.kind = 9)) with hf37 | hf37
  ·
   replace h := Za2 h hf37
   obtain ⟨x38, hx38a, hx38b, hx38d, h⟩ := ix Zer h
   rcases Bool.eq_false_or_eq_true (decide (x38.2.2.1 = 3)) with hf39 | hf39
   ·
    replace h := Za2 h hf39
    obtain ⟨x40, hx40a, hx40b, hx40d, h⟩ := ix avV h
    have hx40e : (x38.2.2.2.2.map avV).getD 0 .junk = _ := hx40d
    obtain ⟨y41, hy41, h⟩ := bind_some h
    apply Zat mix 25 2 1 [1, 2, 3, 30, 31, 32, 69] (by kernel_rfl)
    rw [Zaa]; simp +decide only [go_sem, Nat.reduceAdd, Zag hla2, hb4, hb7, hb15, hb25, hx28d, hb34, hf37, hx38d, hf39, hx40d, hx40e]
    have hs := And.intro hf37 hs
    have hs := And.intro hx38d hs
    have hs := And.intro hf39 hs
    have hs := And.intro hx40d hs
    have hs := And.intro hx40e hs
    (repeat' apply And.intro) <;> first | refine Zaf _ (ZiU w0 hT n _ _ _ x28 x40 _ hy41) (hv hs) ?_ | exact cl
    rw [Zaa]; simp +decide only [go_sem, Nat.reduceAdd, Zag hla2, hb4, hb7, hb15, hb25, hx28d, hb34, hf37, hx38d, hf39, hx40d, hx40e]
    (repeat' with_reducible apply And.intro) <;> first | (rw [Zaa]; simp +decide only [go_sem, Nat.reduceAdd, Zag hla2, hb4, hb7, hb15, hb25, hx28d, hb34, hf37, hx38d, hf39, hx40d, hx40e]) | exact cl
    (repeat' apply And.intro) <;> first | refine hK36 _ _ ?_ | exact cl
    clear hK36
    refine cnd h hs (fun hs h => ?_) (fun hs h => ?_)
    ·
     have hb42 := hs.1
     refine rg [6] hs ?_
     apply Zah; simp +decide only [go_sem, Nat.reduceAdd, Zag hla2, hb4, hb7, hb15, hb25, hx28d, hb34, hf37, hx38d, hf39, hx40d, hx40e, hb42]
     have hgt := Option.some.inj h; subst hgt
     first | refine ZaG (Zaj hcalm ev) (by simp only [List.length_set]) hO.pre ev ⟨?_, rfl⟩ | refine Zbg (Zaj hcalm ev) (by simp only [List.length_set]) hO.pre ev ⟨?_, rfl⟩
     first | rfl | (simp +decide only [go_sem, Nat.reduceAdd, Zag hla2, hb4, hb7, hb15, hb25, hx28d, hb34, hf37, hx38d, hf39, hx40d, hx40e, hb42]; done) | (simp +decide only [go_sem, Nat.reduceAdd, Vl.cs, Ty.cs, Zag hla2, hb4, hb7, hb15, hb25, hx28d, hb34, hf37, hx38d, hf39, hx40d, hx40e, hb42]; done)
    have hb42 := hs.1
    refine sk [1, 2, 3, 30, 31, 32] hs hK26 ?_
    clear hK26
    obtain ⟨hg44, h⟩ := Zac h
    refine rl [1, 2, 3, 30, 31, 32] hs (fun e s => Vl22 ml22 e s (Nat.lt_succ_self _)) ?_
    exact ⟨(x32_l22 + 1), y32.2, ([x28.cs]), Rl22, ef hs, ef hs, hO, h⟩
   ·
    replace h := ZaZ h hf39
    apply Zat mix 25 2 1 [1, 2, 3, 30, 31, 32, 69] (by kernel_rfl)
    rw [Zaa]; simp +decide only [go_sem, Nat.reduceAdd, Zag hla2, hb4, hb7, hb15, hb25, hx28d, hb34, hf37, hx38d, hf39]
    (repeat' apply And.intro) <;> first | refine ZaL ?_ | exact cl
    rw [Zaa]; simp +decide only [go_sem, Nat.reduceAdd, Zag hla2, hb4, hb7, hb15, hb25, hx28d, hb34, hf37, hx38d, hf39]
    (repeat' with_reducible apply And.intro) <;> first | (rw [Zaa]; simp +decide only [go_sem, Nat.reduceAdd, Zag hla2, hb4, hb7, hb15, hb25, hx28d, hb34, hf37, hx38d, hf39]) | exact cl
    (repeat' apply And.intro) <;> first | refine hK36 _ _ ?_ | exact cl
    clear hK36
    have hs := And.intro hf37 hs
    have hs := And.intro hx38d hs
    have hs := And.intro hf39 hs
    refine Zaz false ev (ef hs) (fun hb45 => by cases hb45) (fun hb45 => ?_)
    refine sk [1, 2, 3, 30, 31, 32] hs hK26 ?_
    clear hK26
    obtain ⟨hg46, h⟩ := Zac h
    refine rl [1, 2, 3, 30, 31, 32] hs (fun e s => Vl22 ml22 e s (Nat.lt_succ_self _)) ?_
    exact ⟨(x32_l22 + 1), y32.2, ([x28.cs]), Rl22, ef hs, ef hs, hO, h⟩
  ·
   replace h := ZaZ h hf37
   apply Zat mix 25 2 1 [1, 2, 3, 30, 31, 32, 69] (by kernel_rfl)
   rw [Zaa]; simp +decide only [go_sem, Nat.reduceAdd, Zag hla2, hb4, hb7, hb15, hb25, hx28d, hb34, hf37]
   (repeat' apply And.intro) <;> first | refine ZaL ?_ | exact cl
   rw [Zaa]; simp +decide only [go_sem, Nat.reduceAdd, Zag hla2, hb4, hb7, hb15, hb25, hx28d, hb34, hf37]
   (repeat' with_reducible apply And.intro) <;> first | (rw [Zaa]; simp +decide only [go_sem, Nat.reduceAdd, Zag hla2, hb4, hb7, hb15, hb25, hx28d, hb34, hf37]) | exact cl
   (repeat' apply And.intro) <;> first | refine hK36 _ _ ?_ | exact cl
   clear hK36
   have hs := And.intro hf37 hs
   refine Zaz false ev (ef hs) (fun hb47 => by cases hb47) (fun hb47 => ?_)
   refine sk [1, 2, 3, 30, 31, 32] hs hK26 ?_
   clear hK26
   obtain ⟨hg48, h⟩ := Zac h
   refine rl [1, 2, 3, 30, 31, 32] hs (fun e s => Vl22 ml22 e s (Nat.lt_succ_self _)) ?_
   exact ⟨(x32_l22 + 1), y32.2, ([x28.cs]), Rl22, ef hs, ef hs, hO, h⟩
 ·
  clear h; rintro e st ⟨pla2_k18, Xk18, Rk18, rfl, rfl, hO, h⟩
  rw [Zhi] at h
  refine Zbb hN hNR hNL (by simp only [List.length_set]) (Zaj hcalm ev) hO (by (simp +decide only [go_sem, Nat.reduceAdd]) <;> (try (repeat' apply And.intro)) <;> first | omega | assumption) (by (simp +decide only [go_sem, Nat.reduceAdd, Zb2]) <;> (try (repeat' apply And.intro)) <;> first | omega | assumption) ?_
  refine rg [6] hs ?_
  apply Zah; simp +decide only [go_sem, Nat.reduceAdd, Zag hla2, hb4, hb7, hb15]
  have hgt := Option.some.inj h; subst hgt
  first | refine ZaG (Zaj hcalm ev) (by simp only [List.length_set]) hO.pre ev ⟨?_, rfl⟩ | refine Zbg (Zaj hcalm ev) (by simp only [List.length_set]) hO.pre ev ⟨?_, rfl⟩
  first | rfl | (simp +decide only [go_sem, Nat.reduceAdd, Zag hla2, hb4, hb7, hb15]; done) | (simp +decide only [go_sem, Nat.reduceAdd, Vl.cs, Ty.cs, Zag hla2, hb4, hb7, hb15]; done)
theorem ZkA (w0 : World) (hT : Lib.Utf8Tabs 0 1 w0) : ∀ n : Nat, Zj4 w0 (ZeL n)
 | 0 => fun _ _ _ _ _ _ _ _ _ h => (nomatch h)
 | n + 1 => Zmv w0 hT (ZeL n) (ZkA w0 hT n) n
def Zd9  : List (Nat × Vl) → Int → Option Int
 | [], b1_r6 =>
  some (b1_r6)
 | p_r6 :: rest, b1_r6 =>
  if I64 (b1_r6 + 1) then
   (Zd9  rest) (b1_r6 + 1)
  else none
def Zhz (a0 : Vl) : Option Int :=
 if a0.size < 1048576 then
  Zd9  (Zge 1 a0) 0
 else none
theorem Zqm (w0 : World) (B : List (List AV)) (Rw : List RowA) (L : List LoopA) (a0 : Vl) (r : Int) (h : Zhz a0 = some r) :
  ACalls Tryz.prog w0 77 [.agg (a0.cs)] ⟨B, Rw, L⟩ fun x st => x = .val (.int .i64 r) ∧ st = ⟨B, Rw, L⟩ := by
 rw [Zhz] at h
 refine hd [.tmp 2] Tryz.func77 Tryz.ntmps77 fun M0 W0 hN hNR hNL hcalm hu hO hs => ?_
 simp only [Zav]
 refine rg [1] hs ?_
 refine rg [1, 3] hs ?_
 apply Zab; intro K3 hK3
 refine rc 2 [3, 5] hs ?_; intro K4 hK4
 refine Zca _ (ZjD w0 _ _ _ a0) (hv hs) ?_; rintro _ _ ⟨rfl, rfl⟩
 refine ne hs hK4 ?_
 clear hK4
 apply Zad
 obtain ⟨hg5, h⟩ := Zac h
 refine ZmK (Zgh a0) (fun st => st.boxes[(B.length + 2)]? = some a0.cs) (fun i st => ∃ (b1_r6 : Int) (Rr6 : List RowA), st = ⟨B ++ ([a0.cs, [.val (.int .i64 b1_r6)], a0.cs]), Rr6, L⟩ ∧ Owns Rw Rr6 [] ∧ Zd9  ((Zge 1 a0).drop i) b1_r6 = some r) (fun _ _ => False) ev ev (Zh8 w0 a0 hg5 _) (fun x hx => ZkY a0 x hx) (by decide) ?_ ⟨0, Rw, ef hs, hO, h⟩ (fun _ _ h => h.elim) ?_ ?_ ?_
 ·
  rintro i st la ⟨b1_r6, Rr6, rfl, hO, h⟩ _ _; simp +decide [St.push]
 ·
  rintro i s1 ⟨XB, XR, XL⟩ x M1 W1 l la la' hX hI hlike hloops hx hra K hK
  obtain ⟨p_r6, hpi, rfl, hi⟩ := ZkN a0 i x hx
  (try simp only at hX)
  subst hX
  obtain ⟨b1_r6, Rr6, rfl, hO, h⟩ := hI
  rw [Zoq hpi, Zd9] at h
  have hra0_r6 := hO
  simp only [St.ext, St.push, List.append_assoc, List.append_nil]
  refine ZdE (Zc0 [3] _) ?_ (Za6 _ _)
  apply Zba; simp +decide only [go_sem, Nat.reduceAdd]
  (repeat' apply And.intro) <;> first | refine hK _ _ (by simp [St.ext, St.push]) (fun KQ hKQ => ?_) | exact cl
  clear hK
  dsimp only [St.ext, St.push]
  apply Zad
  obtain ⟨hg7, h⟩ := Zac h
  apply Zae 1 [3]
  rw [Zaa]; simp +decide only [go_sem, Nat.reduceAdd]
  (repeat' apply And.intro) <;> first | refine hKQ _ _ _ ⟨⟨B ++ [a0.cs, [.val (.int .i64 (b1_r6 + 1))], a0.cs], Rr6, L⟩, [], by first | rfl | (simp only [List.append_assoc, List.append_nil, List.cons_append, List.nil_append]; done), ⟨by simp, by first | exact Nat.le_refl _ | (have := hO.len; simp; omega), rfl⟩, rfl, ⟨(b1_r6 + 1), Rr6, ef hs, hO, h⟩, ?_⟩ | exact cl
  exact .inl rfl
 ·
  rintro s la ⟨XB, XR, XL⟩ hXR ⟨b1_r6, Rr6, rfl, hO, h⟩ _ _
  simp only at hXR
  subst hXR
  rw [List.drop_eq_nil_of_le (by rw [ZhP]; exact Nat.le_refl _), Zd9] at h
  simp only [St.ext, St.push, List.append_assoc, List.append_nil]
  (repeat' apply And.intro) <;> first | refine hK3 _ _ ?_ | exact cl
  clear hK3
  refine ZmX (bs := [a0.cs, [.val (.int .i64 b1_r6)], a0.cs]) hN hNR hNL rfl hcalm hO (by (simp +decide only [go_sem, Nat.reduceAdd]) <;> (try (repeat' apply And.intro)) <;> first | omega | assumption) (by (simp +decide only [go_sem, Nat.reduceAdd, Zb2]) <;> (try (repeat' apply And.intro)) <;> first | omega | assumption) ?_
  refine rg [2] hs ?_
  exact rt h hs hcalm hO
 ·
  rintro ex s la X hX h; exact h.elim
def ZbJ (rec : Ty → Option Int) (n : Nat) (again_l23 : Int → Int → Option Int) (x38_l23 : Int) (x3_k28 : Int) : Option Int :=
 if I64 (x38_l23 + 1) then
  again_l23 x3_k28 (x38_l23 + 1)
 else none
def ZbW (rec : Ty → Option Int) (n : Nat)  (x3_k4 : Int) : Option Int :=
 some ((if 4097 < x3_k4 then 4097 else x3_k4))
def ZaP (rec : Ty → Option Int) (n : Nat) (a0 : Ty) : Nat → Int → Int → Option Int
 | 0, _, _ => none
 | m + 1, x3_l23, x38_l23 =>
  if decide (x38_l23 < ((a0.fields.length : Int))) then
   (idx a0.fields x38_l23).bind fun x31 =>
   if decide (x31.2.2.1 = 1) then
    (rec x31.2.2.2.1).bind fun y35 =>
    if I64 (x3_l23 + y35) then
     ZbJ rec n (ZaP rec n a0 m) x38_l23 (x3_l23 + y35)
    else none
   else
    if decide (x31.2.2.1 = 3) then
     (idx x31.2.2.2.2 0).bind fun x39 =>
     (Zhz x39).bind fun y40 =>
     if I64 (x3_l23 + y40) then
      ZbJ rec n (ZaP rec n a0 m) x38_l23 (x3_l23 + y40)
     else none
    else
     ZbJ rec n (ZaP rec n a0 m) x38_l23 x3_l23
  else
   ZbW rec n x3_l23
def Zew (rec : Ty → Option Int) (n : Nat) (a0 : Ty) : Option Int :=
 if decide (a0.kind = 8) then
  if decide (0 < a0.min) then
   (idx a0.elem 0).bind fun x11 =>
   (rec x11).bind fun y12 =>
   if I64 (a0.min * y12) then
    if I64 (1 + (a0.min * y12)) then
     ZbW rec n (1 + (a0.min * y12))
    else none
   else none
  else
   ZbW rec n 1
 else
  if decide (a0.kind = 10) then
   (idx a0.fields 0).bind fun x17 =>
   (rec x17.2.2.2.1).bind fun y18 =>
   if I64 (1 + y18) then
    ZbW rec n (1 + y18)
   else none
  else
   if decide (a0.kind = 9) then
    ZaP rec n a0 n 1 0
   else
    ZbW rec n 1
def Zcf : Nat → Ty → Option Int
 | 0, _ => none
 | n + 1, a0 => Zew (Zcf n) n a0
def Zf5 (w0 : World) (F : Ty → Option Int) : Prop := ∀ (B : List (List AV)) (Rw : List RowA) (L : List LoopA) (a0 : Ty) (r : Int), F a0 = some r → ACalls Tryz.prog w0 136 [.agg (a0.cs)] ⟨B, Rw, L⟩ fun x st => x = .val (.int .i64 r) ∧ st = ⟨B, Rw, L⟩
theorem ZiZ (w0 : World) (rec : Ty → Option Int) (ih : Zf5 w0 rec) (n : Nat) : Zf5 w0 (Zew rec n) := by
 intro B Rw L a0 r h
 rw [Zew] at h
 refine hd [.tmp 2] Tryz.func136 Tryz.ntmps136 fun M0 W0 hN hNR hNL hcalm hu hO hs => ?_
 simp only [Zav]
 refine rg [1] hs ?_
 refine rg [1, 3] hs ?_
 refine Zai (fun e st => ∃ (x3_k4 : Int), Ck e st B Rw L [(3, true, .val (.int .i64 x3_k4))] [a0.cs] [] (ZbW rec n x3_k4 = some r)) ?_ ?_
 ·
  intro K5 hK5
  refine rg [1, 3, 7] hs ?_
  apply Zad
  refine rg [1, 3, 7, 8] hs ?_
  refine cnd h hs (fun hs h => ?_) (fun hs h => ?_)
  ·
   have hb8 := hs.1
   refine rg [1, 3, 12] hs ?_
   refine cnd h hs (fun hs h => ?_) (fun hs h => ?_)
   ·
    have hb10 := hs.1
    obtain ⟨x11, hx11a, hx11b, hx11d, h⟩ := ix avT h
    have hx11e : (a0.elem.map avT).getD 0 .junk = _ := hx11d
    obtain ⟨y12, hy12, h⟩ := bind_some h
    obtain ⟨hg13, h⟩ := Zac h
    obtain ⟨hg14, h⟩ := Zac h
    apply Zat mix 10 2 1 [3] (by kernel_rfl)
    rw [Zaa]; simp +decide only [go_sem, Nat.reduceAdd, hb8, hb10, hx11d, hx11e]
    have hs := And.intro hx11d hs
    have hs := And.intro hx11e hs
    (repeat' apply And.intro) <;> first | refine Zaf _ (ih _ _ _ x11 _ hy12) (hv hs) ?_ | exact cl
    rw [Zaa]; simp +decide only [go_sem, Nat.reduceAdd, hb8, hb10, hx11d, hx11e]
    (repeat' with_reducible apply And.intro) <;> first | (rw [Zaa]; simp +decide only [go_sem, Nat.reduceAdd, hb8, hb10, hx11d, hx11e]) | exact cl
    (repeat' apply And.intro) <;> first | refine hK5 _ _ ⟨(1 + (a0.min * y12)), ([]), Rw, ef hs, ef hs, hO, h⟩ | exact cl
   have hb10 := hs.1
   refine sk [3] hs hK5 ?_
   exact ⟨1, ([]), Rw, ef hs, ef hs, hO, h⟩
  have hb8 := hs.1
  refine rg [1, 3, 7, 23] hs ?_
  refine cnd h hs (fun hs h => ?_) (fun hs h => ?_)
  ·
   obtain ⟨x17, hx17a, hx17b, hx17d, h⟩ := ix Zer h
   have hx17e : (a0.fields.map Zer).getD 0 .junk = _ := hx17d
   obtain ⟨y18, hy18, h⟩ := bind_some h
   obtain ⟨hg19, h⟩ := Zac h
   have hs := And.intro hx17d hs
   have hs := And.intro hx17e hs
   refine rk 2 [3] hs ?_
   refine Zaf _ (ih _ _ _ x17.2.2.2.1 _ hy18) (hv hs) ?_
   refine ne hs hK5 ?_
   exact ⟨(1 + y18), ([]), Rw, ef hs, ef hs, hO, h⟩
  refine rg [1, 3, 33] hs ?_
  refine cnd h hs (fun hs h => ?_) (fun hs h => ?_)
  ·
   refine rg [3, 36, 37, 38] hs ?_
   apply Zad
   refine Zal (fun m e st => ∃ (x3_l23 : Int) (x38_l23 : Int), Ck e st B Rw L [(3, true, .val (.int .i64 x3_l23)), (36, true, .list (a0.fields.map Zer) .none), (37, true, .val (.int .i64 ((a0.fields.length : Int)))), (38, true, .val (.int .i64 x38_l23))] [a0.cs] [] (ZaP rec n a0 m x3_l23 x38_l23 = some r)) n ⟨1, 0, ([]), Rw, ef hs, ef hs, hO, h⟩ ?_
   rintro ml23 e st ⟨x3_l23, x38_l23, Xl23, Rl23, rfl, rfl, hO, h⟩ Ul23 Vl23
   cases ml23 with
   | zero => cases h
   | succ ml23 =>
   rw [ZaP] at h
   refine td hN hNR hNL hcalm hO ?_
   refine rg [3, 36, 37, 38, 39] hs ?_
   apply Zab; intro K25 hK25
   refine cnd h hs (fun hs h => ?_) (fun hs h => ?_)
   rotate_left
   ·
    refine sx [3] hs hK5 ?_
    exact ⟨x3_l23, ([]), Rl23, ef hs, ef hs, hO, h⟩
   refine sk [3, 36, 37, 38] hs hK25 ?_
   clear hK25
   refine Zai (fun e st => ∃ (x3_k28 : Int), Ck e st B Rw L [(3, true, .val (.int .i64 x3_k28)), (36, true, .list (a0.fields.map Zer) .none), (37, true, .val (.int .i64 ((a0.fields.length : Int)))), (38, true, .val (.int .i64 x38_l23))] [a0.cs] [] (ZbJ rec n (ZaP rec n a0 ml23) x38_l23 x3_k28 = some r)) ?_ ?_
   ·
    intro K29 hK29
    apply Zad
    obtain ⟨x31, hx31, h⟩ := bind_some h
    obtain ⟨hx31a, hx31b, hx31c⟩ := Zar hx31
    have hx31d := Zay (f := Zer) hx31c
    have hs := And.intro hx31d hs
    refine rg [3, 5, 36, 37, 38] hs ?_
    refine rg [3, 5, 36, 37, 38, 43] hs ?_
    apply Zad
    refine rg [3, 5, 36, 37, 38, 43, 44] hs ?_
    refine cnd h hs (fun hs h => ?_) (fun hs h => ?_)
    ·
     obtain ⟨y35, hy35, h⟩ := bind_some h
     obtain ⟨hg36, h⟩ := Zac h
     refine rk 2 [3, 36, 37, 38] hs ?_
     refine Zaf _ (ih _ _ _ x31.2.2.2.1 _ hy35) (hv hs) ?_
     refine ne hs hK29 ?_
     exact ⟨(x3_l23 + y35), ([.val (.int .i64 x31.1) :: (.val (.string x31.2.1) :: (.val (.int .i64 x31.2.2.1) :: ((x31.2.2.2.1.cs) ++ ([.list (x31.2.2.2.2.map avV) .none]))))]), Rl23, ef hs, ef hs, hO, h⟩
    refine rg [3, 5, 36, 37, 38, 51] hs ?_
    refine cnd h hs (fun hs h => ?_) (fun hs h => ?_)
    ·
     obtain ⟨x39, hx39a, hx39b, hx39d, h⟩ := ix avV h
     have hx39e : (x31.2.2.2.2.map avV).getD 0 .junk = _ := hx39d
     obtain ⟨y40, hy40, h⟩ := bind_some h
     obtain ⟨hg41, h⟩ := Zac h
     have hs := And.intro hx39d hs
     have hs := And.intro hx39e hs
     refine rk 2 [3, 36, 37, 38] hs ?_
     refine Zaf _ (Zqm w0 _ _ _ x39 _ hy40) (hv hs) ?_
     refine ne hs hK29 ?_
     exact ⟨(x3_l23 + y40), ([.val (.int .i64 x31.1) :: (.val (.string x31.2.1) :: (.val (.int .i64 x31.2.2.1) :: ((x31.2.2.2.1.cs) ++ ([.list (x31.2.2.2.2.map avV) .none]))))]), Rl23, ef hs, ef hs, hO, h⟩
    refine sk [3, 36, 37, 38] hs hK29 ?_
    exact ⟨x3_l23, ([.val (.int .i64 x31.1) :: (.val (.string x31.2.1) :: (.val (.int .i64 x31.2.2.1) :: ((x31.2.2.2.1.cs) ++ ([.list (x31.2.2.2.2.map avV) .none]))))]), Rl23, ef hs, ef hs, hO, h⟩
   ·
    clear h; rintro e st ⟨x3_k28, Xk28, Rk28, rfl, rfl, hO, h⟩
    rw [ZbJ] at h
    refine td hN hNR hNL hcalm hO ?_
    obtain ⟨hg42, h⟩ := Zac h
    refine rl [3, 36, 37, 38] hs (fun e s => Vl23 ml23 e s (Nat.lt_succ_self _)) ?_
    exact ⟨x3_k28, (x38_l23 + 1), ([]), Rk28, ef hs, ef hs, hO, h⟩
  refine sk [3] hs hK5 ?_
  exact ⟨1, ([]), Rw, ef hs, ef hs, hO, h⟩
 ·
  clear h; rintro e st ⟨x3_k4, Xk4, Rk4, rfl, rfl, hO, h⟩
  rw [ZbW] at h
  refine td hN hNR hNL hcalm hO ?_
  refine rg [2] hs ?_
  exact rt h hs hcalm hO
theorem Zg9 (w0 : World) : ∀ n : Nat, Zf5 w0 (Zcf n)
 | 0 => fun _ _ _ _ _ h => (nomatch h)
 | n + 1 => ZiZ w0 (Zcf n) (Zg9 w0 n) n
def ZdG (rec : Ty → Option Int) (n : Nat)  (x3_k18 : Int) : Option Int :=
 some (x3_k18)
def Zbf (rec : Ty → Option Int) (n : Nat) (a0 : Ty) : Nat → Int → Int → Option Int
 | 0, _, _ => none
 | m + 1, x3_l21, x25_l21 =>
  if decide (x25_l21 < ((a0.fields.length : Int))) then
   (idx a0.fields x25_l21).bind fun x27 =>
   (rec x27.2.2.2.1).bind fun y28 =>
   if I64 (x25_l21 + 1) then
    (Zbf rec n a0 m) ((if x3_l21 < y28 then y28 else x3_l21)) (x25_l21 + 1)
   else none
  else
   ZdG rec n x3_l21
def ZcS (rec : Ty → Option Int) (n : Nat) (a0 : Ty) (x3_k5 : Int) : Option Int :=
 Zbf rec n a0 n x3_k5 0
def Zbl (rec : Ty → Option Int) (n : Nat) (a0 : Ty) : Nat → Int → Int → Option Int
 | 0, _, _ => none
 | m + 1, x3_l8, x13_l8 =>
  if decide (x13_l8 < ((a0.elem.length : Int))) then
   (idx a0.elem x13_l8).bind fun x14 =>
   (rec x14).bind fun y15 =>
   if I64 (x13_l8 + 1) then
    (Zbl rec n a0 m) ((if x3_l8 < y15 then y15 else x3_l8)) (x13_l8 + 1)
   else none
  else
   ZcS rec n a0 x3_l8
def Zda (rec : Ty → Option Int) (n : Nat) (a0 : Ty) : Option Int :=
 (Zcf n a0).bind fun y3 =>
 Zbl rec n a0 n y3 0
def Zbr : Nat → Ty → Option Int
 | 0, _ => none
 | n + 1, a0 => Zda (Zbr n) n a0
def Zes (w0 : World) (F : Ty → Option Int) : Prop := ∀ (B : List (List AV)) (Rw : List RowA) (L : List LoopA) (a0 : Ty) (r : Int), F a0 = some r → ACalls Tryz.prog w0 81 [.agg (a0.cs)] ⟨B, Rw, L⟩ fun x st => x = .val (.int .i64 r) ∧ st = ⟨B, Rw, L⟩
theorem Zhl (w0 : World) (rec : Ty → Option Int) (ih : Zes w0 rec) (n : Nat) : Zes w0 (Zda rec n) := by
 intro B Rw L a0 r h
 rw [Zda] at h
 refine hd [.tmp 2] Tryz.func81 Tryz.ntmps81 fun M0 W0 hN hNR hNL hcalm hu hO hs => ?_
 simp only [Zav]
 refine rg [1] hs ?_
 obtain ⟨y3, hy3, h⟩ := bind_some h
 refine rc 2 [1, 3] hs ?_; intro K2 hK2
 refine Zaf _ (Zg9 w0 n _ _ _ a0 _ hy3) (hv hs) ?_
 refine ne hs hK2 ?_
 clear hK2
 refine Zai (fun e st => ∃ (x3_k5 : Int), Ck e st B Rw L [(1, true, .box B.length 0), (3, true, .val (.int .i64 x3_k5))] [a0.cs] [] (ZcS rec n a0 x3_k5 = some r)) ?_ ?_
 ·
  intro K6 hK6
  refine rg [1, 3, 11, 12, 13] hs ?_
  apply Zad
  refine Zal (fun m e st => ∃ (x3_l8 : Int) (x13_l8 : Int), Ck e st B Rw L [(1, true, .box B.length 0), (3, true, .val (.int .i64 x3_l8)), (11, true, .list (a0.elem.map avT) .none), (12, true, .val (.int .i64 ((a0.elem.length : Int)))), (13, true, .val (.int .i64 x13_l8))] [a0.cs] [] (Zbl rec n a0 m x3_l8 x13_l8 = some r)) n ⟨y3, 0, ([]), Rw, ef hs, ef hs, hO, h⟩ ?_
  rintro ml8 e st ⟨x3_l8, x13_l8, Xl8, Rl8, rfl, rfl, hO, h⟩ Ul8 Vl8
  cases ml8 with
  | zero => cases h
  | succ ml8 =>
  rw [Zbl] at h
  refine td hN hNR hNL hcalm hO ?_
  refine rg [1, 3, 11, 12, 13, 14] hs ?_
  apply Zab; intro K10 hK10
  refine cnd h hs (fun hs h => ?_) (fun hs h => ?_)
  rotate_left
  ·
   refine sx [1, 3] hs hK6 ?_
   exact ⟨x3_l8, ([]), Rl8, ef hs, ef hs, hO, h⟩
  refine sk [1, 3, 11, 12, 13] hs hK10 ?_
  clear hK10
  apply Zab; intro K12 hK12
  apply Zad
  obtain ⟨x14, hx14, h⟩ := bind_some h
  obtain ⟨hx14a, hx14b, hx14c⟩ := Zar hx14
  have hx14d := Zay (f := avT) hx14c
  have hs := And.intro hx14d hs
  refine rg [1, 3, 5, 11, 12, 13] hs ?_
  obtain ⟨y15, hy15, h⟩ := bind_some h
  refine rk 2 [1, 3, 11, 12, 13] hs ?_
  refine Zaf _ (ih _ _ _ x14 _ hy15) (hv hs) ?_
  refine ne hs hK12 ?_
  clear hK12
  obtain ⟨hg16, h⟩ := Zac h
  refine rl [1, 3, 11, 12, 13] hs (fun e s => Vl8 ml8 e s (Nat.lt_succ_self _)) ?_
  exact ⟨((if x3_l8 < y15 then y15 else x3_l8)), (x13_l8 + 1), ([x14.cs]), Rl8, ef hs, ef hs, hO, h⟩
 ·
  clear h; rintro e st ⟨x3_k5, Xk5, Rk5, rfl, rfl, hO, h⟩
  rw [ZcS] at h
  refine td hN hNR hNL hcalm hO ?_
  refine Zai (fun e st => ∃ (x3_k18 : Int), Ck e st B Rw L [(3, true, .val (.int .i64 x3_k18))] [a0.cs] [] (ZdG rec n x3_k18 = some r)) ?_ ?_
  ·
   intro K19 hK19
   refine rg [3, 23, 24, 25] hs ?_
   apply Zad
   refine Zal (fun m e st => ∃ (x3_l21 : Int) (x25_l21 : Int), Ck e st B Rw L [(3, true, .val (.int .i64 x3_l21)), (23, true, .list (a0.fields.map Zer) .none), (24, true, .val (.int .i64 ((a0.fields.length : Int)))), (25, true, .val (.int .i64 x25_l21))] [a0.cs] [] (Zbf rec n a0 m x3_l21 x25_l21 = some r)) n ⟨x3_k5, 0, ([]), Rk5, ef hs, ef hs, hO, h⟩ ?_
   rintro ml21 e st ⟨x3_l21, x25_l21, Xl21, Rl21, rfl, rfl, hO, h⟩ Ul21 Vl21
   cases ml21 with
   | zero => cases h
   | succ ml21 =>
   rw [Zbf] at h
   refine td hN hNR hNL hcalm hO ?_
   refine rg [3, 23, 24, 25, 26] hs ?_
   apply Zab; intro K23 hK23
   refine cnd h hs (fun hs h => ?_) (fun hs h => ?_)
   rotate_left
   ·
    refine sx [3] hs hK19 ?_
    exact ⟨x3_l21, ([]), Rl21, ef hs, ef hs, hO, h⟩
   refine sk [3, 23, 24, 25] hs hK23 ?_
   clear hK23
   apply Zab; intro K25 hK25
   apply Zad
   obtain ⟨x27, hx27, h⟩ := bind_some h
   obtain ⟨hx27a, hx27b, hx27c⟩ := Zar hx27
   have hx27d := Zay (f := Zer) hx27c
   have hs := And.intro hx27d hs
   refine rg [3, 7, 23, 24, 25] hs ?_
   obtain ⟨y28, hy28, h⟩ := bind_some h
   refine rk 2 [3, 23, 24, 25] hs ?_
   refine Zaf _ (ih _ _ _ x27.2.2.2.1 _ hy28) (hv hs) ?_
   refine ne hs hK25 ?_
   clear hK25
   obtain ⟨hg29, h⟩ := Zac h
   refine rl [3, 23, 24, 25] hs (fun e s => Vl21 ml21 e s (Nat.lt_succ_self _)) ?_
   exact ⟨((if x3_l21 < y28 then y28 else x3_l21)), (x25_l21 + 1), ([.val (.int .i64 x27.1) :: (.val (.string x27.2.1) :: (.val (.int .i64 x27.2.2.1) :: ((x27.2.2.2.1.cs) ++ ([.list (x27.2.2.2.2.map avV) .none]))))]), Rl21, ef hs, ef hs, hO, h⟩
  ·
   clear h; rintro e st ⟨x3_k18, Xk18, Rk18, rfl, rfl, hO, h⟩
   rw [ZdG] at h
   refine td hN hNR hNL hcalm hO ?_
   refine rg [2] hs ?_
   exact rt h hs hcalm hO
theorem Zfu (w0 : World) : ∀ n : Nat, Zes w0 (Zbr n)
 | 0 => fun _ _ _ _ _ h => (nomatch h)
 | n + 1 => Zhl w0 (Zbr n) (Zfu w0 n) n
def ZcM (n : Nat) (a0 : Ty) : Option Int :=
 (ZeL n a0 1 4096).bind fun y5 =>
 if !(decide (y5.1 = 0)) then
  some (y5.1)
 else
  (Zbr n a0).bind fun y11 =>
  if decide (4096 < y11) then
   some (9)
  else
   some (0)
theorem ZcY (w0 : World) (hT : Lib.Utf8Tabs 0 1 w0) (n : Nat) (B : List (List AV)) (Rw : List RowA) (L : List LoopA) (a0 : Ty) (r : Int) (h : ZcM n a0 = some r) :
  ACalls Tryz.prog w0 30 [.agg (a0.cs)] ⟨B, Rw, L⟩ fun x st => x = .val (.int .i64 r) ∧ st = ⟨B, Rw, L⟩ := by
 rw [ZcM] at h
 refine hd [.tmp 2] Tryz.func30 Tryz.ntmps30 fun M0 W0 hN hNR hNL hcalm hu hO hs => ?_
 simp only [Zav]
 refine rg [1] hs ?_
 refine rg [1, 3] hs ?_
 apply Zab; intro K3 hK3
 obtain ⟨y5, hy5, h⟩ := bind_some h
 refine rc 2 [1, 4] hs ?_; intro K4 hK4
 refine Zca _ (ZkA w0 hT n _ _ _ a0 1 (B.length + 1) 4096 ev _ hy5) (hv hs) ?_; rintro _ _ ⟨rfl, rfl⟩
 refine ne hs hK4 ?_
 clear hK4
 refine rg [1, 4, 8] hs ?_
 refine cnd h hs (fun hs h => ?_) (fun hs h => ?_)
 ·
  refine rg [2] hs ?_
  exact rt h hs hcalm hO
 refine sk [1] hs hK3 ?_
 clear hK3
 apply Zab; intro K9 hK9
 obtain ⟨y11, hy11, h⟩ := bind_some h
 refine rc 2 [12] hs ?_; intro K10 hK10
 refine Zaf _ (Zfu w0 n _ _ _ a0 _ hy11) (hv hs) ?_
 refine ne hs hK10 ?_
 clear hK10
 refine cnd h hs (fun hs h => ?_) (fun hs h => ?_)
 ·
  refine rg [2] hs ?_
  exact rt h hs hcalm hO
 refine sk [] hs hK9 ?_
 clear hK9
 refine rg [2] hs ?_
 exact rt h hs hcalm hO
def Zhj (n : Nat) (a0 : Ty) (a1 : Vl) : Option Bool :=
 (ZcM n a0).bind fun y3 =>
 if decide (y3 = 0) then
  (ZdL n a0 a1).bind fun y5 =>
  some (y5)
 else
  some (false)
theorem Zmt (w0 : World) (hT : Lib.Utf8Tabs 0 1 w0) (n : Nat) (B : List (List AV)) (Rw : List RowA) (L : List LoopA) (a0 : Ty) (a1 : Vl) (r : Bool) (h : Zhj n a0 a1 = some r) :
  ACalls Tryz.prog w0 21 [.agg (a0.cs), .agg (a1.cs)] ⟨B, Rw, L⟩ fun x st => x = .val (.bool r) ∧ st = ⟨B, Rw, L⟩ := by
 rw [Zhj] at h
 refine hd [.tmp 4] Tryz.func21 Tryz.ntmps21 fun M0 W0 hN hNR hNL hcalm hu hO hs => ?_
 simp only [Zav]
 refine rg [2, 3] hs ?_
 apply Zab; intro K2 hK2
 obtain ⟨y3, hy3, h⟩ := bind_some h
 rcases Bool.eq_false_or_eq_true (decide (y3 = 0)) with hf4 | hf4
 ·
  replace h := Za2 h hf4
  obtain ⟨y5, hy5, h⟩ := bind_some h
  have hs := And.intro hf4 hs
  refine rk 3 [4] hs ?_
  refine Zaf _ (ZcY w0 hT n _ _ _ a0 _ hy3) (hv hs) ?_
  refine nc hs ?_
  refine Zaf _ (ZiU w0 hT n _ _ _ a0 a1 _ hy5) (hv hs) ?_
  refine ne hs hK2 ?_
  clear hK2
  exact rt h hs hcalm hO
 ·
  replace h := ZaZ h hf4
  apply Zae 3 [4]
  rw [Zaa]; simp +decide only [go_sem, Nat.reduceAdd, hf4]
  have hs := And.intro hf4 hs
  (repeat' apply And.intro) <;> first | refine Zaf _ (ZcY w0 hT n _ _ _ a0 _ hy3) (hv hs) ?_ | exact cl
  rw [Zaa]; simp +decide only [go_sem, Nat.reduceAdd, hf4]
  (repeat' apply And.intro) <;> first | refine ZaL ?_ | exact cl
  rw [Zaa]; simp +decide only [go_sem, Nat.reduceAdd, hf4]
  (repeat' apply And.intro) <;> first | refine hK2 _ _ ?_ | exact cl
  clear hK2
  exact rt h hs hcalm hO
def Zdw (a0 : Part) : Option ByteArray :=
 if decide (a0.kind = 1) then
  if ((⟨#[46]⟩ : ByteArray)).size + a0.name.size ≤ 9223372036854775807 then
   some (((⟨#[46]⟩ : ByteArray)) ++ a0.name)
  else none
 else
  if decide (a0.kind = 2) then
   if I64 (a0.index) then
    if ((⟨#[91]⟩ : ByteArray)).size + ((⟨(Lib.itoa a0.index).toArray⟩ : ByteArray)).size ≤ 9223372036854775807 then
     if (((⟨#[91]⟩ : ByteArray)) ++ ((⟨(Lib.itoa a0.index).toArray⟩ : ByteArray))).size + ((⟨#[93]⟩ : ByteArray)).size ≤ 9223372036854775807 then
      some ((((⟨#[91]⟩ : ByteArray)) ++ ((⟨(Lib.itoa a0.index).toArray⟩ : ByteArray))) ++ ((⟨#[93]⟩ : ByteArray)))
     else none
    else none
   else none
  else
   if decide (a0.kind = 3) then
    some ((⟨#[91, 42, 93]⟩ : ByteArray))
   else
    if ((⟨#[63]⟩ : ByteArray)).size + a0.name.size ≤ 9223372036854775807 then
     some (((⟨#[63]⟩ : ByteArray)) ++ a0.name)
    else none
theorem Zkk (w0 : World) (hP : Pow10 w0) (B : List (List AV)) (Rw : List RowA) (L : List LoopA) (a0 : Part) (r : ByteArray) (h : Zdw a0 = some r) :
  ACalls Tryz.prog w0 104 [.agg (.val (.int .i64 a0.kind) :: (.val (.int .i64 a0.index) :: ([.val (.string a0.name)])))] ⟨B, Rw, L⟩ fun x st => x = .val (.string r) ∧ st = ⟨B, Rw, L⟩ := by
 rw [Zdw] at h
 refine hd [.tmp 2] Tryz.func104 Tryz.ntmps104 fun M0 W0 hN hNR hNL hcalm hu hO hs => ?_
 simp only [Zav]
 refine rg [1] hs ?_
 apply Zab; intro K2 hK2
 refine rg [1, 4] hs ?_
 apply Zad
 refine rg [1, 4, 5] hs ?_
 refine cnd h hs (fun hs h => ?_) (fun hs h => ?_)
 ·
  obtain ⟨hg7, h⟩ := Zac h
  have hg7s := hg7
  try simp +decide only [go_sem] at hg7s
  refine rg [2] hs ?_
  exact rt h hs hcalm hO
 refine rg [1, 4, 10] hs ?_
 refine cnd h hs (fun hs h => ?_) (fun hs h => ?_)
 ·
  obtain ⟨hg11, h⟩ := Zac h
  obtain ⟨hg12, h⟩ := Zac h
  have hg12s := hg12
  try simp +decide only [go_sem] at hg12s
  obtain ⟨hg13, h⟩ := Zac h
  have hg13s := hg13
  try simp +decide only [go_sem] at hg13s
  refine rc 2 [2] hs ?_; intro K10 hK10
  refine Zaf _ (Zsu w0 _ _ _ hP a0.index hg11) (hv hs) ?_
  refine ne hs hK10 ?_
  clear hK10
  exact rt h hs hcalm hO
 refine rg [1, 17] hs ?_
 refine cnd h hs (fun hs h => ?_) (fun hs h => ?_)
 ·
  refine rg [2] hs ?_
  exact rt h hs hcalm hO
 refine sk [1] hs hK2 ?_
 clear hK2
 obtain ⟨hg18, h⟩ := Zac h
 have hg18s := hg18
 try simp +decide only [go_sem] at hg18s
 refine rg [2] hs ?_
 exact rt h hs hcalm hO
def Zb0 (a0 : Part) (x5_k5 : Bool) : Option Bool :=
 if x5_k5 then
  if decide (a0.index = 0) then
   if a0.name.size ≤ maxLen then
    some (Zc3 a0.name)
   else none
  else
   some (false)
 else
  if decide (a0.kind = 2) then
   some (((sEq a0.name ((⟨#[]⟩ : ByteArray))) && (decide (0 ≤ a0.index))) && (decide (a0.index < 256)))
  else
   if decide (a0.kind = 3) then
    some ((sEq a0.name ((⟨#[]⟩ : ByteArray))) && (decide (a0.index = 0)))
   else
    some (false)
def Zc9 (a0 : Part) : Option Bool :=
 if decide (a0.kind = 1) then
  Zb0 a0 true
 else
  Zb0 a0 (decide (a0.kind = 4))
theorem Zjn (w0 : World) (B : List (List AV)) (Rw : List RowA) (L : List LoopA) (a0 : Part) (r : Bool) (h : Zc9 a0 = some r) :
  ACalls Tryz.prog w0 103 [.agg (.val (.int .i64 a0.kind) :: (.val (.int .i64 a0.index) :: ([.val (.string a0.name)])))] ⟨B, Rw, L⟩ fun x st => x = .val (.bool r) ∧ st = ⟨B, Rw, L⟩ := by
 rw [Zc9] at h
 refine hd [.tmp 2] Tryz.func103 Tryz.ntmps103 fun M0 W0 hN hNR hNL hcalm hu hO hs => ?_
 simp only [Zav]
 refine rg [1] hs ?_
 apply Zab; intro K2 hK2
 refine rg [1, 4] hs ?_
 apply Zad
 refine Zai (fun e st => ∃ (x5_k5 : Bool), Ck e st B Rw L [(1, true, .box B.length 0), (4, true, .val (.int .i64 a0.kind)), (5, true, .val (.bool x5_k5))] [.val (.int .i64 a0.kind) :: (.val (.int .i64 a0.index) :: ([.val (.string a0.name)]))] [] (Zb0 a0 x5_k5 = some r)) ?_ ?_
 ·
  intro K6 hK6
  refine rg [1, 4, 5] hs ?_
  refine cnd h hs (fun hs h => ?_) (fun hs h => ?_)
  ·
   refine sk [1, 4, 5] hs hK6 ?_
   exact ⟨true, ([]), Rw, ef hs, ef hs, hO, h⟩
  refine rl [1, 4, 5] hs hK6 ?_
  exact ⟨(decide (a0.kind = 4)), ([]), Rw, ef hs, ef hs, hO, h⟩
 ·
  clear h; rintro e st ⟨x5_k5, Xk5, Rk5, rfl, rfl, hO, h⟩
  rw [Zb0] at h
  refine td hN hNR hNL hcalm hO ?_
  refine cnd h hs (fun hs h => ?_) (fun hs h => ?_)
  ·
   have hb9 := hs.1
   apply Zab; intro K10 hK10
   rcases Bool.eq_false_or_eq_true (decide (a0.index = 0)) with hf11 | hf11
   ·
    replace h := Za2 h hf11
    obtain ⟨hg12, h⟩ := Zac h
    have hs := And.intro hf11 hs
    refine rk 2 [2] hs ?_
    refine Zaf _ (Zhx w0 _ _ _ a0.name hg12) (hv hs) ?_
    refine ne hs hK10 ?_
    clear hK10
    exact rt h hs hcalm hO
   ·
    replace h := ZaZ h hf11
    apply Zae 2 [2]
    rw [Zaa]; simp +decide only [go_sem, Nat.reduceAdd, hb9, hf11]
    (repeat' apply And.intro) <;> first | refine ZaL ?_ | exact cl
    rw [Zaa]; simp +decide only [go_sem, Nat.reduceAdd, hb9, hf11]
    (repeat' apply And.intro) <;> first | refine hK10 _ _ ?_ | exact cl
    clear hK10
    have hs := And.intro hf11 hs
    exact rt h hs hcalm hO
  have hb9 := hs.1
  refine rg [1, 4, 16] hs ?_
  refine cnd h hs (fun hs h => ?_) (fun hs h => ?_)
  ·
   refine rg [2] hs ?_
   exact rt h hs hcalm hO
  refine rg [1, 31] hs ?_
  refine cnd h hs (fun hs h => ?_) (fun hs h => ?_)
  ·
   refine rg [2] hs ?_
   exact rt h hs hcalm hO
  refine sk [] hs hK2 ?_
  clear hK2
  refine rg [2] hs ?_
  exact rt h hs hcalm hO
def Zf7 (n : Nat)  (x3_k12 : Int) : Option Int :=
 if decide (200 < x3_k12) then
  some (3)
 else
  some (0)
def ZcE (n : Nat) (a0 : List Part) : Nat → Int → Int → Option Int
 | 0, _, _ => none
 | m + 1, x3_l15, x23_l15 =>
  if decide (x23_l15 < ((a0.length : Int))) then
   (idx a0 x23_l15).bind fun x21 =>
   (Zc9 x21).bind fun y24 =>
   if !y24 then
    some (3)
   else
    (Zdw x21).bind fun y27 =>
    if I64 (x3_l15 + ((y27.size : Int))) then
     if I64 (x23_l15 + 1) then
      (ZcE n a0 m) (x3_l15 + ((y27.size : Int))) (x23_l15 + 1)
     else none
    else none
  else
   Zf7 n x3_l15
def Zgr (n : Nat) (a0 : List Part) : Option Int :=
 if (decide (((a0.length : Int)) < 1)) || (decide (16 < ((a0.length : Int)))) then
  some (3)
 else
  (idx a0 0).bind fun x7 =>
  if !(decide (x7.kind = 1)) then
   some (3)
  else
   ZcE n a0 n ((-1)) 0
theorem Zpk (w0 : World) (hP : Pow10 w0) (n : Nat) (B : List (List AV)) (Rw : List RowA) (L : List LoopA) (a0 : List Part) (r : Int) (h : Zgr n a0 = some r) :
  ACalls Tryz.prog w0 55 [.list (a0.map ZcD) .none] ⟨B, Rw, L⟩ fun x st => x = .val (.int .i64 r) ∧ st = ⟨B, Rw, L⟩ := by
 rw [Zgr] at h
 refine hd [.tmp 2] Tryz.func55 Tryz.ntmps55 fun M0 W0 hN hNR hNL hcalm hu hO hs => ?_
 simp only [Zav]
 refine rg [0] hs ?_
 apply Zab; intro K2 hK2
 apply Zab; intro K3 hK3
 rcases Bool.eq_false_or_eq_true ((decide (((a0.length : Int)) < 1)) || (decide (16 < ((a0.length : Int))))) with hf4 | hf4
 ·
  replace h := Za2 h hf4
  have hs := And.intro hf4 hs
  refine rl [0, 20] hs hK3 ?_
  clear hK3
  refine Zaz true ev (ef hs) (fun hb5 => ?_) (fun hb5 => by cases hb5)
  refine rg [2] hs ?_
  exact rt h hs hcalm hO
 ·
  replace h := ZaZ h hf4
  obtain ⟨x7, hx7a, hx7b, hx7d, h⟩ := ix ZcD h
  have hx7e : (a0.map ZcD).getD 0 .junk = _ := hx7d
  have hs := And.intro hf4 hs
  have hs := And.intro hx7d hs
  have hs := And.intro hx7e hs
  refine rl [0, 20] hs hK3 ?_
  clear hK3
  refine cnd h hs (fun hs h => ?_) (fun hs h => ?_)
  ·
   refine rg [2] hs ?_
   exact rt h hs hcalm hO
  refine sk [0] hs hK2 ?_
  clear hK2
  refine rg [0, 3] hs ?_
  refine Zai (fun e st => ∃ (x3_k12 : Int), Ck e st B Rw L [(3, true, .val (.int .i64 x3_k12))] [] [] (Zf7 n x3_k12 = some r)) ?_ ?_
  ·
   intro K13 hK13
   refine rg [3, 21, 22, 23] hs ?_
   apply Zad
   refine Zal (fun m e st => ∃ (x3_l15 : Int) (x23_l15 : Int), Ck e st B Rw L [(3, true, .val (.int .i64 x3_l15)), (21, true, .list (a0.map ZcD) .none), (22, true, .val (.int .i64 ((a0.length : Int)))), (23, true, .val (.int .i64 x23_l15))] [] [] (ZcE n a0 m x3_l15 x23_l15 = some r)) n ⟨((-1)), 0, ([]), Rw, ef hs, ef hs, hO, h⟩ ?_
   rintro ml15 e st ⟨x3_l15, x23_l15, Xl15, Rl15, rfl, rfl, hO, h⟩ Ul15 Vl15
   cases ml15 with
   | zero => cases h
   | succ ml15 =>
   rw [ZcE] at h
   refine td hN hNR hNL hcalm hO ?_
   refine rg [3, 21, 22, 23, 24] hs ?_
   apply Zab; intro K17 hK17
   refine cnd h hs (fun hs h => ?_) (fun hs h => ?_)
   rotate_left
   ·
    refine sx [3] hs hK13 ?_
    exact ⟨x3_l15, ([]), Rl15, ef hs, ef hs, hO, h⟩
   refine sk [3, 21, 22, 23] hs hK17 ?_
   clear hK17
   apply Zab; intro K19 hK19
   apply Zad
   obtain ⟨x21, hx21, h⟩ := bind_some h
   obtain ⟨hx21a, hx21b, hx21c⟩ := Zar hx21
   have hx21d := Zay (f := ZcD) hx21c
   have hs := And.intro hx21d hs
   refine rg [3, 5, 21, 22, 23] hs ?_
   apply Zab; intro K22 hK22
   obtain ⟨y24, hy24, h⟩ := bind_some h
   refine rc 2 [3, 5, 21, 22, 23, 29] hs ?_; intro K23 hK23
   refine Zaf _ (Zjn w0 _ _ _ x21 _ hy24) (hv hs) ?_
   refine ne hs hK23 ?_
   clear hK23
   refine cnd h hs (fun hs h => ?_) (fun hs h => ?_)
   ·
    refine rg [2] hs ?_
    exact rt h hs hcalm hO
   refine sk [3, 5, 21, 22, 23] hs hK22 ?_
   clear hK22
   obtain ⟨y27, hy27, h⟩ := bind_some h
   obtain ⟨hg28, h⟩ := Zac h
   refine rk 2 [3, 21, 22, 23] hs ?_
   refine Zaf _ (Zkk w0 hP _ _ _ x21 _ hy27) (hv hs) ?_
   refine ne hs hK19 ?_
   clear hK19
   obtain ⟨hg29, h⟩ := Zac h
   refine rl [3, 21, 22, 23] hs (fun e s => Vl15 ml15 e s (Nat.lt_succ_self _)) ?_
   exact ⟨(x3_l15 + ((y27.size : Int))), (x23_l15 + 1), ([.val (.int .i64 x21.kind) :: (.val (.int .i64 x21.index) :: ([.val (.string x21.name)]))]), Rl15, ef hs, ef hs, hO, h⟩
  ·
   clear h; rintro e st ⟨x3_k12, Xk12, Rk12, rfl, rfl, hO, h⟩
   rw [Zf7] at h
   refine td hN hNR hNL hcalm hO ?_
   apply Zab; intro K30 hK30
   refine rg [37] hs ?_
   refine cnd h hs (fun hs h => ?_) (fun hs h => ?_)
   ·
    refine rg [2] hs ?_
    exact rt h hs hcalm hO
   refine sk [] hs hK30 ?_
   clear hK30
   refine rg [2] hs ?_
   exact rt h hs hcalm hO
def ZfR (n : Nat) (a0 : Ty) (a1 : Part) : Option (Ty × Bool × Int) :=
 (idx ([0, 9, 8, 8, 10]) a1.kind).bind fun x3 =>
 if !(decide (a0.kind = x3)) then
  some ((Ty.mk 0 0 0 0 ([]) ([]) ([]), false, 11))
 else
  if decide (a1.kind = 3) then
   (idx a0.elem 0).bind fun x13 =>
   some ((x13, decide (a0.min = 0), 0))
  else
   if decide (a1.kind = 2) then
    if decide (a0.max ≤ a1.index) then
     some ((Ty.mk 0 0 0 0 ([]) ([]) ([]), false, 2))
    else
     (idx a0.elem 0).bind fun x21 =>
     some ((x21, decide (a0.min ≤ a1.index), 0))
   else
    (Zen n a0 a1.name).bind fun y23 =>
    if !y23.2 then
     some ((Ty.mk 0 0 0 0 ([]) ([]) ([]), false, 21))
    else
     if decide (a1.kind = 4) then
      some ((y23.1.2.2.2.1, decide (1 < ((a0.fields.length : Int))), 0))
     else
      some ((y23.1.2.2.2.1, decide (y23.1.2.2.1 = 2), 0))
theorem ZqH (w0 : World) (n : Nat) (B : List (List AV)) (Rw : List RowA) (L : List LoopA) (a0 : Ty) (a1 : Part) (r : Ty × Bool × Int) (h : ZfR n a0 a1 = some r) :
  ACalls Tryz.prog w0 56 [.agg (a0.cs), .agg (.val (.int .i64 a1.kind) :: (.val (.int .i64 a1.index) :: ([.val (.string a1.name)])))] ⟨B, Rw, L⟩ fun x st => x = .tup [.agg (r.1.cs), .val (.bool r.2.1), .val (.int .i64 r.2.2)] ∧ st = ⟨B, Rw, L⟩ := by
 rw [ZfR] at h
 refine hd [.cell 4 26, .tmp 5, .tmp 6] Tryz.func56 Tryz.ntmps56 fun M0 W0 hN hNR hNL hcalm hu hO hs => ?_
 simp only [Zav]
 refine rg [2, 3, 4] hs ?_
 apply Zab; intro K2 hK2
 obtain ⟨x3, hx3a, hx3b, hx3d, h⟩ := ix avI h
 simp only [List.map_cons, List.map_nil, Zcn] at hx3d
 have hx3n : ([0, 9, 8, 8, 10]).length = 5 := rfl
 first | rw [hx3n] at hx3b | simp only [List.length_cons, List.length_nil, Nat.reduceAdd, Nat.zero_add] at hx3b
 apply Zae 1 [2, 3, 4, 7]
 rw [Zaa]; simp +decide only [go_sem, Nat.reduceAdd, hx3d, ZaF, Zan, Zam, List.getElem?_cons_zero, List.getElem?_cons_succ, List.nil_append, List.cons_append, Nat.mul_one]
 (repeat' apply And.intro) <;> first | refine hK2 _ _ ?_ | exact cl
 clear hK2
 apply Zab; intro K4 hK4
 have hs := And.intro hx3d hs
 refine rg [2, 3, 4, 17] hs ?_
 refine cnd h hs (fun hs h => ?_) (fun hs h => ?_)
 ·
  have hb6 := hs.1
  apply Zab; intro K7 hK7
  apply Zae 1 [4, 5, 6]
  rw [Zaa]; simp +decide only [go_sem, Nat.reduceAdd, hx3d, hb6, ZaF, Zan, Zam]
  (repeat' apply And.intro) <;> first | refine hK7 _ _ ?_ | exact cl
  clear hK7
  exact rt h hs hcalm hO
 have hb6 := hs.1
 refine sk [2, 3, 4] hs hK4 ?_
 clear hK4
 apply Zab; intro K8 hK8
 refine rg [2, 3, 4, 20] hs ?_
 apply Zad
 refine rg [2, 3, 4, 20, 21] hs ?_
 refine cnd h hs (fun hs h => ?_) (fun hs h => ?_)
 ·
  have hb11 := hs.1
  apply Zab; intro K12 hK12
  obtain ⟨x13, hx13a, hx13b, hx13d, h⟩ := ix avT h
  have hx13e : (a0.elem.map avT).getD 0 .junk = _ := hx13d
  apply ZgK mix [7] [4, 5, 6] (by kernel_rfl) (fun s => ∃ (X : List (List AV)) (rows : List RowA) (c2 : List AV), s = ⟨B ++ ([a0.cs, .val (.int .i64 a1.kind) :: (.val (.int .i64 a1.index) :: ([.val (.string a1.name)])), c2] ++ X), rows, L⟩) 2 (B.length + 3)
  ·
   simp +decide only [go_sem, Nat.reduceAdd]
  ·
   rintro s ⟨X, rows, c2, rfl⟩
   refine ⟨1, ?_⟩
   rw [Zaa]; simp +decide only [go_sem, Nat.reduceAdd, Zeu, hx3d, hb6, hb11, hx13d, hx13e]
   (repeat' apply And.intro) <;> first | rfl | exact cl
  ·
   refine Good.mk [7] (by kernel_rfl) ⟨[], _, _, by first | rfl | simp only [List.append_nil, List.nil_append]⟩ ?_ ?_
   ·
    intro h; exact absurd h (by decide)
   ·
    intro i hi; simp only [List.mem_cons, List.not_mem_nil, or_false] at hi
    subst hi
    ·
     apply Zbn rfl rfl ev
     ·
      simp +decide only [go_sem, Nat.reduceAdd, Zc1, hx3d, hb6, hb11, hx13d, hx13e]
      (repeat' apply And.intro) <;> first | rfl | exact cl
     ·
      simp +decide only [go_sem, Nat.reduceAdd, hx3d, hb6, hb11, hx13d, hx13e]
      refine Good.mk [] (by kernel_rfl) ⟨[], _, _, by first | rfl | simp only [List.append_nil, List.nil_append]⟩ ?_ ?_
      ·
       intro _; apply ZdD [4, 5, 6]; first | (simp +decide only [go_sem, Nat.reduceAdd, hx3d, hb6, hb11, hx13d, hx13e]; done) | (simp +decide only [go_sem, Nat.reduceAdd, hx3d, hb6, hb11, hx13d, hx13e]; rfl)
      ·
       intro i hi; cases hi
  simp +decide only [go_sem, Nat.reduceAdd, hx3d, hb6, hb11, hx13d, hx13e]
  (repeat' apply And.intro) <;> first | refine hK12 _ _ ?_ | exact cl
  clear hK12
  have hs := And.intro hx13d hs
  have hs := And.intro hx13e hs
  exact rt h hs hcalm hO
 have hb11 := hs.1
 refine rg [2, 3, 4, 30] hs ?_
 refine cnd h hs (fun hs h => ?_) (fun hs h => ?_)
 ·
  have hb15 := hs.1
  apply Zab; intro K16 hK16
  refine rg [2, 3, 4, 36] hs ?_
  refine cnd h hs (fun hs h => ?_) (fun hs h => ?_)
  ·
   have hb18 := hs.1
   apply Zab; intro K19 hK19
   apply Zae 1 [4, 5, 6]
   rw [Zaa]; simp +decide only [go_sem, Nat.reduceAdd, hx3d, hb6, hb11, hb15, hb18, ZaF, Zan, Zam]
   (repeat' apply And.intro) <;> first | refine hK19 _ _ ?_ | exact cl
   clear hK19
   exact rt h hs hcalm hO
  have hb18 := hs.1
  refine sk [2, 3, 4] hs hK16 ?_
  clear hK16
  apply Zab; intro K20 hK20
  obtain ⟨x21, hx21a, hx21b, hx21d, h⟩ := ix avT h
  have hx21e : (a0.elem.map avT).getD 0 .junk = _ := hx21d
  apply ZgK mix [9] [4, 5, 6] (by kernel_rfl) (fun s => ∃ (X : List (List AV)) (rows : List RowA) (c2 : List AV), s = ⟨B ++ ([a0.cs, .val (.int .i64 a1.kind) :: (.val (.int .i64 a1.index) :: ([.val (.string a1.name)])), c2] ++ X), rows, L⟩) 2 (B.length + 3)
  ·
   simp +decide only [go_sem, Nat.reduceAdd]
  ·
   rintro s ⟨X, rows, c2, rfl⟩
   refine ⟨1, ?_⟩
   rw [Zaa]; simp +decide only [go_sem, Nat.reduceAdd, Zeu, hx3d, hb6, hb11, hb15, hb18, hx21d, hx21e]
   (repeat' apply And.intro) <;> first | rfl | exact cl
  ·
   refine Good.mk [9] (by kernel_rfl) ⟨[], _, _, by first | rfl | simp only [List.append_nil, List.nil_append]⟩ ?_ ?_
   ·
    intro h; exact absurd h (by decide)
   ·
    intro i hi; simp only [List.mem_cons, List.not_mem_nil, or_false] at hi
    subst hi
    ·
     apply Zbn rfl rfl ev
     ·
      simp +decide only [go_sem, Nat.reduceAdd, Zc1, hx3d, hb6, hb11, hb15, hb18, hx21d, hx21e]
      (repeat' apply And.intro) <;> first | rfl | exact cl
     ·
      simp +decide only [go_sem, Nat.reduceAdd, hx3d, hb6, hb11, hb15, hb18, hx21d, hx21e]
      refine Good.mk [] (by kernel_rfl) ⟨[], _, _, by first | rfl | simp only [List.append_nil, List.nil_append]⟩ ?_ ?_
      ·
       intro _; apply ZdD [4, 5, 6]; first | (simp +decide only [go_sem, Nat.reduceAdd, hx3d, hb6, hb11, hb15, hb18, hx21d, hx21e]; done) | (simp +decide only [go_sem, Nat.reduceAdd, hx3d, hb6, hb11, hb15, hb18, hx21d, hx21e]; rfl)
      ·
       intro i hi; cases hi
  simp +decide only [go_sem, Nat.reduceAdd, hx3d, hb6, hb11, hb15, hb18, hx21d, hx21e]
  (repeat' apply And.intro) <;> first | refine hK20 _ _ ?_ | exact cl
  clear hK20
  have hs := And.intro hx21d hs
  have hs := And.intro hx21e hs
  exact rt h hs hcalm hO
 have hb15 := hs.1
 refine sk [2, 3, 4] hs hK8 ?_
 clear hK8
 obtain ⟨y23, hy23, h⟩ := bind_some h
 refine rc 2 [2, 3, 4, 8, 9] hs ?_; intro K22 hK22
 refine Zaf _ (Zh9 w0 n _ _ _ a0 a1.name _ hy23) (hv hs) ?_
 refine ne hs hK22 ?_
 clear hK22
 apply Zab; intro K24 hK24
 refine rg [2, 3, 4, 8, 55] hs ?_
 refine cnd h hs (fun hs h => ?_) (fun hs h => ?_)
 ·
  have hb26 := hs.1
  apply Zab; intro K27 hK27
  apply Zae 1 [4, 5, 6]
  rw [Zaa]; simp +decide only [go_sem, Nat.reduceAdd, hx3d, hb6, hb11, hb15, hb26, ZaF, Zan, Zam]
  (repeat' apply And.intro) <;> first | refine hK27 _ _ ?_ | exact cl
  clear hK27
  exact rt h hs hcalm hO
 have hb26 := hs.1
 refine sk [2, 3, 4, 8] hs hK24 ?_
 clear hK24
 apply Zab; intro K28 hK28
 refine rg [2, 4, 8, 59] hs ?_
 refine cnd h hs (fun hs h => ?_) (fun hs h => ?_)
 ·
  have hb30 := hs.1
  apply Zab; intro K31 hK31
  apply ZgK mix [6] [4, 5, 6] (by kernel_rfl) (fun s => ∃ (X : List (List AV)) (rows : List RowA) (c2 : List AV), s = ⟨B ++ ([a0.cs, .val (.int .i64 a1.kind) :: (.val (.int .i64 a1.index) :: ([.val (.string a1.name)])), c2, .val (.int .i64 y23.1.1) :: (.val (.string y23.1.2.1) :: (.val (.int .i64 y23.1.2.2.1) :: ((y23.1.2.2.2.1.cs) ++ ([.list (y23.1.2.2.2.2.map avV) .none]))))] ++ X), rows, L⟩) 2 (B.length + 4)
  ·
   simp +decide only [go_sem, Nat.reduceAdd]
  ·
   rintro s ⟨X, rows, c2, rfl⟩
   refine ⟨1, ?_⟩
   rw [Zaa]; simp +decide only [go_sem, Nat.reduceAdd, Zeu, hx3d, hb6, hb11, hb15, hb26, hb30]
   (repeat' apply And.intro) <;> first | rfl | exact cl
  ·
   refine Good.mk [6] (by kernel_rfl) ⟨[], _, _, by first | rfl | simp only [List.append_nil, List.nil_append]⟩ ?_ ?_
   ·
    intro h; exact absurd h (by decide)
   ·
    intro i hi; simp only [List.mem_cons, List.not_mem_nil, or_false] at hi
    subst hi
    ·
     apply Zbn rfl rfl ev
     ·
      simp +decide only [go_sem, Nat.reduceAdd, Zc1, hx3d, hb6, hb11, hb15, hb26, hb30]
      (repeat' apply And.intro) <;> first | rfl | exact cl
     ·
      simp +decide only [go_sem, Nat.reduceAdd, hx3d, hb6, hb11, hb15, hb26, hb30]
      refine Good.mk [] (by kernel_rfl) ⟨[], _, _, by first | rfl | simp only [List.append_nil, List.nil_append]⟩ ?_ ?_
      ·
       intro _; apply ZdD [4, 5, 6]; first | (simp +decide only [go_sem, Nat.reduceAdd, hx3d, hb6, hb11, hb15, hb26, hb30]; done) | (simp +decide only [go_sem, Nat.reduceAdd, hx3d, hb6, hb11, hb15, hb26, hb30]; rfl)
      ·
       intro i hi; cases hi
  simp +decide only [go_sem, Nat.reduceAdd, hx3d, hb6, hb11, hb15, hb26, hb30]
  (repeat' apply And.intro) <;> first | refine hK31 _ _ ?_ | exact cl
  clear hK31
  exact rt h hs hcalm hO
 have hb30 := hs.1
 refine sk [4, 8] hs hK28 ?_
 clear hK28
 apply Zab; intro K32 hK32
 apply ZgK mix [5] [4, 5, 6] (by kernel_rfl) (fun s => ∃ (X : List (List AV)) (rows : List RowA) (c2 : List AV), s = ⟨B ++ ([a0.cs, .val (.int .i64 a1.kind) :: (.val (.int .i64 a1.index) :: ([.val (.string a1.name)])), c2, .val (.int .i64 y23.1.1) :: (.val (.string y23.1.2.1) :: (.val (.int .i64 y23.1.2.2.1) :: ((y23.1.2.2.2.1.cs) ++ ([.list (y23.1.2.2.2.2.map avV) .none]))))] ++ X), rows, L⟩) 2 (B.length + 4)
 ·
  simp +decide only [go_sem, Nat.reduceAdd]
 ·
  rintro s ⟨X, rows, c2, rfl⟩
  refine ⟨1, ?_⟩
  rw [Zaa]; simp +decide only [go_sem, Nat.reduceAdd, Zeu, hx3d, hb6, hb11, hb15, hb26, hb30]
  (repeat' apply And.intro) <;> first | rfl | exact cl
 ·
  refine Good.mk [5] (by kernel_rfl) ⟨[], _, _, by first | rfl | simp only [List.append_nil, List.nil_append]⟩ ?_ ?_
  ·
   intro h; exact absurd h (by decide)
  ·
   intro i hi; simp only [List.mem_cons, List.not_mem_nil, or_false] at hi
   subst hi
   ·
    apply Zbn rfl rfl ev
    ·
     simp +decide only [go_sem, Nat.reduceAdd, Zc1, hx3d, hb6, hb11, hb15, hb26, hb30]
     (repeat' apply And.intro) <;> first | rfl | exact cl
    ·
     simp +decide only [go_sem, Nat.reduceAdd, hx3d, hb6, hb11, hb15, hb26, hb30]
     refine Good.mk [] (by kernel_rfl) ⟨[], _, _, by first | rfl | simp only [List.append_nil, List.nil_append]⟩ ?_ ?_
     ·
      intro _; apply ZdD [4, 5, 6]; first | (simp +decide only [go_sem, Nat.reduceAdd, hx3d, hb6, hb11, hb15, hb26, hb30]; done) | (simp +decide only [go_sem, Nat.reduceAdd, hx3d, hb6, hb11, hb15, hb26, hb30]; rfl)
     ·
      intro i hi; cases hi
 simp +decide only [go_sem, Nat.reduceAdd, hx3d, hb6, hb11, hb15, hb26, hb30]
 (repeat' apply And.intro) <;> first | refine hK32 _ _ ?_ | exact cl
 clear hK32
 exact rt h hs hcalm hO
def Zi9 (n : Nat)  (x5_k16 : Bool) (b1_k16 : Ty) : Option (Ty × Bool × Int) :=
 (Zc2 n b1_k16).bind fun y34 =>
 some ((y34, x5_k16, 0))
def ZfX (n : Nat) (a1 : List Part) : Nat → Bool → Int → Ty → Option (Ty × Bool × Int)
 | 0, _, _, _ => none
 | m + 1, x5_l19, x29_l19, b1_l19 =>
  if decide (x29_l19 < ((a1.length : Int))) then
   (idx a1 x29_l19).bind fun x25 =>
   (ZfR n b1_l19 x25).bind fun y27 =>
   if !(decide (y27.2.2 = 0)) then
    some ((Ty.mk 0 0 0 0 ([]) ([]) ([]), false, y27.2.2))
   else
    if I64 (x29_l19 + 1) then
     (ZfX n a1 m) (x5_l19 || y27.2.1) (x29_l19 + 1) y27.1
    else none
  else
   Zi9 n x5_l19 b1_l19
def Zkz (n : Nat) (a0 : Ty) (a1 : List Part) : Option (Ty × Bool × Int) :=
 (ZcM n a0).bind fun y4 =>
 if !(decide (y4 = 0)) then
  some ((Ty.mk 0 0 0 0 ([]) ([]) ([]), false, y4))
 else
  (Zgr n a1).bind fun y10 =>
  if !(decide (y10 = 0)) then
   some ((Ty.mk 0 0 0 0 ([]) ([]) ([]), false, y10))
  else
   ZfX n a1 n false 0 a0
theorem Zrk (w0 : World) (hP : Pow10 w0) (hT : Lib.Utf8Tabs 0 1 w0) (n : Nat) (B : List (List AV)) (Rw : List RowA) (L : List LoopA) (a0 : Ty) (a1 : List Part) (r : Ty × Bool × Int) (h : Zkz n a0 a1 = some r) :
  ACalls Tryz.prog w0 18 [.agg (a0.cs), .list (a1.map ZcD) .none] ⟨B, Rw, L⟩ fun x st => x = .tup [.agg (r.1.cs), .val (.bool r.2.1), .val (.int .i64 r.2.2)] ∧ st = ⟨B, Rw, L⟩ := by
 rw [Zkz] at h
 refine hd [.cell 4 26, .tmp 5, .tmp 6] Tryz.func18 Tryz.ntmps18 fun M0 W0 hN hNR hNL hcalm hu hO hs => ?_
 simp only [Zav]
 refine rg [1, 2, 4, 5] hs ?_
 apply Zab; intro K2 hK2
 obtain ⟨y4, hy4, h⟩ := bind_some h
 refine rc 2 [1, 2, 4, 5, 7] hs ?_; intro K3 hK3
 refine Zaf _ (ZcY w0 hT n _ _ _ a0 _ hy4) (hv hs) ?_
 refine ne hs hK3 ?_
 clear hK3
 refine rg [1, 2, 4, 5, 7, 17] hs ?_
 refine cnd h hs (fun hs h => ?_) (fun hs h => ?_)
 ·
  have hb6 := hs.1
  apply Zab; intro K7 hK7
  apply Zae 1 [4, 5, 6]
  rw [Zaa]; simp +decide only [go_sem, Nat.reduceAdd, hb6, ZaF, Zan, Zam]
  (repeat' apply And.intro) <;> first | refine hK7 _ _ ?_ | exact cl
  clear hK7
  exact rt h hs hcalm hO
 have hb6 := hs.1
 refine sk [1, 2, 4, 5] hs hK2 ?_
 clear hK2
 apply Zab; intro K8 hK8
 obtain ⟨y10, hy10, h⟩ := bind_some h
 refine rc 2 [1, 2, 4, 5, 8] hs ?_; intro K9 hK9
 refine Zaf _ (Zpk w0 hP n _ _ _ a1 _ hy10) (hv hs) ?_
 refine ne hs hK9 ?_
 clear hK9
 refine rg [1, 2, 4, 5, 8, 23] hs ?_
 refine cnd h hs (fun hs h => ?_) (fun hs h => ?_)
 ·
  have hb12 := hs.1
  apply Zab; intro K13 hK13
  apply Zae 1 [4, 5, 6]
  rw [Zaa]; simp +decide only [go_sem, Nat.reduceAdd, hb6, hb12, ZaF, Zan, Zam]
  (repeat' apply And.intro) <;> first | refine hK13 _ _ ?_ | exact cl
  clear hK13
  exact rt h hs hcalm hO
 have hb12 := hs.1
 refine sk [1, 2, 4, 5] hs hK8 ?_
 clear hK8
 refine rg [1, 4, 5] hs ?_
 refine Zai (fun e st => ∃ (x5_k16 : Bool) (b1_k16 : Ty) (cb1_k16 : List AV), Ck e st B Rw L [(4, true, .box (B.length + 1) 0), (5, true, .val (.bool x5_k16))] [a0.cs, cb1_k16] [] (cb1_k16.map AV.pubCell = b1_k16.cs ∧ Zi9 n x5_k16 b1_k16 = some r)) ?_ ?_
 ·
  intro K17 hK17
  refine rg [4, 5, 27, 28, 29] hs ?_
  apply Zad
  refine Zal (fun m e st => ∃ (x5_l19 : Bool) (x29_l19 : Int) (b1_l19 : Ty) (cb1_l19 : List AV), Ck e st B Rw L [(4, true, .box (B.length + 1) 0), (5, true, .val (.bool x5_l19)), (27, true, .list (a1.map ZcD) .none), (28, true, .val (.int .i64 ((a1.length : Int)))), (29, true, .val (.int .i64 x29_l19))] [a0.cs, cb1_l19] [] (cb1_l19.map AV.pubCell = b1_l19.cs ∧ ZfX n a1 m x5_l19 x29_l19 b1_l19 = some r)) n ⟨false, 0, a0, _, ([]), Rw, ef hs, ef hs, hO, ef hs, h⟩ ?_
  rintro ml19 e st ⟨x5_l19, x29_l19, b1_l19, cb1_l19, Xl19, Rl19, rfl, rfl, hO, hr0, h⟩ Ul19 Vl19
  cases ml19 with
  | zero => cases h
  | succ ml19 =>
  rw [ZfX] at h
  refine Zh0 (B.length + 1) (by first | rfl | (simp only [ZlM, Zjd, ZoC, Zm6]; rfl)) hr0 ?_; simp +decide only [go_sem, Nat.reduceAdd]
  show awp _ _ _ _ _ _ _ _ [(4, true, .box (B.length + 1) 0), (5, true, .val (.bool x5_l19)), (27, true, .list (a1.map ZcD) .none), (28, true, .val (.int .i64 ((a1.length : Int)))), (29, true, .val (.int .i64 x29_l19))] ⟨B ++ ([a0.cs, b1_l19.cs] ++ Xl19), Rl19, L⟩
  refine td hN hNR hNL hcalm hO ?_
  refine rg [4, 5, 27, 28, 29, 30] hs ?_
  apply Zab; intro K21 hK21
  refine cnd h hs (fun hs h => ?_) (fun hs h => ?_)
  rotate_left
  ·
   have hb22 := hs.1
   refine sx [4, 5] hs hK17 ?_
   exact ⟨x5_l19, b1_l19, _, ([]), Rl19, ef hs, ef hs, hO, ef hs, h⟩
  have hb22 := hs.1
  refine sk [4, 5, 27, 28, 29] hs hK21 ?_
  clear hK21
  apply Zab; intro K23 hK23
  apply Zad
  obtain ⟨x25, hx25, h⟩ := bind_some h
  obtain ⟨hx25a, hx25b, hx25c⟩ := Zar hx25
  have hx25d := Zay (f := ZcD) hx25c
  have hs := And.intro hx25d hs
  refine rg [4, 5, 10, 27, 28, 29] hs ?_
  obtain ⟨y27, hy27, h⟩ := bind_some h
  refine rc 2 [4, 5, 11, 12, 13, 27, 28, 29] hs ?_; intro K26 hK26
  refine Zaf _ (ZqH w0 n _ _ _ b1_l19 x25 _ hy27) (hv hs) ?_
  refine ne hs hK26 ?_
  clear hK26
  apply Zab; intro K28 hK28
  refine rg [4, 5, 11, 12, 13, 27, 28, 29, 41] hs ?_
  refine cnd h hs (fun hs h => ?_) (fun hs h => ?_)
  ·
   have hb30 := hs.1
   apply Zab; intro K31 hK31
   apply Zae 1 [4, 5, 6]
   rw [Zaa]; simp +decide only [go_sem, Nat.reduceAdd, hb6, hb12, hb22, hx25d, hb30, ZaF, Zan, Zam]
   (repeat' apply And.intro) <;> first | refine hK31 _ _ ?_ | exact cl
   clear hK31
   exact rt h hs hcalm hO
  have hb30 := hs.1
  refine sk [4, 5, 11, 12, 27, 28, 29] hs hK28 ?_
  clear hK28
  refine rl [4, 5, 27, 28, 29] hs hK23 ?_
  clear hK23
  obtain ⟨hg32, h⟩ := Zac h
  refine rl [4, 5, 27, 28, 29] hs (fun e s => Vl19 ml19 e s (Nat.lt_succ_self _)) ?_
  exact ⟨(x5_l19 || y27.2.1), (x29_l19 + 1), y27.1, _, ([.val (.int .i64 x25.kind) :: (.val (.int .i64 x25.index) :: ([.val (.string x25.name)])), y27.1.cs]), Rl19, ef hs, ef hs, hO, ef hs, h⟩
 ·
  clear h; rintro e st ⟨x5_k16, b1_k16, cb1_k16, Xk16, Rk16, rfl, rfl, hO, hr0, h⟩
  rw [Zi9] at h
  refine Zh0 (B.length + 1) (by first | rfl | (simp only [ZlM, Zjd, ZoC, Zm6]; rfl)) hr0 ?_; simp +decide only [go_sem, Nat.reduceAdd]
  show awp _ _ _ _ _ _ _ _ [(4, true, .box (B.length + 1) 0), (5, true, .val (.bool x5_k16))] ⟨B ++ ([a0.cs, b1_k16.cs] ++ Xk16), Rk16, L⟩
  refine td hN hNR hNL hcalm hO ?_
  obtain ⟨y34, hy34, h⟩ := bind_some h
  refine rc 2 [4, 5, 6] hs ?_; intro K33 hK33
  refine Zaf _ (ZiD w0 n _ _ _ b1_k16 _ hy34) (hv hs) ?_
  refine ne hs hK33 ?_
  clear hK33
  exact rt h hs hcalm hO
def ZhM (a0 : ByteArray) : Vl :=
 Vl.mk 5 0 0 a0 ([]) ([])
theorem Zpf (w0 : World) (B : List (List AV)) (Rw : List RowA) (L : List LoopA) (a0 : ByteArray) (r : Vl) (h : ZhM a0 = r) :
  ACalls Tryz.prog w0 165 [.val (.string a0)] ⟨B, Rw, L⟩ fun x st => x = .agg (r.cs) ∧ st = ⟨B, Rw, L⟩ := by
 rw [ZhM] at h
 refine hd [.cell 2 46] Tryz.func165 Tryz.ntmps165 fun M0 W0 hN hNR hNL hcalm hu hO hs => ?_
 simp only [Zav]
 refine rg [0, 2] hs ?_
 apply Zab; intro K2 hK2
 apply Zae 1 [2]
 rw [Zaa]; simp +decide only [go_sem, Nat.reduceAdd, ZaF, Zan, Zam]
 (repeat' apply And.intro) <;> first | refine hK2 _ _ ?_ | exact cl
 clear hK2
 apply Zah; simp +decide only [go_sem, Nat.reduceAdd]
 subst h
 first | refine ZaG hcalm rfl hO.pre ev ⟨?_, rfl⟩ | refine Zbg hcalm rfl hO.pre ev ⟨?_, rfl⟩
 first | rfl | (simp +decide only [go_sem, Nat.reduceAdd]; done) | (simp +decide only [go_sem, Nat.reduceAdd, Vl.cs, Ty.cs]; done)
theorem ZnX (w0 : World) (B : List (List AV)) (Rw : List RowA) (L : List LoopA) (a0 : ByteArray) :
  ACalls Tryz.prog w0 165 [.val (.string a0)] ⟨B, Rw, L⟩ fun x st => x = .agg ((ZhM a0).cs) ∧ st = ⟨B, Rw, L⟩ := Zpf w0 B Rw L a0 _ rfl
def Zli (n : Nat) (a0 : List Vl) : Option Vl :=
 (ZbN n (Vl.mk 8 0 0 ((⟨#[]⟩ : ByteArray)) a0 ([]))).bind fun y3 =>
 some (y3)
theorem Zq2 (w0 : World) (n : Nat) (B : List (List AV)) (Rw : List RowA) (L : List LoopA) (a0 : List Vl) (r : Vl) (h : Zli n a0 = some r) :
  ACalls Tryz.prog w0 170 [.list (a0.map avV) .none] ⟨B, Rw, L⟩ fun x st => x = .agg (r.cs) ∧ st = ⟨B, Rw, L⟩ := by
 rw [Zli] at h
 refine hd [.cell 2 46] Tryz.func170 Tryz.ntmps170 fun M0 W0 hN hNR hNL hcalm hu hO hs => ?_
 simp only [Zav]
 refine rg [0, 2] hs ?_
 apply Zab; intro K2 hK2
 obtain ⟨y3, hy3, h⟩ := bind_some h
 apply Zae 2 [2]
 rw [Zaa]; simp +decide only [go_sem, Nat.reduceAdd, ZaF, Zan, Zam]
 (repeat' apply And.intro) <;> first | refine Zaf _ (Zds w0 n _ _ _ (Vl.mk 8 0 0 ((⟨#[]⟩ : ByteArray)) a0 ([])) _ hy3) (by first | rfl | (simp +decide only [go_sem, Nat.reduceAdd, ZaF, Zan, Zam]; done) | (simp +decide only [go_sem, Nat.reduceAdd, Vl.cs, Ty.cs, ZaF, Zan, Zam]; done)) ?_ | exact cl
 rw [Zaa]; simp +decide only [go_sem, Nat.reduceAdd, ZaF, Zan, Zam]
 (repeat' apply And.intro) <;> first | refine hK2 _ _ ?_ | exact cl
 clear hK2
 exact rt h hs hcalm hO
def Zci (n : Nat) (a0 : List (ByteArray × Vl)) (a1 : (ByteArray × Vl) → Option Bool) : Option Bool :=
 (Zbs n a0 a1).bind fun y3 =>
 some (decide (0 ≤ y3))
theorem Zfp (w0 : World) (n : Nat) (B : List (List AV)) (Rw : List RowA) (L : List LoopA) (a0 : List (ByteArray × Vl)) (fa1 : FuncId) (ca1 : List AV) (a1 : (ByteArray × Vl) → Option Bool) (ha1 : ∀ (x0 : ByteArray × Vl) r, a1 x0 = some r → ∀ B' rows, B <+: B' → Rw <+: rows → ACalls Tryz.prog w0 fa1 ([.agg (.val (.string x0.1) :: (x0.2.cs))] ++ ca1) ⟨B', rows, L⟩ fun v s => v = .val (.bool r) ∧ s = ⟨B', rows, L⟩) (r : Bool) (h : Zci n a0 a1 = some r) :
  ACalls Tryz.prog w0 216 [.list (a0.map avF) .none, .clo fa1 ca1] ⟨B, Rw, L⟩ fun x st => x = .val (.bool r) ∧ st = ⟨B, Rw, L⟩ := by
 rw [Zci] at h
 refine hd [.tmp 4] Tryz.func216 Tryz.ntmps216 fun M0 W0 hN hNR hNL hcalm hu hO hs => ?_
 simp only [Zav]
 have hU_a1 := Zd0 (hu (.clo fa1 ca1) (by simp))
 refine rg [0, 1] hs ?_
 obtain ⟨y3, hy3, h⟩ := bind_some h
 refine rc 2 [4] hs ?_; intro K2 hK2
 refine Zaf _ (Zeb w0 n _ _ _ a0 fa1 ca1 a1 (fun x0 r hx B'' rows'' q1 q2 => ha1 x0 r hx B'' rows'' (List.IsPrefix.trans (by first | exact List.prefix_append _ _ | exact List.prefix_refl _) q1) (hO.pre.trans q2)) _ hy3) (hv hs) ?_
 refine ne hs hK2 ?_
 clear hK2
 exact rt h hs hcalm hO
def Zep (a0 : ByteArray × Vl) (a1 : ByteArray × Vl) : Bool :=
 (sEq a0.1 a1.1) && (!(ZbB a0.2))
theorem Zk7 (w0 : World) (B : List (List AV)) (Rw : List RowA) (L : List LoopA) (a0 : ByteArray × Vl) (la1 : Nat) (a1 : ByteArray × Vl) (hla1 : B[la1]? = some (.val (.string a1.1) :: (a1.2.cs))) (r : Bool) (h : Zep a0 a1 = r) :
  ACalls Tryz.prog w0 217 [.agg (.val (.string a0.1) :: (a0.2.cs)), .box la1 0] ⟨B, Rw, L⟩ fun x st => x = .val (.bool r) ∧ st = ⟨B, Rw, L⟩ := by
 rw [Zep] at h
 refine hd [.tmp 3] Tryz.func217 Tryz.ntmps217 fun M0 W0 hN hNR hNL hcalm hu hO hs => ?_
 simp only [Zav]
 have hltla1 := (List.getElem?_eq_some_iff.1 hla1).1
 have hs := And.intro (Zag hla1) hs
 refine rg [1, 2] hs ?_
 refine rc 2 [3] hs ?_; intro K2 hK2
 refine ZdT _ (fun _ => Zgs w0 _ _ _ a0.2) (hv hs) ?_
 refine ne hs hK2 ?_
 clear hK2
 apply Zah; simp +decide only [go_sem, Nat.reduceAdd, Zag hla1]
 subst h
 first | refine ZaG hcalm rfl hO.pre ev ⟨?_, rfl⟩ | refine Zbg hcalm rfl hO.pre ev ⟨?_, rfl⟩
 first | rfl | (simp +decide only [go_sem, Nat.reduceAdd, Zag hla1]; done) | (simp +decide only [go_sem, Nat.reduceAdd, Vl.cs, Ty.cs, Zag hla1]; done)
theorem Zkj (w0 : World) (B : List (List AV)) (Rw : List RowA) (L : List LoopA) (a0 : ByteArray × Vl) (la1 : Nat) (a1 : ByteArray × Vl) (hla1 : B[la1]? = some (.val (.string a1.1) :: (a1.2.cs))) :
  ACalls Tryz.prog w0 217 [.agg (.val (.string a0.1) :: (a0.2.cs)), .box la1 0] ⟨B, Rw, L⟩ fun x st => x = .val (.bool (Zep a0 a1)) ∧ st = ⟨B, Rw, L⟩ := Zk7 w0 B Rw L a0 la1 a1 hla1 _ rfl
structure VPre (Rw rows : List RowA) : Prop where
 pre : Rw <+: rows
def dflF : ByteArray × Vl := (⟨#[]⟩, Vl.mk 0 0 0 ⟨#[]⟩ [] [])
def Zie (l : List (ByteArray × Vl)) : List (ByteArray × Vl) := ZjV Prod.fst dflF l
theorem ZiN (l : List (ByteArray × Vl)) : (Zie l).length = l.length := by simp only [Zie, ZjV, List.length_map]; exact Zel _ _
theorem Ze4 (x : ByteArray × Vl) : (avF x).cells.length = 7 ∧ ZaN (avF x) = true := by simp +decide only [go_sem, and_self]
theorem Zo5 (x : ByteArray × Vl) : (avF x).pub = avF x := by simp +decide only [go_sem]
theorem ZmL (x : ByteArray × Vl) : ∀ c ∈ (avF x).cells, ∀ a b d, Under a b d c := by
 intro c hc a b d
 simp only [avF, AV.cells, List.mem_cons] at hc
 rcases hc with rfl | hc
 ·
  exact .val _
 ·
  exact x.2.under a b d c hc
theorem Zq3 (w0 : World) (st : St) : ACalls Tryz.prog w0 218 [.list [] .none, .clo 219 []] st fun r s => r = .tup [] ∧ s = st := by
 refine ⟨ZaH Tryz.func218 rfl (by decide), fun M w vals hst hrow => ?_⟩
 obtain ⟨v0, v1, rfl⟩ : ∃ v0 v1, vals = #[v0, v1] := by
  have hs := hrow.1
  simp only [List.length_cons, List.length_nil] at hs
  match vals, hs with
  | ⟨[a, b]⟩, _ => exact ⟨a, b, rfl⟩
 have h0 : R w0 M w v0 (.list [] .none) := hrow.2 0 (by simp) (by simp)
 obtain ⟨p, cap, rfl⟩ : ∃ p cap, v0 = .slice p 0 cap := by
  generalize hx : AV.list [] Ev.Own.none = x at h0
  cases h0 with
  | nil ho => exact ⟨_, _, rfl⟩
  | emp ho => exact ⟨_, _, rfl⟩
  | list sz us hc hm hcell hu ho => cases hx; exact ⟨_, _, rfl⟩
  | _ => cases hx
 have h := AnyF.slices_SortFunc_none (P := Tryz.prog) (ρ := Tryz.laysSort_ren) Tryz.laysSort p cap v1 w
 refine h.mono ?_
 rintro en w' ⟨rfl, rfl⟩
 exact ⟨.tuple #[], M, .tup [], st, rfl, ⟨rfl, rfl⟩, .refl _ _ _, hst, .tup rfl (fun i h1 _ => absurd h1 (by simp))⟩
theorem Zqt (w0 : World) {st : St} {id ver : Nat} (l : List (ByteArray × Vl)) (hid : st.rows[id]? = some (.vec ver 7 (l.flatMap fun x => (avF x).cells))) (hn : 0 < l.length) (hz : l.length < 4611686018427387904) :
  ACalls Tryz.prog w0 218 [.vec id ver 0 l.length, .clo 219 []] st fun r s => r = .tup [] ∧ s = { st with rows := st.rows.set id (.vec ver 7 ((Zie l).flatMap fun x => (avF x).cells)) } :=
 Zq8 (ρ := Tryz.laysSort_ren) Tryz.laysSort (ZaH Tryz.func218 rfl (by decide)) 6 Tryz.isAgg75 Tryz.sizeOf75 219 (ZaH Tryz.func219 rfl (by decide))
  (fun s s' r r' W h1 h2 h3 h4 => ZpH s s' r r' W h1 h2 h3 h4) avF Prod.fst dflF l (fun x => ⟨x.2.cs, rfl, Vl.cs_length _⟩) hid hn hz
def Ze9 (n : Nat) (again_l7 : Int → (List (ByteArray × Vl)) → Option Vl) (x10_l7 : Int) (b1_k12_5 : List (ByteArray × Vl)) : Option Vl :=
 if I64 (x10_l7 + 1) then
  again_l7 (x10_l7 + 1) b1_k12_5
 else none
def Zhq (n : Nat)  (b1_k4_5 : List (ByteArray × Vl)) : Option Vl :=
 if b1_k4_5.length < 4611686018427387904 then
  (ZbN n (Vl.mk 9 0 0 ((⟨#[]⟩ : ByteArray)) ([]) (Zie b1_k4_5))).bind fun y29 =>
  some (y29)
 else none
def ZdX (n : Nat) (a0 : List (ByteArray × Vl)) : Nat → Int → (List (ByteArray × Vl)) → Option Vl
 | 0, _, _ => none
 | m + 1, x10_l7, b1_l7_5 =>
  if decide (x10_l7 < ((a0.length : Int))) then
   (idx a0 x10_l7).bind fun x15 =>
   if I64 (x10_l7 + 1) then
    if 0 ≤ x10_l7 + 1 ∧ x10_l7 + 1 ≤ (a0.length : Int) ∧ (a0.length : Int) ≤ (a0.length : Int) then
     (Zci n (a0.drop (x10_l7 + 1).toNat) (fun (x0 : ByteArray × Vl) => some (Zep x0 x15))).bind fun y19 =>
     if (!(ZbB x15.2)) && (!y19) then
      if (b1_l7_5.length + 1) * 104 ≤ 140737488355328 ∧ b1_l7_5.length + 1 ≤ 4611686018427387904 then
       Ze9 n (ZdX n a0 m) x10_l7 (b1_l7_5 ++ ([x15]))
      else none
     else
      Ze9 n (ZdX n a0 m) x10_l7 b1_l7_5
    else none
   else none
  else
   Zhq n b1_l7_5
def Ziv (n : Nat) (a0 : List (ByteArray × Vl)) : Option Vl :=
 ZdX n a0 n 0 ([])
theorem Znv (w0 : World) (n : Nat) (B : List (List AV)) (Rw : List RowA) (L : List LoopA) (a0 : List (ByteArray × Vl)) (r : Vl) (h : Ziv n a0 = some r) :
  ACalls Tryz.prog w0 171 [.list (a0.map avF) .none] ⟨B, Rw, L⟩ fun x st => x = .agg (r.cs) ∧ st = ⟨B, Rw, L⟩ := by
 rw [Ziv] at h
 refine hd [.cell 2 46] Tryz.func171 Tryz.ntmps171 fun M0 W0 hN hNR hNL hcalm hu hO hs => ?_
 simp only [Zav]
 refine rg [0, 2] hs ?_
 apply Zab; intro K2 hK2
 apply Zae 1 [0, 2, 3]
 rw [Zaa]; simp +decide only [go_sem, Nat.reduceAdd, ZaF, Zan, Zam]
 (repeat' apply And.intro) <;> first | refine hK2 _ _ ?_ | exact cl
 clear hK2
 refine Zai (fun e st => ∃ (b1_k4_5 : List (ByteArray × Vl)) (ob1_k4_5 : AV) (Xk4 : List (List AV)) (Rk4 : List RowA), e = [(2, true, .box B.length 0), (3, true, .box (B.length + 1) 0)] ∧ st = ⟨B ++ ([[.val (.int .i64 0), .val (.int .i64 0), .val (.int .i64 0), .val (.string ((⟨#[]⟩ : ByteArray))), .list ([]) .full, .list ([]) .full], [.val (.int .i64 9), .val (.int .i64 0), .val (.int .i64 0), .val (.string ((⟨#[]⟩ : ByteArray))), .list ([]) .full, ob1_k4_5]] ++ Xk4), Rk4, L⟩ ∧ VOne Rw Rk4 7 (b1_k4_5.map avF) ob1_k4_5 ∧ Zhq n b1_k4_5 = some r) ?_ ?_
 ·
  intro K5 hK5
  refine ZmC (B.length + 1) 5 (by first | rfl | (simp only [ZlM, Zjd]; rfl)) rfl ?_; simp +decide only [go_sem, Nat.reduceAdd, List.set_cons_succ, List.set_cons_zero]
  refine rg [0, 2, 3, 8, 9, 10] hs ?_
  apply Zad
  refine Zal (fun m e st => ∃ (x10_l7 : Int) (b1_l7_5 : List (ByteArray × Vl)) (ob1_l7_5 : AV) (Xl7 : List (List AV)) (Rl7 : List RowA), e = [(0, true, .list (a0.map avF) .none), (2, true, .box B.length 0), (3, true, .box (B.length + 1) 0), (8, true, .list (a0.map avF) .none), (9, true, .val (.int .i64 ((a0.length : Int)))), (10, true, .val (.int .i64 x10_l7))] ∧ st = ⟨B ++ ([[.val (.int .i64 0), .val (.int .i64 0), .val (.int .i64 0), .val (.string ((⟨#[]⟩ : ByteArray))), .list ([]) .full, .list ([]) .full], [.val (.int .i64 9), .val (.int .i64 0), .val (.int .i64 0), .val (.string ((⟨#[]⟩ : ByteArray))), .list ([]) .full, ob1_l7_5]] ++ Xl7), Rl7, L⟩ ∧ VOne Rw Rl7 7 (b1_l7_5.map avF) ob1_l7_5 ∧ ZdX n a0 m x10_l7 b1_l7_5 = some r) n ⟨0, [], .list [] .seed, [], Rw, ef hs, ef hs, VOne.none Rw 7, h⟩ ?_
  rintro ml7 e st ⟨x10_l7, b1_l7_5, ob1_l7_5, Xl7, Rl7, rfl, rfl, hO, h⟩ Ul7 Vl7
  cases ml7 with
  | zero => cases h
  | succ ml7 =>
  rw [ZdX] at h
  have hU := hO.under (B.length + 2) L.length
  refine tdV hN hNR hNL hcalm hO ?_
  refine rg [0, 2, 3, 8, 9, 10, 11] hs ?_
  apply Zab; intro K9 hK9
  refine cnd h hs (fun hs h => ?_) (fun hs h => ?_)
  rotate_left
  ·
   refine sx [2, 3] hs hK5 ?_
   exact ⟨b1_l7_5, ob1_l7_5, ([]), Rl7, ef hs, ef hs, VOne.of_eq hO (by simp only [List.map_append, List.map_cons, List.map_nil]), h⟩
  refine sk [0, 2, 3, 8, 9, 10] hs hK9 ?_
  clear hK9
  refine Zai (fun e st => ∃ (b1_k12_5 : List (ByteArray × Vl)) (ob1_k12_5 : AV) (Xk12 : List (List AV)) (Rk12 : List RowA), e = [(0, true, .list (a0.map avF) .none), (2, true, .box B.length 0), (3, true, .box (B.length + 1) 0), (8, true, .list (a0.map avF) .none), (9, true, .val (.int .i64 ((a0.length : Int)))), (10, true, .val (.int .i64 x10_l7))] ∧ st = ⟨B ++ ([[.val (.int .i64 0), .val (.int .i64 0), .val (.int .i64 0), .val (.string ((⟨#[]⟩ : ByteArray))), .list ([]) .full, .list ([]) .full], [.val (.int .i64 9), .val (.int .i64 0), .val (.int .i64 0), .val (.string ((⟨#[]⟩ : ByteArray))), .list ([]) .full, ob1_k12_5]] ++ Xk12), Rk12, L⟩ ∧ VOne Rw Rk12 7 (b1_k12_5.map avF) ob1_k12_5 ∧ Ze9 n (ZdX n a0 ml7) x10_l7 b1_k12_5 = some r) ?_ ?_
  ·
   intro K13 hK13
   apply Zad
   obtain ⟨x15, hx15, h⟩ := bind_some h
   obtain ⟨hx15a, hx15b, hx15c⟩ := Zar hx15
   have hx15d := Zay (f := avF) hx15c
   have hs := And.intro hx15d hs
   refine rg [0, 2, 3, 4, 5, 8, 9, 10] hs ?_
   obtain ⟨hg17, h⟩ := Zac h
   obtain ⟨hg18, h⟩ := Zac h
   obtain ⟨y19, hy19, h⟩ := bind_some h
   refine rc 2 [0, 2, 3, 5, 6, 8, 9, 10] hs ?_; intro K16 hK16
   refine Zaf _ (Zfp w0 n _ _ _ (a0.drop (x10_l7 + 1).toNat) 217 [.box (B.length + 2) 0] (fun (x0 : ByteArray × Vl) => some (Zep x0 x15)) (fun x0 r hx B' rows' hB' hR' => by cases hx; exact Zkj w0 _ _ _ x0 _ x15 (ZeC hB' (ef hs))) _ hy19) (hv hs) ?_
   refine ne hs hK16 ?_
   clear hK16
   refine rc 2 [0, 2, 3, 5, 8, 9, 10, 28] hs ?_; intro K20 hK20
   refine Zaf _ (Zgs w0 _ _ _ x15.2) (hv hs) ?_
   refine ne hs hK20 ?_
   clear hK20
   refine cnd h hs (fun hs h => ?_) (fun hs h => ?_)
   ·
    obtain ⟨hg22, h⟩ := Zac h
    obtain ⟨o23, rows24, hO, hap25⟩ := hO.append (P := Tryz.prog) (y := avF x15) Zok (by rw [Zi5]; rfl) (by decide) (by rw [List.length_map]; exact hg22.1) (by rw [List.length_map]; exact hg22.2) (Ze4 x15) (Zo5 x15) (ZmL x15) (fun z hz => by obtain ⟨y, _, rfl⟩ := List.mem_map.1 hz; exact (Ze4 y).1)
    simp only [Zcm] at hap25
    replace hap25 := And.intro hap25 hO.cell
    have hs := And.intro hap25 hs
    refine rl [0, 2, 3, 8, 9, 10] hs hK13 ?_
    exact ⟨(b1_l7_5 ++ ([x15])), o23, ([.val (.string x15.1) :: (x15.2.cs)]), rows24, ef hs, ef hs, VOne.of_eq hO (by simp only [List.map_append, List.map_cons, List.map_nil]), h⟩
   refine sk [0, 2, 3, 8, 9, 10] hs hK13 ?_
   exact ⟨b1_l7_5, ob1_l7_5, ([.val (.string x15.1) :: (x15.2.cs)]), Rl7, ef hs, ef hs, VOne.of_eq hO (by simp only [List.map_append, List.map_cons, List.map_nil]), h⟩
  ·
   clear h; rintro e st ⟨b1_k12_5, ob1_k12_5, Xk12, Rk12, rfl, rfl, hO, h⟩
   rw [Ze9] at h
   have hU := hO.under (B.length + 2) L.length
   refine tdV hN hNR hNL hcalm hO ?_
   obtain ⟨hg26, h⟩ := Zac h
   refine rl [0, 2, 3, 8, 9, 10] hs (fun e s => Vl7 ml7 e s (Nat.lt_succ_self _)) ?_
   exact ⟨(x10_l7 + 1), b1_k12_5, ob1_k12_5, ([]), Rk12, ef hs, ef hs, VOne.of_eq hO (by simp only [List.map_append, List.map_cons, List.map_nil]), h⟩
 ·
  clear h; rintro e st ⟨b1_k4_5, ob1_k4_5, Xk4, Rk4, rfl, rfl, hO, h⟩
  rw [Zhq] at h
  have hU := hO.under (B.length + 2) L.length
  refine tdV hN hNR hNL hcalm hO ?_
  obtain ⟨hgL, h⟩ := Zac h
  rcases hO.at_ with ⟨hnil, rfl⟩ | ⟨id, ver, rfl, hpos, hid, hrow⟩
  ·
   have hb0 : b1_k4_5 = [] := List.map_eq_nil_iff.1 hnil
   subst hb0
   refine rc 2 [2, 3] hs ?_; intro K27 hK27
   refine Zaf _ (Zq3 w0 _) (hv hs) ?_
   refine ne hs hK27 ?_
   clear hK27
   obtain ⟨y29, hy29, h⟩ := bind_some h
   rw [show Zie [] = [] from List.eq_nil_of_length_eq_zero (ZiN [])] at hy29
   refine rc 2 [2] hs ?_; intro K28 hK28
   refine Zaf _ (Zds w0 n _ _ _ (Vl.mk 9 0 0 ((⟨#[]⟩ : ByteArray)) ([]) []) _ hy29) (hv hs) ?_
   refine ne hs hK28 ?_
   clear hK28
   exact rt h hs hcalm hO
  ·
   rw [List.length_map] at hpos
   rw [List.length_map]
   rw [show ((b1_k4_5.map avF).flatMap AV.cells) = b1_k4_5.flatMap fun x => (avF x).cells from List.flatMap_map ..] at hrow
   refine rc 2 [2, 3] hs ?_; intro K27 hK27
   refine Zca _ (Zqt w0 (st := ⟨_, _, _⟩) b1_k4_5 hrow hpos hgL) (hv hs) ?_; rintro _ _ ⟨rfl, rfl⟩
   refine ne hs hK27 ?_
   clear hK27
   have hlt := (List.getElem?_eq_some_iff.1 hrow).1
   have hvr : ZfF (Rk4.set id (.vec ver 7 ((Zie b1_k4_5).flatMap fun x => (avF x).cells))) id ver = some (7, (Zie b1_k4_5).flatMap fun x => (avF x).cells) := by simp [ZfF, hlt]
   have hsl : (Zie b1_k4_5).length = b1_k4_5.length := ZiN _
   refine Zkl (B.length + 1) 5 true (by first | rfl | (simp only [ZlM, Zjd]; rfl)) rfl hvr (.inl rfl) (by rw [Nat.zero_add, Zhp (fun x _ => (Ze4 x).1), hsl]; exact Nat.le_refl _) ?_
   have hfz : ZpR 7 true ((Zie b1_k4_5).flatMap fun x => (avF x).cells) 0 b1_k4_5.length = (Zie b1_k4_5).map avF := by
    have := ZpS (ys := (Zie b1_k4_5).map avF) (sz := 7) (fun y hy => by obtain ⟨x, _, rfl⟩ := List.mem_map.1 hy; exact ⟨_, rfl, (Ze4 x).1⟩)
    rw [List.length_map, hsl, List.flatMap_map] at this
    exact this
   rw [hfz]
   simp +decide only [go_sem, Nat.reduceAdd, List.set_cons_succ, List.set_cons_zero]
   obtain ⟨y29, hy29, h⟩ := bind_some h
   have hO : VPre Rw ((Rk4.set id (.vec ver 7 ((Zie b1_k4_5).flatMap fun x => (avF x).cells))).set id (.dead (ver + 1))) := ⟨Zfe (Zfe hO.pre hid _) hid _⟩
   refine rc 2 [2] hs ?_; intro K28 hK28
   refine Zaf _ (Zds w0 n _ _ _ (Vl.mk 9 0 0 ((⟨#[]⟩ : ByteArray)) ([]) (Zie b1_k4_5)) _ hy29) (hv hs) ?_
   refine ne hs hK28 ?_
   clear hK28
   exact rt h hs hcalm hO
def Zhk (n : Nat) (a0 : ByteArray) (a1 : Vl) : Option Vl :=
 (ZbN n (Vl.mk 10 0 0 a0 ([a1]) ([]))).bind fun y3 =>
 some (y3)
theorem Zmk (w0 : World) (n : Nat) (B : List (List AV)) (Rw : List RowA) (L : List LoopA) (a0 : ByteArray) (a1 : Vl) (r : Vl) (h : Zhk n a0 a1 = some r) :
  ACalls Tryz.prog w0 134 [.val (.string a0), .agg (a1.cs)] ⟨B, Rw, L⟩ fun x st => x = .agg (r.cs) ∧ st = ⟨B, Rw, L⟩ := by
 rw [Zhk] at h
 refine hd [.cell 4 46] Tryz.func134 Tryz.ntmps134 fun M0 W0 hN hNR hNL hcalm hu hO hs => ?_
 simp only [Zav]
 refine rg [0, 3, 4] hs ?_
 apply Zab; intro K2 hK2
 obtain ⟨y3, hy3, h⟩ := bind_some h
 apply Zae 2 [4]
 rw [Zaa]; simp +decide only [go_sem, Nat.reduceAdd, ZaF, Zan, Zam]
 (repeat' apply And.intro) <;> first | refine Zaf _ (Zds w0 n _ _ _ (Vl.mk 10 0 0 a0 ([a1]) ([])) _ hy3) (by first | rfl | (simp +decide only [go_sem, Nat.reduceAdd, ZaF, Zan, Zam]; done) | (simp +decide only [go_sem, Nat.reduceAdd, Vl.cs, Ty.cs, ZaF, Zan, Zam]; done)) ?_ | exact cl
 rw [Zaa]; simp +decide only [go_sem, Nat.reduceAdd, ZaF, Zan, Zam]
 (repeat' apply And.intro) <;> first | refine hK2 _ _ ?_ | exact cl
 clear hK2
 exact rt h hs hcalm hO
def Zhn (rec : Ty → Option Vl) (n : Nat)  (x3_k34 : List Vl) : Option Vl :=
 (Zli n x3_k34).bind fun y50 =>
 some (y50)
def ZeT (rec : Ty → Option Vl) (n : Nat) (again_l64 : (List (ByteArray × Vl)) → Int → Option Vl) (x82_l64 : Int) (x4_k69 : List (ByteArray × Vl)) : Option Vl :=
 if I64 (x82_l64 + 1) then
  again_l64 x4_k69 (x82_l64 + 1)
 else none
def Zhm (rec : Ty → Option Vl) (n : Nat)  (x4_k61 : List (ByteArray × Vl)) : Option Vl :=
 (Ziv n x4_k61).bind fun y91 =>
 some (y91)
def Zid (rec : Ty → Option Vl) (n : Nat) (a0 : Ty) : Option Vl :=
 some (Vl.mk a0.kind 0 0 ((⟨#[]⟩ : ByteArray)) ([]) ([]))
def Zga (rec : Ty → Option Vl) (n : Nat) (a0 : Ty) : Nat → (List Vl) → Int → Option Vl
 | 0, _, _ => none
 | m + 1, x3_l37, x50_l37 =>
  if decide (x50_l37 < a0.min) then
   (idx a0.elem 0).bind fun x42 =>
   (rec x42).bind fun y43 =>
   if (x3_l37.length + 1) * 88 ≤ 140737488355328 ∧ x3_l37.length + 1 ≤ 4611686018427387904 then
    if I64 (x50_l37 + 1) then
     (Zga rec n a0 m) (x3_l37 ++ ([y43])) (x50_l37 + 1)
    else none
   else none
  else
   Zhn rec n x3_l37
def Zdi (rec : Ty → Option Vl) (n : Nat) (a0 : Ty) : Nat → (List (ByteArray × Vl)) → Int → Option Vl
 | 0, _, _ => none
 | m + 1, x4_l64, x82_l64 =>
  if decide (x82_l64 < ((a0.fields.length : Int))) then
   (idx a0.fields x82_l64).bind fun x72 =>
   if decide (x72.2.2.1 = 1) then
    (rec x72.2.2.2.1).bind fun y76 =>
    if (x4_l64.length + 1) * 104 ≤ 140737488355328 ∧ x4_l64.length + 1 ≤ 4611686018427387904 then
     ZeT rec n (Zdi rec n a0 m) x82_l64 (x4_l64 ++ ([(x72.2.1, y76)]))
    else none
   else
    if decide (x72.2.2.1 = 3) then
     (idx x72.2.2.2.2 0).bind fun x83 =>
     (ZbN n x83).bind fun y84 =>
     if (x4_l64.length + 1) * 104 ≤ 140737488355328 ∧ x4_l64.length + 1 ≤ 4611686018427387904 then
      ZeT rec n (Zdi rec n a0 m) x82_l64 (x4_l64 ++ ([(x72.2.1, y84)]))
     else none
    else
     ZeT rec n (Zdi rec n a0 m) x82_l64 x4_l64
  else
   Zhm rec n x4_l64
def ZeF (rec : Ty → Option Vl) (n : Nat) (a0 : Ty) (x9_k7 : Bool) : Option Vl :=
 if x9_k7 then
  some (Vl.mk a0.kind ((if a0.min < (if 0 < a0.max then 0 else a0.max) then (if 0 < a0.max then 0 else a0.max) else a0.min)) a0.scale ((⟨#[]⟩ : ByteArray)) ([]) ([]))
 else
  if decide (a0.kind = 4) then
   if decide (0 < ((a0.words.length : Int))) then
    (idx a0.words 0).bind fun x23 =>
    some (Zex x23)
   else
    if 0 ≤ a0.min ∧ a0.min ≤ 9223372036854775807 ∧ ((⟨#[97]⟩ : ByteArray)).size * a0.min.toNat ≤ 140737488355328 then
     some (Zex ((⟨(Lib.repeatL ((⟨#[97]⟩ : ByteArray)).data.toList a0.min.toNat).toArray⟩ : ByteArray)))
    else none
  else
   if decide (a0.kind = 5) then
    if 0 ≤ a0.min ∧ a0.min ≤ 9223372036854775807 ∧ ((⟨#[0]⟩ : ByteArray)).size * a0.min.toNat ≤ 140737488355328 then
     some (ZhM ((⟨(Lib.repeatL ((⟨#[0]⟩ : ByteArray)).data.toList a0.min.toNat).toArray⟩ : ByteArray)))
    else none
   else
    if decide (a0.kind = 8) then
     Zga rec n a0 n ([]) 0
    else
     if decide (a0.kind = 10) then
      (idx a0.fields 0).bind fun x54 =>
      (rec x54.2.2.2.1).bind fun y55 =>
      (Zhk n x54.2.1 y55).bind fun y56 =>
      some (y56)
     else
      if decide (a0.kind = 9) then
       Zdi rec n a0 n ([]) 0
      else
       Zid rec n a0 
def Zkd (rec : Ty → Option Vl) (n : Nat) (a0 : Ty) : Option Vl :=
 if decide (a0.kind = 2) then
  ZeF rec n a0 true
 else
  if decide (a0.kind = 3) then
   ZeF rec n a0 true
  else
   if decide (a0.kind = 6) then
    ZeF rec n a0 true
   else
    ZeF rec n a0 (decide (a0.kind = 7))
def ZhO : Nat → Ty → Option Vl
 | 0, _ => none
 | n + 1, a0 => Zkd (ZhO n) n a0
def Zjr (w0 : World) (F : Ty → Option Vl) : Prop := ∀ (B : List (List AV)) (Rw : List RowA) (L : List LoopA) (a0 : Ty) (r : Vl), F a0 = some r → ACalls Tryz.prog w0 99 [.agg (a0.cs)] ⟨B, Rw, L⟩ fun x st => x = .agg (r.cs) ∧ st = ⟨B, Rw, L⟩
theorem Zmi (w0 : World) (rec : Ty → Option Vl) (ih : Zjr w0 rec) (n : Nat) : Zjr w0 (Zkd rec n) := by
 intro B Rw L a0 r h
 rw [Zkd] at h
 refine hd [.cell 2 46] Tryz.func99 Tryz.ntmps99 fun M0 W0 hN hNR hNL hcalm hu hO hs => ?_
 simp only [Zav]
 refine rg [1, 2] hs ?_
 refine Zai (fun e st => Ck e st B Rw L [(1, true, .box B.length 0), (2, true, .box (B.length + 1) 0)] [a0.cs, [.val (.int .i64 0), .val (.int .i64 0), .val (.int .i64 0), .val (.string ((⟨#[]⟩ : ByteArray))), .list ([]) .full, .list ([]) .full]] [] (Zid rec n a0  = some r)) ?_ ?_
 ·
  intro K4 hK4
  refine rg [1, 2, 8] hs ?_
  apply Zad
  refine Zai (fun e st => ∃ (x9_k7 : Bool), Ck e st B Rw L [(1, true, .box B.length 0), (2, true, .box (B.length + 1) 0), (8, true, .val (.int .i64 a0.kind)), (9, true, .val (.bool x9_k7))] [a0.cs, [.val (.int .i64 0), .val (.int .i64 0), .val (.int .i64 0), .val (.string ((⟨#[]⟩ : ByteArray))), .list ([]) .full, .list ([]) .full]] [] (ZeF rec n a0 x9_k7 = some r)) ?_ ?_
  ·
   intro K8 hK8
   refine rg [1, 2, 8, 9] hs ?_
   refine cnd h hs (fun hs h => ?_) (fun hs h => ?_)
   ·
    refine sk [1, 2, 8, 9] hs hK8 ?_
    exact ⟨true, ([]), Rw, ef hs, ef hs, hO, h⟩
   refine rg [1, 2, 8, 9] hs ?_
   refine cnd h hs (fun hs h => ?_) (fun hs h => ?_)
   ·
    refine sk [1, 2, 8, 9] hs hK8 ?_
    exact ⟨true, ([]), Rw, ef hs, ef hs, hO, h⟩
   refine rg [1, 2, 8, 9] hs ?_
   refine cnd h hs (fun hs h => ?_) (fun hs h => ?_)
   ·
    refine sk [1, 2, 8, 9] hs hK8 ?_
    exact ⟨true, ([]), Rw, ef hs, ef hs, hO, h⟩
   refine rl [1, 2, 8, 9] hs hK8 ?_
   exact ⟨(decide (a0.kind = 7)), ([]), Rw, ef hs, ef hs, hO, h⟩
  ·
   clear h; rintro e st ⟨x9_k7, Xk7, Rk7, rfl, rfl, hO, h⟩
   rw [ZeF] at h
   refine td hN hNR hNL hcalm hO ?_
   refine cnd h hs (fun hs h => ?_) (fun hs h => ?_)
   ·
    have hb15 := hs.1
    apply Zab; intro K16 hK16
    apply Zae 1 [2]
    rw [Zaa]; simp +decide only [go_sem, Nat.reduceAdd, hb15, ZaF, Zan, Zam]
    (repeat' apply And.intro) <;> first | refine hK16 _ _ ?_ | exact cl
    clear hK16
    exact rt h hs hcalm hO
   have hb15 := hs.1
   refine rg [1, 2, 8, 25] hs ?_
   refine cnd h hs (fun hs h => ?_) (fun hs h => ?_)
   ·
    have hb18 := hs.1
    apply Zab; intro K19 hK19
    refine rg [1, 2, 30] hs ?_
    refine cnd h hs (fun hs h => ?_) (fun hs h => ?_)
    ·
     obtain ⟨x23, hx23, h⟩ := bind_some h
     obtain ⟨hx23a, hx23b, hx23c⟩ := Zar hx23
     have hx23d := Zay (f := avS) hx23c
     have hx23e : (a0.words.map avS).getD 0 .junk = _ := hx23d
     have hs := And.intro hx23d hs
     have hs := And.intro hx23e hs
     refine rc 2 [2] hs ?_; intro K22 hK22
     refine Zaf _ (ZiG w0 _ _ _ x23) (hv hs) ?_
     refine ne hs hK22 ?_
     clear hK22
     exact rt h hs hcalm hO
    refine sk [1, 2] hs hK19 ?_
    clear hK19
    obtain ⟨hg25, h⟩ := Zac h
    refine rc 3 [2] hs ?_; intro K24 hK24
    refine Zaf _ (ZjH w0 _ _ _ ((⟨#[97]⟩ : ByteArray)) a0.min hg25) (hv hs) ?_
    refine nc hs ?_
    refine Zaf _ (ZiG w0 _ _ _ ((⟨(Lib.repeatL ((⟨#[97]⟩ : ByteArray)).data.toList a0.min.toNat).toArray⟩ : ByteArray))) (hv hs) ?_
    refine ne hs hK24 ?_
    clear hK24
    exact rt h hs hcalm hO
   have hb18 := hs.1
   refine rg [1, 2, 8, 40] hs ?_
   refine cnd h hs (fun hs h => ?_) (fun hs h => ?_)
   ·
    have hb27 := hs.1
    obtain ⟨hg29, h⟩ := Zac h
    refine rc 3 [2] hs ?_; intro K28 hK28
    refine Zaf _ (ZjH w0 _ _ _ ((⟨#[0]⟩ : ByteArray)) a0.min hg29) (hv hs) ?_
    refine nc hs ?_
    refine Zaf _ (ZnX w0 _ _ _ ((⟨(Lib.repeatL ((⟨#[0]⟩ : ByteArray)).data.toList a0.min.toNat).toArray⟩ : ByteArray))) (hv hs) ?_
    refine ne hs hK28 ?_
    clear hK28
    exact rt h hs hcalm hO
   have hb27 := hs.1
   refine rg [1, 2, 8, 46] hs ?_
   refine cnd h hs (fun hs h => ?_) (fun hs h => ?_)
   ·
    have hb31 := hs.1
    refine rg [1, 2, 3] hs ?_
    refine Zai (fun e st => ∃ (x3_k34 : List Vl) (ox3_k34 : Ev.Own), Ck e st B Rw L [(2, true, .box (B.length + 1) 0), (3, true, .list (x3_k34.map avV) ox3_k34)] [a0.cs, [.val (.int .i64 0), .val (.int .i64 0), .val (.int .i64 0), .val (.string ((⟨#[]⟩ : ByteArray))), .list ([]) .full, .list ([]) .full]] [(6, x3_k34.length, ox3_k34)] (Zhn rec n x3_k34 = some r)) ?_ ?_
    ·
     intro K35 hK35
     refine rg [1, 2, 3, 49, 50] hs ?_
     apply Zad
     refine Zal (fun m e st => ∃ (x3_l37 : List Vl) (x50_l37 : Int) (ox3_l37 : Ev.Own), Ck e st B Rw L [(1, true, .box B.length 0), (2, true, .box (B.length + 1) 0), (3, true, .list (x3_l37.map avV) ox3_l37), (49, true, .val (.int .i64 a0.min)), (50, true, .val (.int .i64 x50_l37))] [a0.cs, [.val (.int .i64 0), .val (.int .i64 0), .val (.int .i64 0), .val (.string ((⟨#[]⟩ : ByteArray))), .list ([]) .full, .list ([]) .full]] [(6, x3_l37.length, ox3_l37)] (Zga rec n a0 m x3_l37 x50_l37 = some r)) n ⟨([]), 0, .full, ([]), Rk7, ef hs, ef hs, Owns.of_eq ((hO).full 6 0) (by first | rfl | simp only [List.length_append, List.length_cons, List.length_nil, List.length_map, Nat.zero_add, Nat.add_zero]), h⟩ ?_
     rintro ml37 e st ⟨x3_l37, x50_l37, ox3_l37, Xl37, Rl37, rfl, rfl, hO, h⟩ Ul37 Vl37
     cases ml37 with
     | zero => cases h
     | succ ml37 =>
     rw [Zga] at h
     have hU := hO.unders
     simp only [List.mem_cons, List.not_mem_nil, or_false, forall_eq_or_imp, forall_eq] at hU
     refine td hN hNR hNL hcalm hO ?_
     refine rg [1, 2, 3, 49, 50, 51] hs ?_
     apply Zab; intro K39 hK39
     refine cnd h hs (fun hs h => ?_) (fun hs h => ?_)
     rotate_left
     ·
      refine sx [2, 3] hs hK35 ?_
      exact ⟨x3_l37, ox3_l37, ([]), Rl37, ef hs, ef hs, Owns.of_eq (hO) (by first | rfl | simp only [List.length_append, List.length_cons, List.length_nil, List.length_map, Nat.zero_add, Nat.add_zero]), h⟩
     refine sk [1, 2, 3, 49, 50] hs hK39 ?_
     clear hK39
     apply Zab; intro K41 hK41
     apply Zad
     obtain ⟨x42, hx42a, hx42b, hx42d, h⟩ := ix avT h
     have hx42e : (a0.elem.map avT).getD 0 .junk = _ := hx42d
     obtain ⟨y43, hy43, h⟩ := bind_some h
     obtain ⟨hg44, h⟩ := Zac h
     obtain ⟨o45, rows46, hO, hap47⟩ := hO.append (P := Tryz.prog) ZkR (by rw [ZgZ]; rfl) (by decide) 1 hg44.1 hg44.2
     replace hap47 := fun (ys : List AV) B L o2 => hap47 (x3_l37.map avV) ys B L o2 (by first | rfl | simp only [List.length_map, List.length_nil, List.length_append, List.length_cons, Nat.zero_add])
     replace hap47 := fun (y : AV) B L o2 => hap47 [y] B L o2 (by first | rfl | simp only [List.length_map, List.length_nil, List.length_cons]) ev
     try simp only [List.mem_singleton, List.mem_cons, List.not_mem_nil, or_false, forall_eq_or_imp, forall_eq, List.map_append, List.map_cons, List.map_nil, Zcn, ZcQ, Zcy, Zcs, Zcw, Zcm, ZbF, ZbK, ZcC, Za8, Za9, ZbE, ZbC, ZbH] at hap47
     have hs := And.intro hx42d hs
     have hs := And.intro hx42e hs
     have hs := And.intro hap47 hs
     refine rk 2 [1, 2, 3, 49, 50] hs ?_
     refine Zaf _ (ih _ _ _ x42 _ hy43) (hv hs) ?_
     refine ne hs hK41 ?_
     clear hK41
     obtain ⟨hg48, h⟩ := Zac h
     refine rl [1, 2, 3, 49, 50] hs (fun e s => Vl37 ml37 e s (Nat.lt_succ_self _)) ?_
     exact ⟨(x3_l37 ++ ([y43])), (x50_l37 + 1), o45, ([]), rows46, ef hs, ef hs, Owns.of_eq (hO) (by first | rfl | simp only [List.length_append, List.length_cons, List.length_nil, List.length_map, Nat.zero_add, Nat.add_zero]), h⟩
    ·
     clear h; rintro e st ⟨x3_k34, ox3_k34, Xk34, Rk34, rfl, rfl, hO, h⟩
     rw [Zhn] at h
     have hU := hO.unders
     simp only [List.mem_cons, List.not_mem_nil, or_false, forall_eq_or_imp, forall_eq] at hU
     refine td hN hNR hNL hcalm hO ?_
     obtain ⟨y50, hy50, h⟩ := bind_some h
     refine rc 2 [2] hs ?_; intro K49 hK49
     refine Zaf _ (Zq2 w0 n _ _ _ x3_k34 _ hy50) (hv hs) ?_
     refine ne hs hK49 ?_
     clear hK49
     exact rt h hs hcalm hO
   have hb31 := hs.1
   refine rg [1, 2, 8, 63] hs ?_
   refine cnd h hs (fun hs h => ?_) (fun hs h => ?_)
   ·
    have hb52 := hs.1
    apply Zab; intro K53 hK53
    obtain ⟨x54, hx54a, hx54b, hx54d, h⟩ := ix Zer h
    have hx54e : (a0.fields.map Zer).getD 0 .junk = _ := hx54d
    obtain ⟨y55, hy55, h⟩ := bind_some h
    obtain ⟨y56, hy56, h⟩ := bind_some h
    apply Zat mix 12 3 1 [2] (by kernel_rfl)
    rw [Zaa]; simp +decide only [go_sem, Nat.reduceAdd, hb15, hb18, hb27, hb31, hb52, hx54d, hx54e]
    have hs := And.intro hx54d hs
    have hs := And.intro hx54e hs
    (repeat' apply And.intro) <;> first | refine Zaf _ (ih _ _ _ x54.2.2.2.1 _ hy55) (hv hs) ?_ | exact cl
    rw [Zaa]; simp +decide only [go_sem, Nat.reduceAdd, hb15, hb18, hb27, hb31, hb52, hx54d, hx54e]
    (repeat' apply And.intro) <;> first | refine Zaf _ (Zmk w0 n _ _ _ x54.2.1 y55 _ hy56) (hv hs) ?_ | exact cl
    rw [Zaa]; simp +decide only [go_sem, Nat.reduceAdd, hb15, hb18, hb27, hb31, hb52, hx54d, hx54e]
    (repeat' with_reducible apply And.intro) <;> first | (rw [Zaa]; simp +decide only [go_sem, Nat.reduceAdd, hb15, hb18, hb27, hb31, hb52, hx54d, hx54e]) | exact cl
    (repeat' apply And.intro) <;> first | refine hK53 _ _ ?_ | exact cl
    clear hK53
    exact rt h hs hcalm hO
   have hb52 := hs.1
   refine rg [1, 2, 77] hs ?_
   refine cnd h hs (fun hs h => ?_) (fun hs h => ?_)
   ·
    have hb58 := hs.1
    refine rg [1, 2, 4] hs ?_
    refine Zai (fun e st => ∃ (x4_k61 : List (ByteArray × Vl)) (ox4_k61 : Ev.Own), Ck e st B Rw L [(2, true, .box (B.length + 1) 0), (4, true, .list (x4_k61.map avF) ox4_k61)] [a0.cs, [.val (.int .i64 0), .val (.int .i64 0), .val (.int .i64 0), .val (.string ((⟨#[]⟩ : ByteArray))), .list ([]) .full, .list ([]) .full]] [(7, x4_k61.length, ox4_k61)] (Zhm rec n x4_k61 = some r)) ?_ ?_
    ·
     intro K62 hK62
     refine rg [2, 4, 80, 81, 82] hs ?_
     apply Zad
     refine Zal (fun m e st => ∃ (x4_l64 : List (ByteArray × Vl)) (x82_l64 : Int) (ox4_l64 : Ev.Own), Ck e st B Rw L [(2, true, .box (B.length + 1) 0), (4, true, .list (x4_l64.map avF) ox4_l64), (80, true, .list (a0.fields.map Zer) .none), (81, true, .val (.int .i64 ((a0.fields.length : Int)))), (82, true, .val (.int .i64 x82_l64))] [a0.cs, [.val (.int .i64 0), .val (.int .i64 0), .val (.int .i64 0), .val (.string ((⟨#[]⟩ : ByteArray))), .list ([]) .full, .list ([]) .full]] [(7, x4_l64.length, ox4_l64)] (Zdi rec n a0 m x4_l64 x82_l64 = some r)) n ⟨([]), 0, .full, ([]), Rk7, ef hs, ef hs, Owns.of_eq ((hO).full 7 0) (by first | rfl | simp only [List.length_append, List.length_cons, List.length_nil, List.length_map, Nat.zero_add, Nat.add_zero]), h⟩ ?_
     rintro ml64 e st ⟨x4_l64, x82_l64, ox4_l64, Xl64, Rl64, rfl, rfl, hO, h⟩ Ul64 Vl64
     cases ml64 with
     | zero => cases h
     | succ ml64 =>
     rw [Zdi] at h
     have hU := hO.unders
     simp only [List.mem_cons, List.not_mem_nil, or_false, forall_eq_or_imp, forall_eq] at hU
     refine td hN hNR hNL hcalm hO ?_
     refine rg [2, 4, 80, 81, 82, 83] hs ?_
     apply Zab; intro K66 hK66
     refine cnd h hs (fun hs h => ?_) (fun hs h => ?_)
     rotate_left
     ·
      have hb67 := hs.1
      refine sx [2, 4] hs hK62 ?_
      exact ⟨x4_l64, ox4_l64, ([]), Rl64, ef hs, ef hs, Owns.of_eq (hO) (by first | rfl | simp only [List.length_append, List.length_cons, List.length_nil, List.length_map, Nat.zero_add, Nat.add_zero]), h⟩
     have hb67 := hs.1
     refine sk [2, 4, 80, 81, 82] hs hK66 ?_
     clear hK66
     refine Zai (fun e st => ∃ (x4_k69 : List (ByteArray × Vl)) (ox4_k69 : Ev.Own), Ck e st B Rw L [(2, true, .box (B.length + 1) 0), (4, true, .list (x4_k69.map avF) ox4_k69), (80, true, .list (a0.fields.map Zer) .none), (81, true, .val (.int .i64 ((a0.fields.length : Int)))), (82, true, .val (.int .i64 x82_l64))] [a0.cs, [.val (.int .i64 0), .val (.int .i64 0), .val (.int .i64 0), .val (.string ((⟨#[]⟩ : ByteArray))), .list ([]) .full, .list ([]) .full]] [(7, x4_k69.length, ox4_k69)] (ZeT rec n (Zdi rec n a0 ml64) x82_l64 x4_k69 = some r)) ?_ ?_
     ·
      intro K70 hK70
      apply Zad
      obtain ⟨x72, hx72, h⟩ := bind_some h
      obtain ⟨hx72a, hx72b, hx72c⟩ := Zar hx72
      have hx72d := Zay (f := Zer) hx72c
      have hs := And.intro hx72d hs
      refine rg [2, 4, 6, 80, 81, 82] hs ?_
      refine rg [2, 4, 6, 80, 81, 82, 87] hs ?_
      apply Zad
      refine rg [2, 4, 6, 80, 81, 82, 87, 88] hs ?_
      refine cnd h hs (fun hs h => ?_) (fun hs h => ?_)
      ·
       have hb75 := hs.1
       obtain ⟨y76, hy76, h⟩ := bind_some h
       obtain ⟨hg77, h⟩ := Zac h
       obtain ⟨o78, rows79, hO, hap80⟩ := hO.append (P := Tryz.prog) Zok (by rw [Zi5]; rfl) (by decide) 1 hg77.1 hg77.2
       replace hap80 := fun (ys : List AV) B L o2 => hap80 (x4_l64.map avF) ys B L o2 (by first | rfl | simp only [List.length_map, List.length_nil, List.length_append, List.length_cons, Nat.zero_add])
       replace hap80 := fun (y : AV) B L o2 => hap80 [y] B L o2 (by first | rfl | simp only [List.length_map, List.length_nil, List.length_cons]) ev
       try simp only [List.mem_singleton, List.mem_cons, List.not_mem_nil, or_false, forall_eq_or_imp, forall_eq, List.map_append, List.map_cons, List.map_nil, Zcn, ZcQ, Zcy, Zcs, Zcw, Zcm, ZbF, ZbK, ZcC, Za8, Za9, ZbE, ZbC, ZbH] at hap80
       apply Zat mix 8 2 1 [2, 4, 80, 81, 82] (by kernel_rfl)
       rw [Zaa]; simp +decide only [go_sem, Nat.reduceAdd, hb15, hb18, hb27, hb31, hb52, hb58, hb67, hx72d, hb75, hap80, ZaF, Zan, Zam]
       (repeat' apply And.intro) <;> first | refine Zaf _ (ih _ _ _ x72.2.2.2.1 _ hy76) (by first | rfl | (simp +decide only [go_sem, Nat.reduceAdd, hb15, hb18, hb27, hb31, hb52, hb58, hb67, hx72d, hb75, hap80, ZaF, Zan, Zam]; done) | (simp +decide only [go_sem, Nat.reduceAdd, Vl.cs, Ty.cs, hb15, hb18, hb27, hb31, hb52, hb58, hb67, hx72d, hb75, hap80, ZaF, Zan, Zam]; done)) ?_ | exact cl
       rw [Zaa]; simp +decide only [go_sem, Nat.reduceAdd, hb15, hb18, hb27, hb31, hb52, hb58, hb67, hx72d, hb75, hap80, ZaF, Zan, Zam]
       (repeat' with_reducible apply And.intro) <;> first | (rw [Zaa]; simp +decide only [go_sem, Nat.reduceAdd, hb15, hb18, hb27, hb31, hb52, hb58, hb67, hx72d, hb75, hap80, ZaF, Zan, Zam]) | exact cl
       have hs := And.intro hap80 hs
       (repeat' apply And.intro) <;> first | refine hK70 _ _ ⟨(x4_l64 ++ ([(x72.2.1, y76)])), o78, ([.val (.int .i64 x72.1) :: (.val (.string x72.2.1) :: (.val (.int .i64 x72.2.2.1) :: ((x72.2.2.2.1.cs) ++ ([.list (x72.2.2.2.2.map avV) .none]))))]), rows79, ef hs, ef hs, Owns.of_eq (hO) (by first | rfl | simp only [List.length_append, List.length_cons, List.length_nil, List.length_map, Nat.zero_add, Nat.add_zero]), h⟩ | exact cl
      have hb75 := hs.1
      refine rg [2, 4, 6, 80, 81, 82, 99] hs ?_
      refine cnd h hs (fun hs h => ?_) (fun hs h => ?_)
      ·
       have hb82 := hs.1
       obtain ⟨x83, hx83a, hx83b, hx83d, h⟩ := ix avV h
       have hx83e : (x72.2.2.2.2.map avV).getD 0 .junk = _ := hx83d
       obtain ⟨y84, hy84, h⟩ := bind_some h
       obtain ⟨hg85, h⟩ := Zac h
       obtain ⟨o86, rows87, hO, hap88⟩ := hO.append (P := Tryz.prog) Zok (by rw [Zi5]; rfl) (by decide) 1 hg85.1 hg85.2
       replace hap88 := fun (ys : List AV) B L o2 => hap88 (x4_l64.map avF) ys B L o2 (by first | rfl | simp only [List.length_map, List.length_nil, List.length_append, List.length_cons, Nat.zero_add])
       replace hap88 := fun (y : AV) B L o2 => hap88 [y] B L o2 (by first | rfl | simp only [List.length_map, List.length_nil, List.length_cons]) ev
       try simp only [List.mem_singleton, List.mem_cons, List.not_mem_nil, or_false, forall_eq_or_imp, forall_eq, List.map_append, List.map_cons, List.map_nil, Zcn, ZcQ, Zcy, Zcs, Zcw, Zcm, ZbF, ZbK, ZcC, Za8, Za9, ZbE, ZbC, ZbH] at hap88
       apply Zat mix 10 2 1 [2, 4, 80, 81, 82] (by kernel_rfl)
       rw [Zaa]; simp +decide only [go_sem, Nat.reduceAdd, hb15, hb18, hb27, hb31, hb52, hb58, hb67, hx72d, hb75, hb82, hx83d, hx83e, hap88, ZaF, Zan, Zam]
       (repeat' apply And.intro) <;> first | refine Zaf _ (Zds w0 n _ _ _ x83 _ hy84) (by first | rfl | (simp +decide only [go_sem, Nat.reduceAdd, hb15, hb18, hb27, hb31, hb52, hb58, hb67, hx72d, hb75, hb82, hx83d, hx83e, hap88, ZaF, Zan, Zam]; done) | (simp +decide only [go_sem, Nat.reduceAdd, Vl.cs, Ty.cs, hb15, hb18, hb27, hb31, hb52, hb58, hb67, hx72d, hb75, hb82, hx83d, hx83e, hap88, ZaF, Zan, Zam]; done)) ?_ | exact cl
       rw [Zaa]; simp +decide only [go_sem, Nat.reduceAdd, hb15, hb18, hb27, hb31, hb52, hb58, hb67, hx72d, hb75, hb82, hx83d, hx83e, hap88, ZaF, Zan, Zam]
       (repeat' with_reducible apply And.intro) <;> first | (rw [Zaa]; simp +decide only [go_sem, Nat.reduceAdd, hb15, hb18, hb27, hb31, hb52, hb58, hb67, hx72d, hb75, hb82, hx83d, hx83e, hap88, ZaF, Zan, Zam]) | exact cl
       have hs := And.intro hx83d hs
       have hs := And.intro hx83e hs
       have hs := And.intro hap88 hs
       (repeat' apply And.intro) <;> first | refine hK70 _ _ ⟨(x4_l64 ++ ([(x72.2.1, y84)])), o86, ([.val (.int .i64 x72.1) :: (.val (.string x72.2.1) :: (.val (.int .i64 x72.2.2.1) :: ((x72.2.2.2.1.cs) ++ ([.list (x72.2.2.2.2.map avV) .none]))))]), rows87, ef hs, ef hs, Owns.of_eq (hO) (by first | rfl | simp only [List.length_append, List.length_cons, List.length_nil, List.length_map, Nat.zero_add, Nat.add_zero]), h⟩ | exact cl
      have hb82 := hs.1
      refine sk [2, 4, 80, 81, 82] hs hK70 ?_
      exact ⟨x4_l64, ox4_l64, ([.val (.int .i64 x72.1) :: (.val (.string x72.2.1) :: (.val (.int .i64 x72.2.2.1) :: ((x72.2.2.2.1.cs) ++ ([.list (x72.2.2.2.2.map avV) .none]))))]), Rl64, ef hs, ef hs, Owns.of_eq (hO) (by first | rfl | simp only [List.length_append, List.length_cons, List.length_nil, List.length_map, Nat.zero_add, Nat.add_zero]), h⟩
     ·
      clear h; rintro e st ⟨x4_k69, ox4_k69, Xk69, Rk69, rfl, rfl, hO, h⟩
      rw [ZeT] at h
      have hU := hO.unders
      simp only [List.mem_cons, List.not_mem_nil, or_false, forall_eq_or_imp, forall_eq] at hU
      refine td hN hNR hNL hcalm hO ?_
      obtain ⟨hg89, h⟩ := Zac h
      refine rl [2, 4, 80, 81, 82] hs (fun e s => Vl64 ml64 e s (Nat.lt_succ_self _)) ?_
      exact ⟨x4_k69, (x82_l64 + 1), ox4_k69, ([]), Rk69, ef hs, ef hs, Owns.of_eq (hO) (by first | rfl | simp only [List.length_append, List.length_cons, List.length_nil, List.length_map, Nat.zero_add, Nat.add_zero]), h⟩
    ·
     clear h; rintro e st ⟨x4_k61, ox4_k61, Xk61, Rk61, rfl, rfl, hO, h⟩
     rw [Zhm] at h
     have hU := hO.unders
     simp only [List.mem_cons, List.not_mem_nil, or_false, forall_eq_or_imp, forall_eq] at hU
     refine td hN hNR hNL hcalm hO ?_
     obtain ⟨y91, hy91, h⟩ := bind_some h
     refine rc 2 [2] hs ?_; intro K90 hK90
     refine Zaf _ (Znv w0 n _ _ _ x4_k61 _ hy91) (hv hs) ?_
     refine ne hs hK90 ?_
     clear hK90
     exact rt h hs hcalm hO
   have hb58 := hs.1
   refine sk [1, 2] hs hK4 ?_
   exact ⟨([]), Rk7, ef hs, ef hs, hO, h⟩
 ·
  clear h; rintro e st ⟨Xk3, Rk3, rfl, rfl, hO, h⟩
  rw [Zid] at h
  refine td hN hNR hNL hcalm hO ?_
  apply Zab; intro K92 hK92
  apply Zae 1 [2]
  rw [Zaa]; simp +decide only [go_sem, Nat.reduceAdd, ZaF, Zan, Zam]
  (repeat' apply And.intro) <;> first | refine hK92 _ _ ?_ | exact cl
  clear hK92
  exact rt h hs hcalm hO
theorem ZkE (w0 : World) : ∀ n : Nat, Zjr w0 (ZhO n)
 | 0 => fun _ _ _ _ _ h => (nomatch h)
 | n + 1 => Zmi w0 (ZhO n) (ZkE w0 n) n
def Zka (n : Nat) (a0 : Ty) : Option (Vl × Int) :=
 (ZcM n a0).bind fun y4 =>
 if !(decide (y4 = 0)) then
  some ((Vl.mk 0 0 0 ((⟨#[]⟩ : ByteArray)) ([]) ([]), y4))
 else
  (ZhO n a0).bind fun y9 =>
  some ((y9, 0))
theorem Zo2 (w0 : World) (hT : Lib.Utf8Tabs 0 1 w0) (n : Nat) (B : List (List AV)) (Rw : List RowA) (L : List LoopA) (a0 : Ty) (r : Vl × Int) (h : Zka n a0 = some r) :
  ACalls Tryz.prog w0 48 [.agg (a0.cs)] ⟨B, Rw, L⟩ fun x st => x = .tup [.agg (r.1.cs), .val (.int .i64 r.2)] ∧ st = ⟨B, Rw, L⟩ := by
 rw [Zka] at h
 refine hd [.cell 2 46, .tmp 3] Tryz.func48 Tryz.ntmps48 fun M0 W0 hN hNR hNL hcalm hu hO hs => ?_
 simp only [Zav]
 refine rg [1, 2] hs ?_
 apply Zab; intro K2 hK2
 obtain ⟨y4, hy4, h⟩ := bind_some h
 refine rc 2 [1, 2, 4] hs ?_; intro K3 hK3
 refine Zaf _ (ZcY w0 hT n _ _ _ a0 _ hy4) (hv hs) ?_
 refine ne hs hK3 ?_
 clear hK3
 refine rg [1, 2, 4, 8] hs ?_
 refine cnd h hs (fun hs h => ?_) (fun hs h => ?_)
 ·
  have hb6 := hs.1
  apply Zab; intro K7 hK7
  apply Zae 1 [2, 3]
  rw [Zaa]; simp +decide only [go_sem, Nat.reduceAdd, hb6, ZaF, Zan, Zam]
  (repeat' apply And.intro) <;> first | refine hK7 _ _ ?_ | exact cl
  clear hK7
  exact rt h hs hcalm hO
 have hb6 := hs.1
 refine sk [1, 2] hs hK2 ?_
 clear hK2
 obtain ⟨y9, hy9, h⟩ := bind_some h
 refine rc 2 [2, 3] hs ?_; intro K8 hK8
 refine Zaf _ (ZkE w0 n _ _ _ a0 _ hy9) (hv hs) ?_
 refine ne hs hK8 ?_
 clear hK8
 exact rt h hs hcalm hO
end Go.Proofs.YtgpmlelfkjfbiaaGreatDoor
