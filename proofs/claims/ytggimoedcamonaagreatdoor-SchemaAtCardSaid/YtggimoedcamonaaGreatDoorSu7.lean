/-
  Part 7 of the proof: rules and walks that the claim's last text uses.
-/
import Derived.Test.YtggimoedcamonaaGreatDoorSu6
set_option linter.unusedSimpArgs false
set_option linter.unusedVariables false
set_option maxRecDepth 100000
set_option maxHeartbeats 4000000
namespace Go.Proofs.YtggimoedcamonaaGreatDoor
open Go Go.RowKit Go.Ev
theorem ZgW : ∀ (k : Nat) (v : Vl) (lv : Nat), v.size ≤ k → (Zgj lv v).length ≤ v.size
 | 0, v, lv, h => absurd h (by have := v.size_eq; omega)
 | k + 1, v, lv, h => by
  have h1 := ZmJ v
  rw [Zht, List.length_cons, List.length_flatMap]
  have : ((Zba v).map fun x => (Zgj (lv + 1) x).length).sum ≤ ((Zba v).map Vl.size).sum := by
   have hall : ∀ x ∈ Zba v, (Zgj (lv + 1) x).length ≤ x.size := fun x hx => ZgW k x (lv + 1) (by have := ZeA hx; omega)
   clear h1
   generalize Zba v = l at hall
   induction l with
   | nil => simp
   | cons a r ih =>
    have := hall a (List.mem_cons_self ..)
    have := ih fun x hx => hall x (List.mem_cons_of_mem _ hx)
    simp only [List.map_cons, List.sum_cons]
    omega
  omega
theorem Zou : ∀ (l : List (Nat × Vl)) (c : Int), 0 ≤ c → c + l.length ≤ 1000000000 → Zd4 l c = some (c + l.length)
 | [], c, _, _ => by rw [Zd4]; simp
 | p :: r, c, h1, h2 => by
  rw [List.length_cons] at h2
  rw [Zd4, if_pos (by unfold I64; omega), Zou r (c + 1) (by omega) (by omega), List.length_cons]
  congr 1
  omega
theorem Zs1 (v : Vl) (hs : v.size < 1000000) : Zid v = some ((Zgj 1 v).length : Int) := by
 have := ZgW v.size v 1 (Nat.le_refl _)
 rw [Zid, if_pos (by omega), Zou _ 0 (by omega) (by omega)]
 congr 1
 omega
theorem ZmC (rec : Vl → Option Int) (n : Nat) (ys : List Vl) (f : Vl → Nat) (hr : ∀ x ∈ ys, rec x = some (f x : Int)) (hl : ys.length ≤ 1000000) : ∀ (k m i c : Nat), i + k = ys.length → k < m → c + ((ys.drop i).map f).sum ≤ 1000000 → ZdM rec n ys m (c : Int) i = some ((c + ((ys.drop i).map f).sum : Nat) : Int)
 | k, 0, i, c, _, h, _ => absurd h (Nat.not_lt_zero _)
 | 0, m + 1, i, c, hi, _, _ => by
  rw [ZdM, Zao, decide_eq_false (show ¬ i < ys.length by omega), List.drop_eq_nil_of_le (by omega)]
  rfl
 | k + 1, m + 1, i, c, hi, hm, hc => by
  have hlt : i < ys.length := by omega
  rw [List.drop_eq_getElem_cons hlt, List.map_cons, List.sum_cons] at hc
  rw [ZdM, Zao, decide_eq_true hlt]
  simp only [if_true, Zan hlt, Option.bind_some, hr _ (List.getElem_mem hlt)]
  rw [if_pos (by unfold I64; omega), if_pos (Zaq (by omega)), List.drop_eq_getElem_cons hlt, List.map_cons, List.sum_cons, ← Nat.add_assoc]
  exact ZmC rec n ys f hr hl k m (i + 1) (c + f ys[i]) (by omega) (by omega) (by omega)
theorem ZlW : ∀ (n : Nat) (v : Vl) (lv : Nat), v.size < n → v.size ≤ 900000 → ZeG n v = some ((Zgj lv v).length : Int)
 | 0, v, lv, h, _ => absurd h (Nat.not_lt_zero _)
 | n + 1, v, lv, h, hs => by
  have h1 := ZgW v.size v lv (Nat.le_refl _)
  have hp := (Zfy v).2.2
  have e := ZmC (ZeG n) n (Zba v) (fun x => (Zgj (lv + 1) x).length) (fun x hx => ZlW n x (lv + 1) (by have := ZeA hx; omega) (by have := ZeA hx; omega)) (by omega) (Zba v).length n 0 1 (by omega) (by omega)
  rw [Zht, List.length_cons, List.length_flatMap] at h1
  rw [List.drop_zero] at e
  have e2 := e (by omega)
  rw [ZeG, Zh2, ZkE n v (by omega) (by omega), Option.bind_some, Zht, List.length_cons, List.length_flatMap, Nat.add_comm]
  exact e2
def RL (a b : Int) : Prop := a = b ∨ (4096 < a ∧ 4096 < b)
def LB (a b : Int) : Prop := 1 ≤ a ∧ 1 ≤ b ∧ a ≤ 4097 ∧ b ≤ 5000 ∧ RL a b
theorem Zob {a b : Int} (h1 : 1 ≤ a) (h2 : 1 ≤ b) (h : RL a b) : LB (if 4097 < a then 4097 else a) (if 5000 < b then 5000 else b) := by
 unfold LB RL at *
 split <;> split <;> omega
theorem ZkH (r1 r2 : Ty → Option Int) (n : Nat) (t : Ty) (hn : t.size + 2000 ≤ n) (ht : t.small) (hk : t.kind = 9) (hg : ∀ x ∈ t.fields, ZkN t.kind x)
  (hr : ∀ p ∈ t.fields, ∃ a b, r1 p.2.2.2.1 = some a ∧ r2 p.2.2.2.1 = some b ∧ LB a b) : ∀ (k m i : Nat) (a b : Int), i + k = t.fields.length → k < m → 1 ≤ a → 1 ≤ b → a ≤ 5000 * (i + 1) → b ≤ 5000 * (i + 1) → RL a b →
  ∃ a' b', ZaP r1 n t m a i = some a' ∧ ZaW r2 n t m b i = some b' ∧ LB a' b'
 | k, 0, i, _, _, _, h, _, _, _, _, _ => absurd h (Nat.not_lt_zero _)
 | 0, m + 1, i, a, b, hi, _, h1, h2, _, _, h => by
  rw [ZaP, ZaW, Zao, decide_eq_false (show ¬ i < t.fields.length by omega)]
  exact ⟨_, _, rfl, rfl, Zob h1 h2 h⟩
 | k + 1, m + 1, i, a, b, hi, hm, h1, h2, h3, h4, h => by
  have hlt : i < t.fields.length := by omega
  have hts := ht.1
  have hl := t.lens
  rw [ZaP, ZaW, Zao, decide_eq_true hlt, decide_eq_true hk]
  simp only [if_true, Bool.true_or, Bool.and_self, Zan hlt, Option.bind_some]
  have go : ∀ (c d : Int), 1 ≤ c → 1 ≤ d → c ≤ 5000 * ((i : Int) + 1 + 1) → d ≤ 5000 * ((i : Int) + 1 + 1) → RL c d → ∃ a' b', ZbA r1 n (ZaP r1 n t m) i c = some a' ∧ ZbX r2 n (ZaW r2 n t m) i d = some b' ∧ LB a' b' := fun c d q1 q2 q3 q4 q5 => by
   rw [ZbA, ZbX, if_pos (Zaq (by omega)), if_pos (Zaq (by omega))]
   exact ZkH r1 r2 n t hn ht hk hg hr k m (i + 1) c d (by omega) (by omega) q1 q2 (by push_cast; exact q3) (by push_cast; exact q4) q5
  obtain ⟨g1, g2, g3, g4⟩ := hg _ (List.getElem_mem hlt)
  by_cases n1 : t.fields[i].2.2.1 = 1
  ·
   obtain ⟨c, d, e1, e2, p1, p2, p3, p4, p5⟩ := hr _ (List.getElem_mem hlt)
   rw [decide_eq_true n1]
   simp only [if_true, e1, e2, Option.bind_some]
   rw [if_pos (by unfold I64; omega), if_pos (by unfold I64; omega)]
   exact go _ _ (by omega) (by omega) (by omega) (by omega) (by unfold RL at *; omega)
  rw [decide_eq_false n1]
  simp only [Bool.false_eq_true, if_false]
  by_cases n3 : t.fields[i].2.2.1 = 3
  ·
   have hd := g3 n3
   have hi0 : idx t.fields[i].2.2.2.2 0 = some t.fields[i].2.2.2.2[0] := Zan (k := 0) (by omega)
   obtain ⟨_, o2, o3, o4⟩ := (t.ok_eq.1 ht.2.2).2.2.2 _ (List.getElem_mem hlt)
   obtain ⟨v1, v2, v3⟩ := o4 _ (List.getElem_mem (show 0 < t.fields[i].2.2.2.2.length by omega))
   have hp := ZgW _ t.fields[i].2.2.2.2[0] 1 (Nat.le_refl _)
   rw [decide_eq_true n3]
   simp only [if_true, hi0, Option.bind_some, Zs1 _ (show t.fields[i].2.2.2.2[0].size < 1000000 by omega), ZlW n t.fields[i].2.2.2.2[0] 1 (by omega) (by omega)]
   rw [if_pos (by unfold I64; omega), if_pos (by unfold I64; omega)]
   exact go _ _ (by omega) (by omega) (by omega) (by omega) (by unfold RL at *; omega)
  ·
   rw [decide_eq_false n3]
   simp only [Bool.false_eq_true, if_false]
   exact go a b h1 h2 (by omega) (by omega) h
theorem Zxi {m a b : Int} (h1 : 1 ≤ m) (h2 : m ≤ 256) (h : LB a b) : a ≤ m * a ∧ b ≤ m * b ∧ m * a ≤ 256 * a ∧ m * b ≤ 256 * b ∧ RL (1 + m * a) (1 + m * b) := by
 obtain ⟨p1, p2, p3, p4, p5⟩ := h
 have q1 : 0 ≤ (m - 1) * a := Int.mul_nonneg (by omega) (by omega)
 have q2 : 0 ≤ (m - 1) * b := Int.mul_nonneg (by omega) (by omega)
 have q3 : 0 ≤ (256 - m) * a := Int.mul_nonneg (by omega) (by omega)
 have q4 : 0 ≤ (256 - m) * b := Int.mul_nonneg (by omega) (by omega)
 rw [Int.sub_mul] at q1 q2 q3 q4
 refine ⟨by omega, by omega, by omega, by omega, ?_⟩
 rcases p5 with rfl | p5
 ·
  exact .inl rfl
 ·
  exact .inr (by omega)
theorem ZfW : ∀ (n : Nat) (t : Ty), t.size + 2001 ≤ n → t.small → t.Good → ∃ a b, Zb7 n t = some a ∧ Zc9 n t = some b ∧ LB a b
 | 0, t, h, _, _ => by omega
 | n + 1, t, h, ht, gt => by
  have hl := t.lens
  have hts := ht.1
  obtain ⟨f1, f2, f3, f4, f5, f6⟩ := ZkD (Zlo gt)
  rw [Zb7, Zes, Zc9, Zg3]
  have one : LB (if (4097 : Int) < 1 then 4097 else 1) (if (5000 : Int) < 1 then 5000 else 1) := Zob (by decide) (by decide) (.inl rfl)
  have nof : t.fields.length = 0 → ∀ c, ZcB (Zc9 n) n t c = some (if 5000 < c then 5000 else c) := fun q c => by
   obtain ⟨n', rfl⟩ : ∃ k, n = k + 1 := ⟨n - 1, by omega⟩
   rw [ZcB, ZaW, q]; rfl
  by_cases k8 : t.kind = 8
  ·
   obtain ⟨z1, z2, z3⟩ := f3 k8
   have hf0 := f4 (by omega) (by omega)
   have he2 : idx t.elem 0 = some t.elem[0] := Zan (k := 0) (by omega)
   rw [decide_eq_true k8]
   simp only [if_true, Bool.true_and]
   by_cases hm : 0 < t.min
   ·
    have hem := List.getElem_mem (show 0 < t.elem.length by omega)
    have := t.elem_size _ hem
    obtain ⟨a, b, e1, e2, hb⟩ := ZfW n t.elem[0] (by omega) (Ty.small_elem ht hem) (ZgF gt hem)
    obtain ⟨q1, q2, q3, q4, q5⟩ := Zxi (show 1 ≤ t.min by omega) z3 hb
    obtain ⟨p1, p2, p3, p4, _⟩ := hb
    rw [decide_eq_true hm]
    simp only [if_true, he2, Option.bind_some, e1, e2]
    rw [if_pos (by unfold I64; omega), if_pos (by unfold I64; omega), if_pos (by unfold I64; omega), if_pos (by unfold I64; omega), nof hf0]
    exact ⟨_, _, rfl, rfl, Zob (by omega) (by omega) q5⟩
   ·
    rw [decide_eq_false hm]
    simp only [Bool.false_eq_true, if_false]
    rw [nof hf0]
    exact ⟨_, _, rfl, rfl, one⟩
  rw [decide_eq_false k8]
  simp only [Bool.false_eq_true, if_false, Bool.false_and]
  by_cases k10 : t.kind = 10
  ·
   have hf := f5 k10
   have hfm := List.getElem_mem hf
   have hi0 : idx t.fields 0 = some t.fields[0] := Zan (k := 0) hf
   have hnd := (f6 _ hfm).2.1 k10
   have := t.field_size _ hfm
   obtain ⟨a, b, e1, e2, p1, p2, p3, p4, p5⟩ := ZfW n t.fields[0].2.2.2.1 (by omega) (Ty.small_field ht hfm) (ZeB gt hfm)
   obtain ⟨n', rfl⟩ : ∃ k, n = k + 2 := ⟨n - 2, by omega⟩
   rw [decide_eq_true k10]
   simp only [if_true, hi0, Option.bind_some, e1]
   rw [if_pos (by unfold I64; omega), ZcB, ZaW, if_pos (by simp; omega), hi0]
   simp only [Option.bind_some]
   rw [decide_eq_true hnd]
   simp only [if_true, e2, Option.bind_some]
   rw [if_pos (by unfold I64; omega), ZbX, if_pos (by decide), ZaW, if_neg (by simp [k10])]
   exact ⟨_, _, rfl, rfl, Zob (by omega) (by omega) (by unfold RL at *; omega)⟩
  rw [decide_eq_false k10]
  simp only [Bool.false_eq_true, if_false]
  by_cases k9 : t.kind = 9
  ·
   rw [decide_eq_true k9]
   simp only [if_true, ZcB]
   exact ZkH (Zb7 n) (Zc9 n) n t (by omega) ht k9 f6 (fun p hp => by
    have := t.field_size p hp
    exact ZfW n p.2.2.2.1 (by omega) (Ty.small_field ht hp) (ZeB gt hp)) t.fields.length n 0 1 1 (by omega) (by omega) (by decide) (by decide) (by decide) (by decide) (.inl rfl)
  ·
   rw [decide_eq_false k9]
   simp only [Bool.false_eq_true, if_false]
   rw [nof (f4 k9 k10)]
   exact ⟨_, _, rfl, rfl, one⟩
theorem Zud {a b c d : Int} (h : LB a b) (k : LB c d) : LB (if a < c then c else a) (if b < d then d else b) := by
 unfold LB RL at *
 split <;> split <;> omega
theorem Zub (r1 r2 : Ty → Option Int) (n : Nat) (t : Ty) (hl : t.fields.length ≤ 1000000000) (hr : ∀ p ∈ t.fields, ∃ a b, r1 p.2.2.2.1 = some a ∧ r2 p.2.2.2.1 = some b ∧ LB a b) : ∀ (k m i : Nat) (a b : Int), i + k = t.fields.length → k < m → LB a b →
  ∃ a' b', Za7 r1 n t m a i = some a' ∧ Zbx r2 n t m b i = some b' ∧ LB a' b'
 | k, 0, i, _, _, _, h, _ => absurd h (Nat.not_lt_zero _)
 | 0, m + 1, i, a, b, hi, _, h => by
  rw [Za7, Zbx, Zao, decide_eq_false (show ¬ i < t.fields.length by omega)]
  exact ⟨_, _, rfl, rfl, h⟩
 | k + 1, m + 1, i, a, b, hi, hm, h => by
  have hlt : i < t.fields.length := by omega
  obtain ⟨c, d, e1, e2, p⟩ := hr _ (List.getElem_mem hlt)
  rw [Za7, Zbx, Zao, decide_eq_true hlt]
  rw [if_pos rfl, if_pos rfl, Zan hlt, Option.bind_some, Option.bind_some, e1, e2, Option.bind_some, Option.bind_some]
  rw [if_pos (Zaq (by omega)), if_pos (Zaq (by omega))]
  exact Zub r1 r2 n t hl hr k m (i + 1) _ _ (by omega) (by omega) (Zud h p)
theorem Zwe (r1 r2 : Ty → Option Int) (n : Nat) (t : Ty) (hl : t.fields.length ≤ 1000000000) (hn : t.fields.length < n) (hl2 : t.elem.length ≤ 1000000000) (hr : ∀ p ∈ t.fields, ∃ a b, r1 p.2.2.2.1 = some a ∧ r2 p.2.2.2.1 = some b ∧ LB a b)
  (hr2 : ∀ p ∈ t.elem, ∃ a b, r1 p = some a ∧ r2 p = some b ∧ LB a b) : ∀ (k m i : Nat) (a b : Int), i + k = t.elem.length → k < m → LB a b →
  ∃ a' b', Zbb r1 n t m a i = some a' ∧ ZbJ r2 n t m b i = some b' ∧ LB a' b'
 | k, 0, i, _, _, _, h, _ => absurd h (Nat.not_lt_zero _)
 | 0, m + 1, i, a, b, hi, _, h => by
  rw [Zbb, ZbJ, Zao, decide_eq_false (show ¬ i < t.elem.length by omega)]
  simp only [Bool.false_eq_true, if_false, ZcL, ZdW]
  exact Zub r1 r2 n t hl hr t.fields.length n 0 a b (by omega) hn h
 | k + 1, m + 1, i, a, b, hi, hm, h => by
  have hlt : i < t.elem.length := by omega
  obtain ⟨c, d, e1, e2, p⟩ := hr2 _ (List.getElem_mem hlt)
  rw [Zbb, ZbJ, Zao, decide_eq_true hlt]
  rw [if_pos rfl, if_pos rfl, Zan hlt, Option.bind_some, Option.bind_some, e1, e2, Option.bind_some, Option.bind_some]
  rw [if_pos (Zaq (by omega)), if_pos (Zaq (by omega))]
  exact Zwe r1 r2 n t hl hn hl2 hr hr2 k m (i + 1) _ _ (by omega) (by omega) (Zud h p)
theorem Zfn : ∀ (n : Nat) (t : Ty), t.size + 2002 ≤ n → t.small → t.Good → ∃ a b, Zbl n t = some a ∧ Zb8 n t = some b ∧ LB a b
 | 0, t, h, _, _ => by omega
 | n + 1, t, h, ht, gt => by
  have hl := t.lens
  have hts := ht.1
  obtain ⟨a, b, e1, e2, hb⟩ := ZfW n t (by omega) ht gt
  rw [Zbl, ZcV, Zb8, Zer, e1, e2]
  exact Zwe (Zbl n) (Zb8 n) n t (by omega) (by omega) (by omega) (fun p hp => by
   have := t.field_size p hp
   exact Zfn n _ (by omega) (Ty.small_field ht hp) (ZeB gt hp)) (fun p hp => by
   have := t.elem_size p hp
   exact Zfn n _ (by omega) (Ty.small_elem ht hp) (ZgF gt hp)) t.elem.length n 0 a b (by omega) (by omega) hb
theorem Zrc (n : Nat) (t : Ty) (hn : 3000 ≤ n) (ht : t.small) : ∃ c, Zea n t = some c ∧ Zfw n t = some c ∧ (c = 0 → t.Good) := by
 have hts := ht.1
 obtain ⟨e, l1, l2, e1, e2, e3⟩ := Zhq n t 1 4096 (by omega) ht (by decide) (by decide) (by decide) (by decide)
 rw [Zea, Zfw, e1, e2]
 simp only [Option.bind_some]
 by_cases h : e = 0
 ·
  obtain ⟨_, _, _, g⟩ := e3 h
  have gt : t.Good := g t (by simp)
  obtain ⟨a, b, q1, q2, p1, p2, p3, p4, p5⟩ := Zfn n t (by omega) ht gt
  rw [decide_eq_true h, q1, q2]
  simp only [Bool.not_true, Bool.false_eq_true, if_false, Option.bind_some]
  by_cases c : 4096 < a
  ·
   have c2 : 4096 < b := by unfold RL at p5; omega
   rw [decide_eq_true c, decide_eq_true c2]
   exact ⟨9, rfl, rfl, fun q => absurd q (by decide)⟩
  ·
   have c2 : ¬ 4096 < b := by unfold RL at p5; omega
   rw [decide_eq_false c, decide_eq_false c2]
   exact ⟨0, rfl, rfl, fun _ => gt⟩
 ·
  rw [decide_eq_false h]
  exact ⟨e, rfl, rfl, fun q => absurd q h⟩
theorem Zja {s : ByteArray} (h : Zcf s = true) : s.size ≤ 32 := by
 unfold Zcf Zsl at h
 simp only [Bool.and_eq_true, decide_eq_true_eq] at h
 have : s.size = s.data.toList.length := by simp
 omega
theorem ZqD (k : Int) : ∀ (l b : List TF), ZeE k b l = 0 → ∀ x ∈ l, ∃ b', ZiG k b' x = 0
 | [], _, _, x, hx => absurd hx (by simp)
 | y :: r, b, h, x, hx => by
  rw [ZeE] at h
  by_cases q : ZiG k b y = 0
  ·
   rw [if_pos q] at h
   rcases List.mem_cons.1 hx with rfl | hx
   ·
    exact ⟨b, q⟩
   ·
    exact ZqD k r _ h x hx
  ·
   rw [if_neg q] at h; exact absurd h q
theorem Zno {k : Int} {b : List TF} {x : TF} (h : ZiG k b x = 0) : Zcf x.2.1 = true ∧ (1 ≤ x.1 ∧ x.1 ≤ 9999) ∧ (1 ≤ x.2.2.1 ∧ x.2.2.1 ≤ 3) ∧ (k = 10 → x.2.2.1 = 1) ∧ (x.2.2.1 = 3 → x.2.2.2.2.length = 1) ∧ (x.2.2.1 ≠ 3 → x.2.2.2.2 = []) := by
 unfold ZiG at h
 by_cases h1 : Zcf x.2.1 = true
 ·
  rw [if_pos h1] at h
  by_cases h2 : ¬ (1 ≤ x.1 ∧ x.1 ≤ 9999)
  ·
   rw [if_pos h2] at h; exact absurd h (by decide)
  rw [if_neg h2] at h
  by_cases h3 : (b.any fun q => ZaS q x) = true
  ·
   rw [if_pos h3] at h; exact absurd h (by decide)
  rw [if_neg h3] at h
  by_cases h4 : ¬ (1 ≤ x.2.2.1 ∧ x.2.2.1 ≤ 3) ∨ (k = 10 ∧ x.2.2.1 ≠ 1)
  ·
   rw [if_pos h4] at h; exact absurd h (by decide)
  rw [if_neg h4] at h
  by_cases h5 : x.2.2.1 = 3 ∧ x.2.2.2.2.length = 0
  ·
   rw [if_pos h5] at h; exact absurd h (by decide)
  rw [if_neg h5] at h
  by_cases h6 : 1 < x.2.2.2.2.length ∨ (x.2.2.1 ≠ 3 ∧ 0 < x.2.2.2.2.length)
  ·
   rw [if_pos h6] at h; exact absurd h (by decide)
  refine ⟨h1, by omega, by omega, by omega, by omega, fun q => ?_⟩
  have : x.2.2.2.2.length = 0 := by omega
  exact List.length_eq_zero_iff.1 this
 ·
  rw [if_neg h1] at h; exact absurd h (by decide)
structure Ty.Own (t : Ty) : Prop where
 kind : 1 ≤ t.kind ∧ t.kind ≤ 10
 words : t.kind = 4 → 0 < t.words.length → t.min = 0 ∧ t.max = 0 ∧ t.words.length ≤ 64 ∧ Zrd none t.words = 0
 nowords : t.kind ≠ 4 → t.words = []
 noelem : t.kind ≠ 8 → t.elem = []
 nofields : t.kind ≠ 9 → t.kind ≠ 10 → t.fields = []
 noscale : t.kind ≠ 3 → t.scale = 0
 nobounds : ¬ (2 ≤ t.kind ∧ t.kind ≤ 8) → t.min = 0 ∧ t.max = 0
 scale : 0 ≤ t.scale ∧ t.scale ≤ 12
 bounds : (2 ≤ t.kind ∧ t.kind ≤ 8) → ¬ (t.kind = 4 ∧ 0 < t.words.length) → (Zal t.kind).1 ≤ t.min ∧ t.max ≤ (Zal t.kind).2 ∧ t.min ≤ t.max
 elem : t.kind = 8 → ∃ e, t.elem = [e]
 cases : t.kind = 10 → 0 < t.fields.length
 fields : t.fields.length ≤ 64
 each : ∀ x ∈ t.fields, Zcf x.2.1 = true ∧ (1 ≤ x.1 ∧ x.1 ≤ 9999) ∧ (1 ≤ x.2.2.1 ∧ x.2.2.1 ≤ 3) ∧ (t.kind = 10 → x.2.2.1 = 1) ∧ (x.2.2.1 = 3 → x.2.2.2.2.length = 1) ∧ (x.2.2.1 ≠ 3 → x.2.2.2.2 = [])
 apart : ZeE t.kind [] t.fields = 0
theorem Ty.own_of {t : Ty} (h : Zok t = 0) : t.Own := by
 have hu := ZjQ h
 obtain ⟨k1, k2, k3⟩ := hu
 simp only [ZaB, Bool.or_eq_true, Bool.and_eq_true, Bool.not_eq_true', Bool.and_eq_false_iff, decide_eq_false_iff_not, decide_eq_true_eq, not_or, not_and] at k2
 obtain ⟨⟨⟨⟨u1, u2⟩, u3⟩, u4⟩, u5⟩ := k2
 have nw : t.kind ≠ 4 → t.words = [] := fun q => List.length_eq_zero_iff.1 (by have := u3 q; omega)
 have ne : t.kind ≠ 8 → t.elem = [] := fun q => List.length_eq_zero_iff.1 (by have := u4 q; omega)
 have nf : t.kind ≠ 9 → t.kind ≠ 10 → t.fields = [] := fun q q' => List.length_eq_zero_iff.1 (by have := u5 ⟨q, q'⟩; omega)
 have ns : t.kind ≠ 3 → t.scale = 0 := fun q => by
  have := u2 q
  by_cases z : t.scale = 0
  ·
   exact z
  ·
   exact absurd z this
 have nb : ¬ (2 ≤ t.kind ∧ t.kind ≤ 8) → t.min = 0 ∧ t.max = 0 := fun q => by
  have := u1 (by omega)
  omega
 have h0 := h
 rw [Zok, if_neg k1, if_neg (by
  intro q
  simp only [ZaB, Bool.or_eq_true, Bool.and_eq_true, Bool.not_eq_true', Bool.and_eq_false_iff, decide_eq_false_iff_not, decide_eq_true_eq] at q
  rcases q with (((q | q) | q) | q) | q
  ·
   have := u1 q.1; have := q.2; omega
  ·
   exact u2 q.1 q.2
  ·
   exact u3 q.1 q.2
  ·
   exact u4 q.1 q.2
  ·
   exact u5 q.1 q.2)] at h
 by_cases h3 : t.kind = 4 ∧ 0 < t.words.length
 ·
  rw [if_pos h3, ZfS] at h
  by_cases w1 : t.min ≠ 0 ∨ t.max ≠ 0
  ·
   rw [if_pos w1] at h; exact absurd h (by decide)
  rw [if_neg w1] at h
  by_cases w2 : 64 < t.words.length
  ·
   rw [if_pos w2] at h; exact absurd h (by decide)
  rw [if_neg w2] at h
  have ef : t.fields = [] := nf (by omega) (by omega)
  exact { kind := by omega, words := fun _ _ => ⟨by omega, by omega, by omega, h⟩, nowords := nw, noelem := ne, nofields := nf, noscale := ns, nobounds := nb, scale := by have := ns (by omega); omega, bounds := fun _ q => absurd h3 q, elem := fun q => by omega, cases := fun q => by omega, fields := by rw [ef]; simp, each := fun x hx => by rw [ef] at hx; simp at hx, apart := by rw [ef]; rfl }
 rw [if_neg h3] at h
 by_cases h4 : ((2 ≤ t.kind ∧ t.kind ≤ 8) ∧ ZaJ t (Zal t.kind).1 (Zal t.kind).2 = false) ∨ ¬ (0 ≤ t.scale ∧ t.scale ≤ 12)
 ·
  rw [if_pos h4] at h; exact absurd h (by decide)
 rw [if_neg h4] at h
 by_cases h5 : (t.kind = 8 ∧ t.elem.length = 0) ∨ (t.kind = 10 ∧ t.fields.length = 0)
 ·
  rw [if_pos h5] at h; exact absurd h (by decide)
 rw [if_neg h5] at h
 by_cases h6 : 1 < t.elem.length
 ·
  rw [if_pos h6] at h; exact absurd h (by decide)
 rw [if_neg h6] at h
 by_cases h7 : 64 < t.fields.length
 ·
  rw [if_pos h7] at h; exact absurd h (by decide)
 rw [if_neg h7] at h
 refine { kind := by omega, words := fun a b => absurd ⟨a, b⟩ h3, nowords := nw, noelem := ne, nofields := nf, noscale := ns, nobounds := nb, scale := by omega, bounds := fun q _ => ?_, elem := fun q => ?_, cases := fun q => by omega, fields := by omega, each := fun x hx => ?_, apart := h }
 ·
  have hb : ZaJ t (Zal t.kind).1 (Zal t.kind).2 = true := by
   cases hb : ZaJ t (Zal t.kind).1 (Zal t.kind).2 with
   | true => rfl
   | false => exact absurd (Or.inl ⟨q, hb⟩) h4
  unfold ZaJ at hb
  simp only [Bool.and_eq_true, decide_eq_true_eq] at hb
  exact ⟨hb.1.1, hb.1.2, hb.2⟩
 ·
  match he : t.elem with
  | [] => exact absurd (Or.inl ⟨q, by rw [he]; rfl⟩) h5
  | [e] => exact ⟨e, rfl⟩
  | _ :: _ :: _ => rw [he] at h6; simp at h6
 ·
  obtain ⟨b', hb⟩ := ZqD _ _ _ h x hx
  exact Zno hb
theorem Ty.Good.own {t : Ty} (h : t.Good) : t.Own := Ty.own_of (Zlo h)
theorem lim8 : Zal 8 = (0, 256) := by decide
instance (k : IntKind) (n : Int) : Decidable (inK k n) := by cases k <;> exact inferInstanceAs (Decidable (_ ∧ _))
def ZlK (n : Int) : ByteArray := ⟨#[UInt8.ofNat n.toNat]⟩
@[go_sem] theorem ZuB (n : Int) : ZcU [.val (.int .u8 n)] = ZlK n := rfl
@[go_sem] theorem ZqC (n : Int) : Zmy (.val (.int .u8 n)) = (0 ≤ n ∧ n ≤ 255) := rfl
@[go_sem] theorem Zvv (n : Int) : (ZlK n).size = 1 := rfl
@[go_sem] theorem Zu2 : ZcU [] = (⟨#[]⟩ : ByteArray) := rfl
@[go_sem] theorem ZtQ (k : Nat) : (∀ y ∈ List.replicate k (AV.val (.int .u8 0)), Zmy y) ↔ True := iff_true_intro fun y hy => by
 rw [List.eq_of_mem_replicate hy, ZqC]; omega
def ZdZ (rec : Int → Option ByteArray) (a0 : Int) : Option ByteArray :=
 if decide (a0 < 10) then
  if I64 (48 + a0) then
   if 0 ≤ 48 + a0 ∧ 48 + a0 ≤ 255 then
    some (ZlK (48 + a0))
   else none
  else none
 else
  if I64 (a0.tdiv 10) then
   (rec (a0.tdiv 10)).bind fun y10 =>
   if I64 (48 + (a0.tmod 10)) then
    if 0 ≤ 48 + (a0.tmod 10) ∧ 48 + (a0.tmod 10) ≤ 255 then
     if y10.size + (ZlK (48 + (a0.tmod 10))).size ≤ 9223372036854775807 then
      some (y10 ++ (ZlK (48 + (a0.tmod 10))))
     else none
    else none
   else none
  else none
def Zbf : Nat → Int → Option ByteArray
 | 0, _ => none
 | n + 1, a0 => ZdZ (Zbf n) a0
def Zgz (w0 : World) (F : Int → Option ByteArray) : Prop := ∀ (B : List (List AV)) (Rw : List RowA) (L : List LoopA) (a0 : Int) (r : ByteArray), F a0 = some r → ACalls Tryz.prog w0 117 [.val (.int .i64 a0)] ⟨B, Rw, L⟩ fun x st => x = .val (.string r) ∧ st = ⟨B, Rw, L⟩
theorem ZjL (w0 : World) (rec : Int → Option ByteArray) (ih : Zgz w0 rec) : Zgz w0 (ZdZ rec) := by
 intro B Rw L a0 r h
 rw [ZdZ] at h
 refine hd [.tmp 2] Tryz.func117 Tryz.ntmps117 fun M0 W0 hN hNR hNL hcalm hu hO hs => ?_
 simp only [Zas]
 refine rg [0] hs ?_
 apply Zab; intro K2 hK2
 refine rg [0, 4] hs ?_
 refine cnd h hs (fun hs h => ?_) (fun hs h => ?_)
 ·
  have hb4 := hs.1
  obtain ⟨hg6, h⟩ := Zac h
  obtain ⟨hg7, h⟩ := Zac h
  refine rg [2] hs ?_
  exact rt h hs hcalm hO
 have hb4 := hs.1
 refine sk [0] hs hK2 ?_
 clear hK2
 apply Zab; intro K8 hK8
 obtain ⟨hg9, h⟩ := Zac h
 obtain ⟨y10, hy10, h⟩ := bind_some h
 obtain ⟨hg11, h⟩ := Zac h
 obtain ⟨hg12, h⟩ := Zac h
 obtain ⟨hg13, h⟩ := Zac h
 have hg13s := hg13
 try simp +decide only [go_sem] at hg13s
 apply Zak mix 11 2 1 [2] (by kernel_rfl)
 rw [Zaa]; simp +decide only [go_sem, Nat.reduceAdd, hb4]
 (repeat' apply And.intro) <;> first | refine Zaf _ (ih _ _ _ (a0.tdiv 10) _ hy10) (hv hs) ?_ | exact cl
 rw [Zaa]; simp +decide only [go_sem, Nat.reduceAdd, hb4]
 (repeat' with_reducible apply And.intro) <;> first | (rw [Zaa]; simp +decide only [go_sem, Nat.reduceAdd, hb4]) | exact cl
 (repeat' apply And.intro) <;> first | refine hK8 _ _ ?_ | exact cl
 clear hK8
 exact rt h hs hcalm hO
theorem Zga (w0 : World) : ∀ n : Nat, Zgz w0 (Zbf n)
 | 0 => fun _ _ _ _ _ h => (nomatch h)
 | n + 1 => ZjL w0 (Zbf n) (Zga w0 n)
def ZeQ (n : Nat) (a0 : Part) (a1 : Bool) : Option (ByteArray × Bool) :=
 if (decide (a0.kind = 1)) && (decide (a0.index = 0)) then
  if a0.name.size ≤ maxLen then
   if Zcf a0.name then
    if a1 then
     some ((a0.name, true))
    else
     if ((⟨#[46]⟩ : ByteArray)).size + a0.name.size ≤ 9223372036854775807 then
      some ((((⟨#[46]⟩ : ByteArray)) ++ a0.name, true))
     else none
   else
    if ((((decide (a0.kind = 2)) && (sEq a0.name ((⟨#[]⟩ : ByteArray)))) && (decide (0 ≤ a0.index))) && (decide (a0.index < 256))) && (!a1) then
     (Zbf n a0.index).bind fun y16 =>
     if ((⟨#[91]⟩ : ByteArray)).size + y16.size ≤ 9223372036854775807 then
      if (((⟨#[91]⟩ : ByteArray)) ++ y16).size + ((⟨#[93]⟩ : ByteArray)).size ≤ 9223372036854775807 then
       some (((((⟨#[91]⟩ : ByteArray)) ++ y16) ++ ((⟨#[93]⟩ : ByteArray)), true))
      else none
     else none
    else
     if (((decide (a0.kind = 3)) && (sEq a0.name ((⟨#[]⟩ : ByteArray)))) && (decide (a0.index = 0))) && (!a1) then
      some (((⟨#[91, 42, 93]⟩ : ByteArray), true))
     else
      if (decide (a0.kind = 4)) && (decide (a0.index = 0)) then
       if a0.name.size ≤ maxLen then
        some (((⟨#[]⟩ : ByteArray), false))
       else none
      else
       some (((⟨#[]⟩ : ByteArray), false))
  else none
 else
  if ((((decide (a0.kind = 2)) && (sEq a0.name ((⟨#[]⟩ : ByteArray)))) && (decide (0 ≤ a0.index))) && (decide (a0.index < 256))) && (!a1) then
   (Zbf n a0.index).bind fun y33 =>
   if ((⟨#[91]⟩ : ByteArray)).size + y33.size ≤ 9223372036854775807 then
    if (((⟨#[91]⟩ : ByteArray)) ++ y33).size + ((⟨#[93]⟩ : ByteArray)).size ≤ 9223372036854775807 then
     some (((((⟨#[91]⟩ : ByteArray)) ++ y33) ++ ((⟨#[93]⟩ : ByteArray)), true))
    else none
   else none
  else
   if (((decide (a0.kind = 3)) && (sEq a0.name ((⟨#[]⟩ : ByteArray)))) && (decide (a0.index = 0))) && (!a1) then
    some (((⟨#[91, 42, 93]⟩ : ByteArray), true))
   else
    if (decide (a0.kind = 4)) && (decide (a0.index = 0)) then
     if a0.name.size ≤ maxLen then
      if (Zcf a0.name) && (!a1) then
       if ((⟨#[63]⟩ : ByteArray)).size + a0.name.size ≤ 9223372036854775807 then
        some ((((⟨#[63]⟩ : ByteArray)) ++ a0.name, true))
       else none
      else
       some (((⟨#[]⟩ : ByteArray), false))
     else none
    else
     some (((⟨#[]⟩ : ByteArray), false))
theorem ZoO (w0 : World) (n : Nat) (B : List (List AV)) (Rw : List RowA) (L : List LoopA) (a0 : Part) (a1 : Bool) (r : ByteArray × Bool) (h : ZeQ n a0 a1 = some r) :
  ACalls Tryz.prog w0 66 [.agg (.val (.int .i64 a0.kind) :: (.val (.int .i64 a0.index) :: ([.val (.string a0.name)]))), .val (.bool a1)] ⟨B, Rw, L⟩ fun x st => x = .tup [.val (.string r.1), .val (.bool r.2)] ∧ st = ⟨B, Rw, L⟩ := by
 rw [ZeQ] at h
 refine hd [.tmp 4, .tmp 5] Tryz.func66 Tryz.ntmps66 fun M0 W0 hN hNR hNL hcalm hu hO hs => ?_
 simp only [Zas]
 refine rg [1, 2] hs ?_
 apply Zab; intro K2 hK2
 apply Zae
 apply Zab; intro K3 hK3
 rcases Bool.eq_false_or_eq_true ((decide (a0.kind = 1)) && (decide (a0.index = 0))) with hf4 | hf4
 ·
  replace h := ZaN h hf4
  obtain ⟨hg5, h⟩ := Zac h
  have hs := And.intro hf4 hs
  refine rk 2 [1, 2, 6] hs ?_
  refine Zaf _ (Zlp w0 _ _ _ a0.name hg5) (hv hs) ?_
  refine ne hs hK3 ?_
  clear hK3
  refine cnd h hs (fun hs h => ?_) (fun hs h => ?_)
  ·
   have hb6 := hs.1
   apply Zab; intro K7 hK7
   refine rg [2, 20] hs ?_
   refine cnd h hs (fun hs h => ?_) (fun hs h => ?_)
   ·
    refine rg [4, 5] hs ?_
    exact rt h hs hcalm hO
   refine sk [2] hs hK7 ?_
   clear hK7
   obtain ⟨hg12, h⟩ := Zac h
   have hg12s := hg12
   try simp +decide only [go_sem] at hg12s
   refine rg [4, 5] hs ?_
   exact rt h hs hcalm hO
  have hb6 := hs.1
  refine rg [1, 2, 26] hs ?_
  refine cnd h hs (fun hs h => ?_) (fun hs h => ?_)
  ·
   have hb14 := hs.1
   obtain ⟨y16, hy16, h⟩ := bind_some h
   obtain ⟨hg17, h⟩ := Zac h
   have hg17s := hg17
   try simp +decide only [go_sem] at hg17s
   obtain ⟨hg18, h⟩ := Zac h
   have hg18s := hg18
   try simp +decide only [go_sem] at hg18s
   refine rc 2 [4, 5] hs ?_; intro K15 hK15
   refine Zaf _ (Zga w0 n _ _ _ a0.index _ hy16) (hv hs) ?_
   refine ne hs hK15 ?_
   clear hK15
   exact rt h hs hcalm hO
  have hb14 := hs.1
  refine rg [1, 2, 54] hs ?_
  refine cnd h hs (fun hs h => ?_) (fun hs h => ?_)
  ·
   have hb20 := hs.1
   refine rg [4, 5] hs ?_
   exact rt h hs hcalm hO
  have hb20 := hs.1
  apply Zab; intro K22 hK22
  rcases Bool.eq_false_or_eq_true ((decide (a0.kind = 4)) && (decide (a0.index = 0))) with hf23 | hf23
  ·
   replace h := ZaN h hf23
   obtain ⟨hg24, h⟩ := Zac h
   have hs := And.intro hf23 hs
   refine rk 2 [2, 72] hs ?_
   refine Zaf _ (Zlp w0 _ _ _ a0.name hg24) (hv hs) ?_
   refine ne hs hK22 ?_
   clear hK22
   refine Zap false ev (ef hs) (fun hb25 => by cases hb25) (fun hb25 => ?_)
   refine sk [] hs hK2 ?_
   clear hK2
   refine rg [4, 5] hs ?_
   exact rt h hs hcalm hO
  ·
   replace h := ZaM h hf23
   apply Zad 2 [2, 72]
   rw [Zaa]; simp +decide only [go_sem, Nat.reduceAdd, hf4, hb6, hb14, hb20, hf23]
   (repeat' apply And.intro) <;> first | refine ZaE ?_ | exact cl
   rw [Zaa]; simp +decide only [go_sem, Nat.reduceAdd, hf4, hb6, hb14, hb20, hf23]
   (repeat' apply And.intro) <;> first | refine hK22 _ _ ?_ | exact cl
   clear hK22
   have hs := And.intro hf23 hs
   refine Zap false ev (ef hs) (fun hb27 => by cases hb27) (fun hb27 => ?_)
   refine sk [] hs hK2 ?_
   clear hK2
   refine rg [4, 5] hs ?_
   exact rt h hs hcalm hO
 ·
  replace h := ZaM h hf4
  apply Zad 2 [1, 2, 6]
  rw [Zaa]; simp +decide only [go_sem, Nat.reduceAdd, hf4]
  (repeat' apply And.intro) <;> first | refine ZaE ?_ | exact cl
  rw [Zaa]; simp +decide only [go_sem, Nat.reduceAdd, hf4]
  (repeat' apply And.intro) <;> first | refine hK3 _ _ ?_ | exact cl
  clear hK3
  have hs := And.intro hf4 hs
  refine Zap false ev (ef hs) (fun hb29 => by cases hb29) (fun hb29 => ?_)
  refine rg [1, 2, 26] hs ?_
  refine cnd h hs (fun hs h => ?_) (fun hs h => ?_)
  ·
   have hb31 := hs.1
   obtain ⟨y33, hy33, h⟩ := bind_some h
   obtain ⟨hg34, h⟩ := Zac h
   have hg34s := hg34
   try simp +decide only [go_sem] at hg34s
   obtain ⟨hg35, h⟩ := Zac h
   have hg35s := hg35
   try simp +decide only [go_sem] at hg35s
   refine rc 2 [4, 5] hs ?_; intro K32 hK32
   refine Zaf _ (Zga w0 n _ _ _ a0.index _ hy33) (hv hs) ?_
   refine ne hs hK32 ?_
   clear hK32
   exact rt h hs hcalm hO
  have hb31 := hs.1
  refine rg [1, 2, 54] hs ?_
  refine cnd h hs (fun hs h => ?_) (fun hs h => ?_)
  ·
   have hb37 := hs.1
   refine rg [4, 5] hs ?_
   exact rt h hs hcalm hO
  have hb37 := hs.1
  apply Zab; intro K39 hK39
  rcases Bool.eq_false_or_eq_true ((decide (a0.kind = 4)) && (decide (a0.index = 0))) with hf40 | hf40
  ·
   replace h := ZaN h hf40
   obtain ⟨hg41, h⟩ := Zac h
   have hs := And.intro hf40 hs
   refine rk 2 [2, 72] hs ?_
   refine Zaf _ (Zlp w0 _ _ _ a0.name hg41) (hv hs) ?_
   refine ne hs hK39 ?_
   clear hK39
   refine cnd h hs (fun hs h => ?_) (fun hs h => ?_)
   ·
    obtain ⟨hg44, h⟩ := Zac h
    have hg44s := hg44
    try simp +decide only [go_sem] at hg44s
    refine rg [4, 5] hs ?_
    exact rt h hs hcalm hO
   refine sk [] hs hK2 ?_
   clear hK2
   refine rg [4, 5] hs ?_
   exact rt h hs hcalm hO
  ·
   replace h := ZaM h hf40
   apply Zad 2 [2, 72]
   rw [Zaa]; simp +decide only [go_sem, Nat.reduceAdd, hf4, hb31, hb37, hf40]
   (repeat' apply And.intro) <;> first | refine ZaE ?_ | exact cl
   rw [Zaa]; simp +decide only [go_sem, Nat.reduceAdd, hf4, hb31, hb37, hf40]
   (repeat' apply And.intro) <;> first | refine hK39 _ _ ?_ | exact cl
   clear hK39
   have hs := And.intro hf40 hs
   refine Zap false ev (ef hs) (fun hb46 => by cases hb46) (fun hb46 => ?_)
   refine sk [] hs hK2 ?_
   clear hK2
   refine rg [4, 5] hs ?_
   exact rt h hs hcalm hO
def Zg4 (n : Nat)  (x2_k7 : ByteArray) : Option (ByteArray × Bool) :=
 some ((x2_k7, decide (((x2_k7.size : Int)) ≤ 200)))
def Zb6 (n : Nat) (a0 : List Part) : Nat → ByteArray → Int → Option (ByteArray × Bool)
 | 0, _, _ => none
 | m + 1, x2_l10, x4_l10 =>
  if decide (x4_l10 < ((a0.length : Int))) then
   (idx a0 x4_l10).bind fun x16 =>
   (ZeQ n x16 (decide (x4_l10 = 0))).bind fun y17 =>
   if !y17.2 then
    some (((⟨#[]⟩ : ByteArray), false))
   else
    if x2_l10.size + y17.1.size ≤ 9223372036854775807 then
     if I64 (x4_l10 + 1) then
      (Zb6 n a0 m) (x2_l10 ++ y17.1) (x4_l10 + 1)
     else none
    else none
  else
   Zg4 n x2_l10
def ZgC (n : Nat) (a0 : List Part) : Option (ByteArray × Bool) :=
 if (decide (((a0.length : Int)) = 0)) || (decide (16 < ((a0.length : Int)))) then
  some (((⟨#[]⟩ : ByteArray), false))
 else
  Zb6 n a0 n ((⟨#[]⟩ : ByteArray)) 0
theorem Zpw (w0 : World) (n : Nat) (B : List (List AV)) (Rw : List RowA) (L : List LoopA) (a0 : List Part) (r : ByteArray × Bool) (h : ZgC n a0 = some r) :
  ACalls Tryz.prog w0 27 [.list (a0.map ZfK) .none] ⟨B, Rw, L⟩ fun x st => x = .tup [.val (.string r.1), .val (.bool r.2)] ∧ st = ⟨B, Rw, L⟩ := by
 rw [ZgC] at h
 refine hd [.tmp 2, .tmp 3] Tryz.func27 Tryz.ntmps27 fun M0 W0 hN hNR hNL hcalm hu hO hs => ?_
 simp only [Zas]
 refine rg [0, 2] hs ?_
 apply Zab; intro K2 hK2
 refine rg [0, 2, 14] hs ?_
 refine cnd h hs (fun hs h => ?_) (fun hs h => ?_)
 ·
  refine rg [2, 3] hs ?_
  exact rt h hs hcalm hO
 refine sk [0, 2] hs hK2 ?_
 clear hK2
 refine Zah (fun e st => ∃ (x2_k7 : ByteArray), Ck e st B Rw L [(2, true, .val (.string x2_k7))] [] [] (Zg4 n x2_k7 = some r)) ?_ ?_
 ·
  intro K8 hK8
  refine rg [0, 2, 4] hs ?_
  apply Zae
  refine Zai (fun m e st => ∃ (x2_l10 : ByteArray) (x4_l10 : Int), Ck e st B Rw L [(0, true, .list (a0.map ZfK) .none), (2, true, .val (.string x2_l10)), (4, true, .val (.int .i64 x4_l10))] [] [] (Zb6 n a0 m x2_l10 x4_l10 = some r)) n ⟨((⟨#[]⟩ : ByteArray)), 0, ([]), Rw, ef hs, ef hs, hO, h⟩ ?_
  rintro ml10 e st ⟨x2_l10, x4_l10, Xl10, Rl10, rfl, rfl, hO, h⟩ Ul10 Vl10
  cases ml10 with
  | zero => cases h
  | succ ml10 =>
  rw [Zb6] at h
  refine td hN hNR hNL hcalm hO ?_
  apply Zab; intro K11 hK11
  refine rg [0, 2, 4, 18] hs ?_
  refine cnd h hs (fun hs h => ?_) (fun hs h => ?_)
  rotate_left
  ·
   refine sx [2] hs hK8 ?_
   exact ⟨x2_l10, ([]), Rl10, ef hs, ef hs, hO, h⟩
  refine sk [0, 2, 4] hs hK11 ?_
  clear hK11
  apply Zab; intro K14 hK14
  apply Zae
  obtain ⟨x16, hx16, h⟩ := bind_some h
  obtain ⟨hx16a, hx16b, hx16c⟩ := Zar hx16
  have hx16d := Zau (f := ZfK) hx16c
  obtain ⟨y17, hy17, h⟩ := bind_some h
  have hs := And.intro hx16d hs
  refine rc 2 [0, 2, 4, 5, 6] hs ?_; intro K15 hK15
  refine Zaf _ (ZoO w0 n _ _ _ x16 (decide (x4_l10 = 0)) _ hy17) (hv hs) ?_
  refine ne hs hK15 ?_
  clear hK15
  apply Zab; intro K18 hK18
  refine rg [0, 2, 4, 5, 32] hs ?_
  refine cnd h hs (fun hs h => ?_) (fun hs h => ?_)
  ·
   refine rg [2, 3] hs ?_
   exact rt h hs hcalm hO
  refine sk [0, 2, 4, 5] hs hK18 ?_
  clear hK18
  obtain ⟨hg22, h⟩ := Zac h
  have hg22s := hg22
  try simp +decide only [go_sem] at hg22s
  refine rl [0, 2, 4] hs hK14 ?_
  clear hK14
  obtain ⟨hg23, h⟩ := Zac h
  refine rl [0, 2, 4] hs (fun e s => Vl10 ml10 e s (Nat.lt_succ_self _)) ?_
  exact ⟨(x2_l10 ++ y17.1), (x4_l10 + 1), ([]), Rl10, ef hs, ef hs, hO, h⟩
 ·
  clear h; rintro e st ⟨x2_k7, Xk7, Rk7, rfl, rfl, hO, h⟩
  rw [Zg4] at h
  refine td hN hNR hNL hcalm hO ?_
  refine rg [2, 3] hs ?_
  exact rt h hs hcalm hO
def ZfQ (n : Nat)  (x3_k4 : List Part) : Option ((List Part)) :=
 some (x3_k4)
def ZcZ (n : Nat) (a0 : List Part) : Nat → (List Part) → Int → Option ((List Part))
 | 0, _, _ => none
 | m + 1, x3_l7, x4_l7 =>
  if decide (x4_l7 < ((a0.length : Int))) then
   (idx a0 x4_l7).bind fun x12 =>
   if (x3_l7.length + 1) * 32 ≤ 140737488355328 ∧ x3_l7.length + 1 ≤ 4611686018427387904 then
    if I64 (x4_l7 + 1) then
     (ZcZ n a0 m) (x3_l7 ++ ([x12])) (x4_l7 + 1)
    else none
   else none
  else
   ZfQ n x3_l7
def Zfs (n : Nat) (a0 : List Part) : Option ((List Part)) :=
 ZcZ n a0 n ([]) 0
theorem ZjC (w0 : World) (n : Nat) (B : List (List AV)) (Rw : List RowA) (L : List LoopA) (a0 : List Part) (r : (List Part)) (h : Zfs n a0 = some r) :
  ACalls Tryz.prog w0 28 [.list (a0.map ZfK) .none] ⟨B, Rw, L⟩ fun x st => x = .list (r.map ZfK) .none ∧ st = ⟨B, Rw, L⟩ := by
 rw [Zfs] at h
 refine hd [.tmp 2] Tryz.func28 Tryz.ntmps28 fun M0 W0 hN hNR hNL hcalm hu hO hs => ?_
 simp only [Zas]
 refine rg [0] hs ?_
 refine rg [0, 3] hs ?_
 refine Zah (fun e st => ∃ (x3_k4 : List Part) (ox3_k4 : Ev.Own), Ck e st B Rw L [(3, true, .list (x3_k4.map ZfK) ox3_k4)] [] [(3, x3_k4.length, ox3_k4)] (ZfQ n x3_k4 = some r)) ?_ ?_
 ·
  intro K5 hK5
  refine rg [0, 3, 4] hs ?_
  apply Zae
  refine Zai (fun m e st => ∃ (x3_l7 : List Part) (x4_l7 : Int) (ox3_l7 : Ev.Own), Ck e st B Rw L [(0, true, .list (a0.map ZfK) .none), (3, true, .list (x3_l7.map ZfK) ox3_l7), (4, true, .val (.int .i64 x4_l7))] [] [(3, x3_l7.length, ox3_l7)] (ZcZ n a0 m x3_l7 x4_l7 = some r)) n ⟨([]), 0, .full, ([]), Rw, ef hs, ef hs, Owns.of_eq ((hO).full 3 0) (by first | rfl | simp only [List.length_append, List.length_cons, List.length_nil, List.length_map, Nat.zero_add, Nat.add_zero]), h⟩ ?_
  rintro ml7 e st ⟨x3_l7, x4_l7, ox3_l7, Xl7, Rl7, rfl, rfl, hO, h⟩ Ul7 Vl7
  cases ml7 with
  | zero => cases h
  | succ ml7 =>
  rw [ZcZ] at h
  have hU := hO.unders
  simp only [List.mem_cons, List.not_mem_nil, or_false, forall_eq_or_imp, forall_eq] at hU
  refine td hN hNR hNL hcalm hO ?_
  apply Zab; intro K8 hK8
  refine rg [0, 3, 4, 8] hs ?_
  refine cnd h hs (fun hs h => ?_) (fun hs h => ?_)
  rotate_left
  ·
   have hb10 := hs.1
   refine sx [3] hs hK5 ?_
   exact ⟨x3_l7, ox3_l7, ([]), Rl7, ef hs, ef hs, Owns.of_eq (hO) (by first | rfl | simp only [List.length_append, List.length_cons, List.length_nil, List.length_map, Nat.zero_add, Nat.add_zero]), h⟩
  have hb10 := hs.1
  refine sk [0, 3, 4] hs hK8 ?_
  clear hK8
  apply Zab; intro K11 hK11
  apply Zae
  obtain ⟨x12, hx12a, hx12b, hx12d, h⟩ := ix ZfK h
  obtain ⟨hg13, h⟩ := Zac h
  obtain ⟨o14, rows15, hO, hap16⟩ := hO.append (P := Tryz.prog) ZxE (by rw [Ztj]; rfl) (by decide) 1 hg13.1 hg13.2
  replace hap16 := fun (ys : List AV) B L o2 => hap16 (x3_l7.map ZfK) ys B L o2 (by first | rfl | simp only [List.length_map, List.length_nil, List.length_append, List.length_cons, Nat.zero_add])
  replace hap16 := fun (y : AV) B L o2 => hap16 [y] B L o2 (by first | rfl | simp only [List.length_map, List.length_nil, List.length_cons]) ev
  try simp only [List.mem_singleton, List.mem_cons, List.not_mem_nil, or_false, forall_eq_or_imp, forall_eq, List.map_append, List.map_cons, List.map_nil, Zeo, ZeZ, ZeI, ZeW, Ze2, Zen, ZcY, Zc1, ZeL, ZbO, ZbP, Zc5] at hap16
  apply Zak mix 18 1 1 [0, 3, 4] (by kernel_rfl)
  rw [Zaa]; simp +decide only [go_sem, Nat.reduceAdd, hb10, hx12d, hap16, ZaZ, ZaA, Zay]
  (repeat' with_reducible apply And.intro) <;> first | (rw [Zaa]; simp +decide only [go_sem, Nat.reduceAdd, hb10, hx12d, hap16, ZaZ, ZaA, Zay]) | exact cl
  (repeat' apply And.intro) <;> first | refine hK11 _ _ ?_ | exact cl
  clear hK11
  obtain ⟨hg17, h⟩ := Zac h
  have hs := And.intro hx12d hs
  have hs := And.intro hap16 hs
  refine rl [0, 3, 4] hs (fun e s => Vl7 ml7 e s (Nat.lt_succ_self _)) ?_
  exact ⟨(x3_l7 ++ ([x12])), (x4_l7 + 1), o14, ([]), rows15, ef hs, ef hs, Owns.of_eq (hO) (by first | rfl | simp only [List.length_append, List.length_cons, List.length_nil, List.length_map, Nat.zero_add, Nat.add_zero]), h⟩
 ·
  clear h; rintro e st ⟨x3_k4, ox3_k4, Xk4, Rk4, rfl, rfl, hO, h⟩
  rw [ZfQ] at h
  have hU := hO.unders
  simp only [List.mem_cons, List.not_mem_nil, or_false, forall_eq_or_imp, forall_eq] at hU
  refine td hN hNR hNL hcalm hO ?_
  refine rg [2] hs ?_
  exact rt h hs hcalm hO
def ZqP (p : Part) : Int := if p.kind = 1 then 1 + p.name.size else if p.kind = 2 then 2 + (Lib.itoa p.index).length else if p.kind = 3 then 3 else 1 + p.name.size
def pOk (p : Part) : Bool :=
 if p.kind = 1 ∨ p.kind = 4 then decide (p.index = 0) && Zcf p.name
 else if p.kind = 2 then sEq p.name ⟨#[]⟩ && decide (0 ≤ p.index) && decide (p.index < 256)
 else if p.kind = 3 then sEq p.name ⟨#[]⟩ && decide (p.index = 0) else false
theorem Zq6 (p : Part) (h : p.wf) : ZcP p = some (pOk p) := by
 obtain ⟨_, _, hz⟩ := h
 rw [ZcP, pOk]
 by_cases h1 : p.kind = 1
 ·
  rw [decide_eq_true h1, if_pos rfl, ZbS, if_pos rfl, if_pos (Or.inl h1)]
  by_cases hi : p.index = 0
  ·
   rw [decide_eq_true hi, if_pos rfl, if_pos hz]; rfl
  ·
   rw [decide_eq_false hi, if_neg (by decide)]; rfl
 rw [decide_eq_false h1, if_neg (by decide), ZbS]
 by_cases h4 : p.kind = 4
 ·
  rw [decide_eq_true h4, if_pos rfl, if_pos (Or.inr h4)]
  by_cases hi : p.index = 0
  ·
   rw [decide_eq_true hi, if_pos rfl, if_pos hz]; rfl
  ·
   rw [decide_eq_false hi, if_neg (by decide)]; rfl
 rw [decide_eq_false h4, if_neg (by decide), if_neg (show ¬ (p.kind = 1 ∨ p.kind = 4) by omega)]
 by_cases h2 : p.kind = 2
 ·
  rw [decide_eq_true h2, if_pos rfl, if_pos h2]
 rw [decide_eq_false h2, if_neg (by decide), if_neg h2]
 by_cases h3 : p.kind = 3
 ·
  rw [decide_eq_true h3, if_pos rfl, if_pos h3]
 rw [decide_eq_false h3, if_neg (by decide), if_neg h3]
theorem ZkV (i : Int) (h0 : 0 ≤ i) (h : i < 256) : (Lib.itoa i).length = if i < 10 then 1 else if i < 100 then 2 else 3 := by
 unfold Lib.itoa
 rw [if_neg (by omega), Lib.decDigits_length]
 by_cases h1 : i < 10
 ·
  rw [if_pos h1, Lib.nDigits_small (by omega)]
 rw [if_neg h1, Lib.nDigits_big (by omega)]
 by_cases h2 : i < 100
 ·
  rw [if_pos h2, Lib.nDigits_small (by omega)]
 rw [if_neg h2, Lib.nDigits_big (by omega), Lib.nDigits_small (by omega)]
theorem Zbd (l : Array UInt8) : (⟨l⟩ : ByteArray).size = l.size := rfl
theorem ZlA (p : Part) (h : pOk p = true) : ∃ s, Zdq p = some s ∧ (s.size : Int) = ZqP p ∧ 1 ≤ ZqP p ∧ ZqP p ≤ 40 := by
 unfold pOk at h
 rw [Zdq, ZqP]
 by_cases h1 : p.kind = 1
 ·
  rw [if_pos (Or.inl h1), Bool.and_eq_true] at h
  have hz := Zja h.2
  rw [decide_eq_true h1, if_pos rfl, if_pos h1, if_pos (by rw [Zbd]; simp; omega)]
  refine ⟨_, rfl, ?_, by omega, by omega⟩
  rw [ByteArray.size_append, Zbd]; simp
 rw [decide_eq_false h1, if_neg (by decide), if_neg h1]
 by_cases h2 : p.kind = 2
 ·
  rw [if_neg (by omega), if_pos h2, Bool.and_eq_true, Bool.and_eq_true] at h
  have q1 := of_decide_eq_true h.1.2
  have q2 := of_decide_eq_true h.2
  have hl := ZkV p.index q1 q2
  have hl3 : (Lib.itoa p.index).length ≤ 3 := by rw [hl]; repeat' split <;> try omega
  rw [decide_eq_true h2, if_pos rfl, if_pos h2, if_pos (by unfold I64; omega), if_pos (by rw [Zbd, Zbd]; simp; omega), if_pos (by rw [ByteArray.size_append, Zbd, Zbd, Zbd]; simp; omega)]
  refine ⟨_, rfl, ?_, by omega, by omega⟩
  rw [ByteArray.size_append, ByteArray.size_append, Zbd, Zbd, Zbd]; simp; omega
 rw [decide_eq_false h2, if_neg (by decide), if_neg h2]
 by_cases h3 : p.kind = 3
 ·
  rw [decide_eq_true h3, if_pos rfl, if_pos h3]
  exact ⟨_, rfl, rfl, by decide, by decide⟩
 rw [decide_eq_false h3, if_neg (by decide), if_neg h3]
 by_cases h4 : p.kind = 4
 ·
  rw [if_pos (Or.inr h4), Bool.and_eq_true] at h
  have hz := Zja h.2
  rw [if_pos (by rw [Zbd]; simp; omega)]
  refine ⟨_, rfl, ?_, by omega, by omega⟩
  rw [ByteArray.size_append, Zbd]; simp
 ·
  rw [if_neg (by omega), if_neg h2, if_neg h3] at h
  exact absurd h (by decide)
theorem ZdX (n : Int) : (ZlK n).size = 1 := rfl
theorem Zwr (n : Nat) (hn : 4 ≤ n) (i : Int) (h0 : 0 ≤ i) (h : i < 256) : ∃ s, Zbf n i = some s ∧ s.size = (Lib.itoa i).length := by
 obtain ⟨m, rfl⟩ : ∃ m, n = m + 3 := ⟨n - 3, by omega⟩
 rw [ZkV i h0 h]
 have one : ∀ (k : Nat) (j : Int), 0 ≤ j → j < 10 → Zbf (k + 1) j = some (ZlK (48 + j)) := fun k j a b => by
  rw [Zbf, ZdZ, decide_eq_true b, if_pos rfl, if_pos (by unfold I64; omega), if_pos (by omega)]
 have big : ∀ (k : Nat) (j : Int) (s : ByteArray), 0 ≤ j → ¬ j < 10 → j < 1000 → s.size < 10 → Zbf k (j / 10) = some s → Zbf (k + 1) j = some (s ++ ZlK (48 + j % 10)) := fun k j s z a b c e => by
  rw [Zbf, ZdZ, decide_eq_false a, if_neg (by decide), Int.tdiv_eq_ediv_of_nonneg z, Int.tmod_eq_emod_of_nonneg z, if_pos (by unfold I64; omega), e, Option.bind_some, if_pos (by unfold I64; omega), if_pos (by omega), if_pos (by rw [ZdX]; omega)]
 by_cases h1 : i < 10
 ·
  rw [if_pos h1]
  exact ⟨_, one (m + 2) i h0 h1, rfl⟩
 rw [if_neg h1]
 by_cases h2 : i < 100
 ·
  rw [if_pos h2]
  refine ⟨_, big (m + 2) i _ h0 h1 (by omega) (by rw [ZdX]; omega) (one (m + 1) (i / 10) (by omega) (by omega)), ?_⟩
  rw [ByteArray.size_append, ZdX, ZdX]
 rw [if_neg h2]
 refine ⟨_, big (m + 2) i _ h0 h1 (by omega) ?_ (big (m + 1) (i / 10) _ (by omega) (by omega) (by omega) (by rw [ZdX]; omega) (one m (i / 10 / 10) (by omega) (by omega))), ?_⟩
 ·
  rw [ByteArray.size_append, ZdX, ZdX]; omega
 ·
  rw [ByteArray.size_append, ByteArray.size_append, ZdX, ZdX, ZdX]
theorem ZpN (n : Nat) (hn : 4 ≤ n) (p : Part) (h : p.wf) : ∃ s, ZeQ n p false = some (s, pOk p) ∧ (pOk p = true → (s.size : Int) = ZqP p) := by
 obtain ⟨_, _, hz⟩ := h
 have e0 : sEq p.name ⟨#[]⟩ = decide (p.name.size = 0) := ZlF _
 rw [ZeQ, pOk, ZqP]
 by_cases h1 : p.kind = 1
 ·
  have h2 : ¬ p.kind = 2 := by omega
  have h3 : ¬ p.kind = 3 := by omega
  have h4 : ¬ p.kind = 4 := by omega
  simp only [decide_eq_true h1, decide_eq_false h2, decide_eq_false h3, decide_eq_false h4, Bool.false_and, Bool.true_and, Bool.false_eq_true, if_false, if_pos (Or.inl h1 : p.kind = 1 ∨ p.kind = 4), if_pos h1]
  by_cases hi : p.index = 0
  ·
   rw [decide_eq_true hi, if_pos rfl, if_pos hz]
   cases hb : Zcf p.name with
   | true =>
    have := Zja hb
    rw [if_pos rfl, if_pos (by rw [Zbd]; simp; omega)]
    exact ⟨_, rfl, fun _ => by rw [ByteArray.size_append, Zbd]; simp⟩
   | false => exact ⟨_, rfl, fun q => absurd q (by decide)⟩
  ·
   rw [decide_eq_false hi]
   exact ⟨_, rfl, fun q => absurd q (by simp)⟩
 by_cases h2 : p.kind = 2
 ·
  have h3 : ¬ p.kind = 3 := by omega
  have h4 : ¬ p.kind = 4 := by omega
  simp only [decide_eq_false h1, decide_eq_true h2, decide_eq_false h3, decide_eq_false h4, Bool.false_and, Bool.true_and, Bool.false_eq_true, if_false, if_neg (show ¬ (p.kind = 1 ∨ p.kind = 4) by omega), if_pos h2, if_neg h1, Bool.not_false, Bool.and_true]
  cases hb : sEq p.name ⟨#[]⟩ && decide (0 ≤ p.index) && decide (p.index < 256) with
  | true =>
   rw [Bool.and_eq_true, Bool.and_eq_true] at hb
   have q1 := of_decide_eq_true hb.1.2
   have q2 := of_decide_eq_true hb.2
   obtain ⟨s, e, z⟩ := Zwr n hn p.index q1 q2
   have hl := ZkV p.index q1 q2
   have hl3 : (Lib.itoa p.index).length ≤ 3 := by rw [hl]; repeat' split <;> try omega
   rw [if_pos rfl, e, Option.bind_some, if_pos (by rw [Zbd]; simp; omega), if_pos (by rw [ByteArray.size_append, Zbd #[91], Zbd #[93], z]; simp; omega)]
   refine ⟨_, rfl, fun _ => ?_⟩
   rw [ByteArray.size_append, ByteArray.size_append, Zbd #[91], Zbd #[93], z]; simp; omega
  | false => exact ⟨_, rfl, fun q => absurd q (by decide)⟩
 by_cases h3 : p.kind = 3
 ·
  have h4 : ¬ p.kind = 4 := by omega
  simp only [decide_eq_false h1, decide_eq_false h2, decide_eq_true h3, decide_eq_false h4, Bool.false_and, Bool.true_and, Bool.false_eq_true, if_false, if_neg (show ¬ (p.kind = 1 ∨ p.kind = 4) by omega), if_pos h3, if_neg h1, if_neg h2, Bool.not_false, Bool.and_true]
  cases hb : sEq p.name ⟨#[]⟩ && decide (p.index = 0) with
  | true => exact ⟨_, rfl, fun _ => rfl⟩
  | false => exact ⟨_, rfl, fun q => absurd q (by decide)⟩
 by_cases h4 : p.kind = 4
 ·
  simp only [decide_eq_false h1, decide_eq_false h2, decide_eq_false h3, decide_eq_true h4, Bool.false_and, Bool.true_and, Bool.false_eq_true, if_false, if_pos (Or.inr h4 : p.kind = 1 ∨ p.kind = 4), if_neg h1, if_neg h2, if_neg h3, Bool.not_false, Bool.and_true]
  by_cases hi : p.index = 0
  ·
   rw [decide_eq_true hi, if_pos rfl, if_pos hz]
   cases hb : Zcf p.name with
   | true =>
    have := Zja hb
    rw [if_pos rfl, if_pos (by rw [Zbd]; simp; omega)]
    exact ⟨_, rfl, fun _ => by rw [ByteArray.size_append, Zbd]; simp⟩
   | false => exact ⟨_, rfl, fun q => absurd q (by decide)⟩
  ·
   rw [decide_eq_false hi]
   exact ⟨_, rfl, fun q => absurd q (by simp)⟩
 ·
  simp only [decide_eq_false h1, decide_eq_false h2, decide_eq_false h3, decide_eq_false h4, Bool.false_and, Bool.false_eq_true, if_false, if_neg (show ¬ (p.kind = 1 ∨ p.kind = 4) by omega), if_neg h2, if_neg h3]
  exact ⟨_, rfl, fun q => absurd q (by decide)⟩
theorem Zpc (n : Nat) (hn : 4 ≤ n) (p : Part) (h : p.wf) : ∃ s, ZeQ n p true = some (s, decide (p.kind = 1) && pOk p) ∧ (p.kind = 1 → pOk p = true → (s.size : Int) = ZqP p - 1) := by
 obtain ⟨_, _, hz⟩ := h
 rw [ZeQ, pOk, ZqP]
 simp only [Bool.not_true, Bool.and_false, Bool.false_eq_true, if_false]
 by_cases h1 : p.kind = 1
 ·
  simp only [decide_eq_true h1, Bool.true_and, if_pos (Or.inl h1 : p.kind = 1 ∨ p.kind = 4), if_pos h1]
  by_cases hi : p.index = 0
  ·
   rw [decide_eq_true hi, if_pos rfl, if_pos hz]
   cases hb : Zcf p.name with
   | true => exact ⟨_, rfl, fun _ _ => by show (p.name.size : Int) = _; omega⟩
   | false =>
    rw [if_neg (by decide), decide_eq_false (show ¬ p.kind = 4 by omega)]
    exact ⟨_, rfl, fun _ q => absurd q (by decide)⟩
  ·
   rw [decide_eq_false hi, decide_eq_false (show ¬ p.kind = 4 by omega)]
   exact ⟨_, rfl, fun _ q => absurd q (by simp)⟩
 ·
  rw [decide_eq_false h1]
  simp only [Bool.false_and, Bool.false_eq_true, if_false]
  by_cases h4 : (decide (p.kind = 4) && decide (p.index = 0)) = true
  ·
   rw [if_pos h4, if_pos hz]
   exact ⟨_, rfl, fun q => absurd q h1⟩
  ·
   rw [if_neg h4]
   exact ⟨_, rfl, fun q => absurd q h1⟩
def ZsN (l : List Part) : Int := (l.map ZqP).sum
theorem ZkQ (n : Nat) (l : List Part) (hw : ∀ p ∈ l, p.wf) (hl : l.length ≤ 20) : ∀ (k m i : Nat) (c : Int), i + k = l.length → k < m → -1 ≤ c → c ≤ 40 * i →
  Zcy n l m c i = some (if ((l.drop i).all pOk && decide (c + ZsN (l.drop i) ≤ 200)) = true then 0 else 3)
 | k, 0, i, _, _, h, _, _ => absurd h (Nat.not_lt_zero _)
 | 0, m + 1, i, c, hi, _, _, _ => by
  rw [Zcy, Zao, decide_eq_false (by omega), List.drop_eq_nil_of_le (by omega)]
  simp only [Bool.false_eq_true, if_false, Zf1, ZsN, List.map_nil, List.sum_nil, Int.add_zero, List.all_nil, Bool.true_and]
  by_cases q : 200 < c
  ·
   rw [if_pos (decide_eq_true q), if_neg (by rw [decide_eq_true_eq]; omega)]
  ·
   rw [if_neg (by rw [decide_eq_true_eq]; omega), if_pos (by rw [decide_eq_true_eq]; omega)]
 | k + 1, m + 1, i, c, hi, hm, h1, h2 => by
  have hlt : i < l.length := by omega
  rw [Zcy, Zao, decide_eq_true hlt, List.drop_eq_getElem_cons hlt, List.all_cons]
  simp only [if_true, Zan hlt, Option.bind_some, Zq6 _ (hw _ (List.getElem_mem hlt))]
  cases hb : pOk l[i] with
  | false => rfl
  | true =>
   obtain ⟨s, e, z, z1, z2⟩ := ZlA _ hb
   simp only [Bool.not_true, Bool.false_eq_true, if_false, e, Option.bind_some, Bool.true_and]
   rw [if_pos (by unfold I64; omega), if_pos (Zaq (by omega)), z]
   have ih := ZkQ n l hw hl k m (i + 1) (c + ZqP l[i]) (by omega) (by omega) (by omega) (by omega)
   rw [show ((i : Int) + 1) = ((i + 1 : Nat) : Int) by omega, ih]
   simp only [ZsN, List.map_cons, List.sum_cons, Int.add_assoc]
theorem Zko (n : Nat) (hn : 4 ≤ n) (l : List Part) (hw : ∀ p ∈ l, p.wf) (hl : l.length ≤ 20) : ∀ (k m i : Nat) (s : ByteArray), 0 < i → i + k = l.length → k < m → s.size ≤ 40 * i →
  ∃ s', Zb6 n l m s i = some (s', (l.drop i).all pOk && decide ((s.size : Int) + ZsN (l.drop i) ≤ 200))
 | k, 0, i, _, _, _, h, _ => absurd h (Nat.not_lt_zero _)
 | 0, m + 1, i, c, _, hi, _, _ => by
  rw [Zb6, Zao, decide_eq_false (by omega), List.drop_eq_nil_of_le (by omega)]
  simp only [Bool.false_eq_true, if_false, Zg4, ZsN, List.map_nil, List.sum_nil, Int.add_zero, List.all_nil, Bool.true_and]
  exact ⟨_, rfl⟩
 | k + 1, m + 1, i, c, h0, hi, hm, h1 => by
  have hlt : i < l.length := by omega
  obtain ⟨s, e, z⟩ := ZpN n hn l[i] (hw _ (List.getElem_mem hlt))
  rw [Zb6, Zao, decide_eq_true hlt, List.drop_eq_getElem_cons hlt, List.all_cons]
  rw [decide_eq_false (show ¬ ((i : Nat) : Int) = 0 by omega)]
  simp only [if_true, Zan hlt, Option.bind_some, e]
  cases hb : pOk l[i] with
  | false => exact ⟨_, rfl⟩
  | true =>
   obtain ⟨_, _, _, z1, z2⟩ := ZlA _ hb
   have zz := z hb
   simp only [Bool.not_true, Bool.false_eq_true, if_false, Bool.true_and]
   rw [if_pos (by omega), if_pos (Zaq (by omega))]
   obtain ⟨s', ih⟩ := Zko n hn l hw hl k m (i + 1) (c ++ s) (by omega) (by omega) (by omega) (by rw [ByteArray.size_append]; omega)
   rw [show ((i : Int) + 1) = ((i + 1 : Nat) : Int) by omega, ih]
   refine ⟨s', ?_⟩
   simp only [ZsN, List.map_cons, List.sum_cons, ByteArray.size_append, Int.natCast_add, zz, Int.add_assoc]
theorem Zpn (n : Nat) (hn : 25 ≤ n) (l : List Part) (hw : ∀ p ∈ l, p.wf) (hl : l.length ≤ 20) : ∃ (s : ByteArray) (b : Bool), ZgN n l = some (if b = true then 0 else 3) ∧ ZgC n l = some (s, b) ∧ (b = true → ∀ p ∈ l, pOk p = true) := by
 rw [ZgN, ZgC]
 by_cases h : l.length < 1 ∨ 16 < l.length
 ·
  refine ⟨⟨#[]⟩, false, ?_, ?_, fun q => absurd q (by decide)⟩
  ·
   rw [if_pos (by simp only [Bool.or_eq_true, decide_eq_true_eq]; omega)]; rfl
  ·
   rw [if_pos (by simp only [Bool.or_eq_true, decide_eq_true_eq]; omega)]
 rw [if_neg (by simp only [Bool.or_eq_true, decide_eq_true_eq]; omega), if_neg (by simp only [Bool.or_eq_true, decide_eq_true_eq]; omega)]
 match l, h, hw, hl with
 | [], h, _, _ => exact absurd (Or.inl (by simp)) h
 | p :: r, h, hw, hl =>
 rw [List.length_cons] at hl
 have hp := hw p (List.mem_cons_self ..)
 have e0 : idx (p :: r) 0 = some p := rfl
 rw [e0, Option.bind_some]
 obtain ⟨n', rfl⟩ : ∃ n', n = n' + 1 := ⟨n - 1, by omega⟩
 rw [Zb6, decide_eq_true (show (0 : Int) < ((p :: r).length : Int) by rw [List.length_cons]; omega), if_pos rfl, e0, Option.bind_some, decide_eq_true (rfl : (0 : Int) = 0)]
 obtain ⟨s, e, z⟩ := Zpc (n' + 1) (by omega) p hp
 rw [e, Option.bind_some]
 by_cases h1 : p.kind = 1
 ·
  rw [decide_eq_true h1]
  simp only [Bool.not_true, Bool.false_eq_true, if_false, Bool.true_and]
  have ec : Zcy (n' + 1) (p :: r) (n' + 1) (-1) 0 = _ := ZkQ (n' + 1) (p :: r) hw (by rw [List.length_cons]; omega) (p :: r).length (n' + 1) 0 (-1) (by omega) (by rw [List.length_cons]; omega) (by omega) (by omega)
  rw [List.drop_zero, List.all_cons] at ec
  rw [ec]
  cases hb : pOk p with
  | false =>
   exact ⟨_, false, rfl, rfl, fun q => absurd q (by decide)⟩
  | true =>
   have zz := z h1 hb
   obtain ⟨_, _, _, z1, z2⟩ := ZlA _ hb
   have es : (⟨#[]⟩ : ByteArray).size = 0 := rfl
   simp only [Bool.not_true, Bool.false_eq_true, if_false, Bool.true_and]
   rw [if_pos (show (⟨#[]⟩ : ByteArray).size + s.size ≤ 9223372036854775807 by rw [es]; omega), if_pos (show I64 (0 + 1) by unfold I64; omega)]
   have ez : ((⟨#[]⟩ : ByteArray) ++ s).size = s.size := by rw [ByteArray.size_append, es]; omega
   obtain ⟨s', ih⟩ := Zko (n' + 1) (by omega) (p :: r) hw (by rw [List.length_cons]; omega) r.length n' 1 ((⟨#[]⟩ : ByteArray) ++ s) (by omega) (by rw [List.length_cons]; omega) (by omega) (by rw [ez]; omega)
   have ih2 : Zb6 (n' + 1) (p :: r) n' ((⟨#[]⟩ : ByteArray) ++ s) (0 + 1) = _ := ih
   rw [ez, zz, List.drop_succ_cons, List.drop_zero] at ih2
   rw [ih2]
   have e3 : (-1 + ZsN (p :: r)) = ZqP p - 1 + ZsN r := by simp only [ZsN, List.map_cons, List.sum_cons]; omega
   rw [e3]
   refine ⟨s', _, rfl, rfl, fun q => ?_⟩
   rw [Bool.and_eq_true] at q
   intro x hx
   rcases List.mem_cons.1 hx with rfl | hx
   ·
    exact hb
   ·
    exact List.all_eq_true.1 q.1 x hx
 ·
  rw [decide_eq_false h1]
  exact ⟨_, false, rfl, rfl, fun q => absurd q (by decide)⟩
theorem Znb (n : Nat) (l : List Part) (hl : l.length ≤ 1000000) : ∀ (k m i : Nat), i + k = l.length → k < m → ZcZ n l m (l.take i) i = some l
 | k, 0, i, _, h => absurd h (Nat.not_lt_zero _)
 | 0, m + 1, i, hi, _ => by
  rw [ZcZ, Zao, decide_eq_false (by omega)]
  simp only [Bool.false_eq_true, if_false, ZfQ]
  rw [List.take_of_length_le (by omega)]
 | k + 1, m + 1, i, hi, hm => by
  have hlt : i < l.length := by omega
  rw [ZcZ, Zao, decide_eq_true hlt]
  simp only [if_true, Zan hlt, Option.bind_some]
  rw [if_pos (by rw [List.length_take]; omega), if_pos (Zaq (by omega))]
  have e : l.take i ++ [l[i]] = l.take (i + 1) := by rw [List.take_succ_eq_append_getElem hlt]
  rw [e]
  exact Znb n l hl k m (i + 1) (by omega) (by omega)
theorem Znd (n : Nat) (l : List Part) (hl : l.length ≤ 1000000) (hn : l.length < n) : Zfs n l = some l := by
 have := Znb n l hl l.length n 0 (by omega) hn
 rw [List.take_zero] at this
 exact this
def Zcz (n : Nat) (again_l7 : Bool → Int → Ty → Option (Ty × Bool × Int)) (x7_l7 : Int) (x5_k12 : Bool) (b1_k12 : Ty) : Option (Ty × Bool × Int) :=
 if I64 (x7_l7 + 1) then
  again_l7 x5_k12 (x7_l7 + 1) b1_k12
 else none
def ZhM (n : Nat)  (x5_k4 : Bool) (b1_k4 : Ty) : Option (Ty × Bool × Int) :=
 some ((b1_k4, x5_k4, 0))
def Zcg (n : Nat) (a1 : List Part) : Nat → Bool → Int → Ty → Option (Ty × Bool × Int)
 | 0, _, _, _ => none
 | m + 1, x5_l7, x7_l7, b1_l7 =>
  if decide (x7_l7 < ((a1.length : Int))) then
   (idx a1 x7_l7).bind fun x15 =>
   (idx ([0, 9, 8, 8, 10]) x15.kind).bind fun x16 =>
   if !(decide (b1_l7.kind = x16)) then
    some ((Ty.mk 0 0 0 0 ([]) ([]) ([]), false, 11))
   else
    if decide (x16 = 8) then
     if decide (x15.kind = 2) then
      if decide (b1_l7.max ≤ x15.index) then
       some ((Ty.mk 0 0 0 0 ([]) ([]) ([]), false, 2))
      else
       if x5_l7 then
        (idx b1_l7.elem 0).bind fun x32 =>
        Zcz n (Zcg n a1 m) x7_l7 true x32
       else
        (idx b1_l7.elem 0).bind fun x34 =>
        Zcz n (Zcg n a1 m) x7_l7 (decide (b1_l7.min ≤ x15.index)) x34
     else
      if x5_l7 then
       (idx b1_l7.elem 0).bind fun x39 =>
       Zcz n (Zcg n a1 m) x7_l7 true x39
      else
       (idx b1_l7.elem 0).bind fun x41 =>
       Zcz n (Zcg n a1 m) x7_l7 (decide (b1_l7.min ≤ x15.index)) x41
    else
     (ZdH n b1_l7 x15.name).bind fun y43 =>
     if decide (y43 < 0) then
      some ((Ty.mk 0 0 0 0 ([]) ([]) ([]), false, 21))
     else
      if x5_l7 then
       (idx b1_l7.fields y43).bind fun x50 =>
       Zcz n (Zcg n a1 m) x7_l7 true x50.2.2.2.1
      else
       (idx b1_l7.fields y43).bind fun x51 =>
       Zcz n (Zcg n a1 m) x7_l7 ((decide (x51.2.2.1 = 2)) || ((decide (x16 = 10)) && (decide (1 < ((b1_l7.fields.length : Int)))))) x51.2.2.2.1
  else
   ZhM n x5_l7 b1_l7
def ZlD (n : Nat) (a0 : Ty) (a1 : List Part) : Option (Ty × Bool × Int) :=
 Zcg n a1 n false 0 a0
theorem Zsz (w0 : World) (n : Nat) (B : List (List AV)) (Rw : List RowA) (L : List LoopA) (a0 : Ty) (a1 : List Part) (r : Ty × Bool × Int) (h : ZlD n a0 a1 = some r) :
  ACalls Tryz.prog w0 29 [.agg (a0.cs), .list (a1.map ZfK) .none] ⟨B, Rw, L⟩ fun x st => x = .tup [.agg (r.1.cs), .val (.bool r.2.1), .val (.int .i64 r.2.2)] ∧ st = ⟨B, Rw, L⟩ := by
 rw [ZlD] at h
 refine hd [.cell 4 26, .tmp 5, .tmp 6] Tryz.func29 Tryz.ntmps29 fun M0 W0 hN hNR hNL hcalm hu hO hs => ?_
 simp only [Zas]
 refine rg [1, 2, 4, 5] hs ?_
 refine rg [1, 4, 5] hs ?_
 refine Zah (fun e st => ∃ (x5_k4 : Bool) (b1_k4 : Ty) (cb1_k4 : List AV), Ck e st B Rw L [(4, true, .box (B.length + 1) 0), (5, true, .val (.bool x5_k4))] [a0.cs, cb1_k4] [] (cb1_k4.map AV.pubCell = b1_k4.cs ∧ ZhM n x5_k4 b1_k4 = some r)) ?_ ?_
 ·
  intro K5 hK5
  refine rg [1, 4, 5, 7] hs ?_
  apply Zae
  refine Zai (fun m e st => ∃ (x5_l7 : Bool) (x7_l7 : Int) (b1_l7 : Ty) (cb1_l7 : List AV), Ck e st B Rw L [(1, true, .list (a1.map ZfK) .none), (4, true, .box (B.length + 1) 0), (5, true, .val (.bool x5_l7)), (7, true, .val (.int .i64 x7_l7))] [a0.cs, cb1_l7] [] (cb1_l7.map AV.pubCell = b1_l7.cs ∧ Zcg n a1 m x5_l7 x7_l7 b1_l7 = some r)) n ⟨false, 0, a0, _, ([]), Rw, ef hs, ef hs, hO, ef hs, h⟩ ?_
  rintro ml7 e st ⟨x5_l7, x7_l7, b1_l7, cb1_l7, Xl7, Rl7, rfl, rfl, hO, hr0, h⟩ Ul7 Vl7
  cases ml7 with
  | zero => cases h
  | succ ml7 =>
  rw [Zcg] at h
  refine ZcG (B.length + 1) (by first | rfl | (simp only [ZgB, Ze9, Zg6, ZfI]; rfl)) hr0 ?_; simp +decide only [go_sem, Nat.reduceAdd]
  show awp _ _ _ _ _ _ _ _ [(1, true, .list (a1.map ZfK) .none), (4, true, .box (B.length + 1) 0), (5, true, .val (.bool x5_l7)), (7, true, .val (.int .i64 x7_l7))] ⟨B ++ ([a0.cs, b1_l7.cs] ++ Xl7), Rl7, L⟩
  refine td hN hNR hNL hcalm hO ?_
  apply Zab; intro K8 hK8
  refine rg [1, 4, 5, 7, 14] hs ?_
  refine cnd h hs (fun hs h => ?_) (fun hs h => ?_)
  rotate_left
  ·
   have hb10 := hs.1
   refine sx [4, 5] hs hK5 ?_
   exact ⟨x5_l7, b1_l7, _, ([]), Rl7, ef hs, ef hs, hO, ef hs, h⟩
  have hb10 := hs.1
  refine sk [1, 4, 5, 7] hs hK8 ?_
  clear hK8
  refine Zah (fun e st => ∃ (x5_k12 : Bool) (b1_k12 : Ty) (cb1_k12 : List AV), Ck e st B Rw L [(1, true, .list (a1.map ZfK) .none), (4, true, .box (B.length + 1) 0), (5, true, .val (.bool x5_k12)), (7, true, .val (.int .i64 x7_l7))] [a0.cs, cb1_k12] [] (cb1_k12.map AV.pubCell = b1_k12.cs ∧ Zcz n (Zcg n a1 ml7) x7_l7 x5_k12 b1_k12 = some r)) ?_ ?_
  ·
   intro K13 hK13
   apply Zae
   obtain ⟨x15, hx15, h⟩ := bind_some h
   obtain ⟨hx15a, hx15b, hx15c⟩ := Zar hx15
   have hx15d := Zau (f := ZfK) hx15c
   obtain ⟨x16, hx16, h⟩ := bind_some h
   obtain ⟨hx16a, hx16b, hx16c⟩ := Zar hx16
   have hx16d := Zau (f := avI) hx16c
   simp only [List.map_cons, List.map_nil, Zeo, ZeZ, ZeI, ZeW, Ze2, Zen, ZcY, Zc1, ZeL, ZbO, ZbP, Zc5] at hx16d
   simp only [List.length_cons, List.length_nil] at hx16b
   have hs := And.intro hx15d hs
   have hs := And.intro hx16d hs
   refine rg [1, 4, 5, 7, 8] hs ?_
   apply Zab; intro K17 hK17
   refine rg [1, 4, 5, 7, 8, 28] hs ?_
   refine cnd h hs (fun hs h => ?_) (fun hs h => ?_)
   ·
    have hb19 := hs.1
    apply Zab; intro K20 hK20
    apply Zad 1 [4, 5, 6]
    rw [Zaa]; simp +decide only [go_sem, Nat.reduceAdd, hb10, hx15d, hx16d, hb19, ZaZ, ZaA, Zay]
    (repeat' apply And.intro) <;> first | refine hK20 _ _ ?_ | exact cl
    clear hK20
    exact rt h hs hcalm hO
   have hb19 := hs.1
   refine sk [1, 4, 5, 7, 8] hs hK17 ?_
   clear hK17
   apply Zab; intro K21 hK21
   refine rg [1, 4, 5, 7, 8, 31] hs ?_
   refine cnd h hs (fun hs h => ?_) (fun hs h => ?_)
   ·
    have hb23 := hs.1
    apply Zab; intro K24 hK24
    apply Zab; intro K25 hK25
    rcases Bool.eq_false_or_eq_true (decide (x15.kind = 2)) with hf26 | hf26
    ·
     replace h := ZaN h hf26
     apply Zak mix 16 1 1 [1, 4, 5, 7, 47] (by kernel_rfl)
     rw [Zaa]; simp +decide only [go_sem, Nat.reduceAdd, hb10, hx15d, hx16d, hb19, hb23, hf26]
     (repeat' with_reducible apply And.intro) <;> first | (rw [Zaa]; simp +decide only [go_sem, Nat.reduceAdd, hb10, hx15d, hx16d, hb19, hb23, hf26]) | exact cl
     (repeat' apply And.intro) <;> first | refine hK25 _ _ ?_ | exact cl
     clear hK25
     have hs := And.intro hf26 hs
     refine cnd h hs (fun hs h => ?_) (fun hs h => ?_)
     ·
      have hb27 := hs.1
      apply Zab; intro K28 hK28
      apply Zad 1 [4, 5, 6]
      rw [Zaa]; simp +decide only [go_sem, Nat.reduceAdd, hb10, hx15d, hx16d, hb19, hb23, hf26, hb27, ZaZ, ZaA, Zay]
      (repeat' apply And.intro) <;> first | refine hK28 _ _ ?_ | exact cl
      clear hK28
      exact rt h hs hcalm hO
     have hb27 := hs.1
     refine sk [1, 4, 5, 7] hs hK24 ?_
     clear hK24
     apply Zab; intro K29 hK29
     rcases Bool.eq_false_or_eq_true (x5_l7) with hf30 | hf30
     ·
      replace h := ZaN h hf30
      apply Zak mix 11 1 1 [1, 4, 5, 7] (by kernel_rfl)
      rw [Zaa]; simp +decide only [go_sem, Nat.reduceAdd, hb10, hx15d, hx16d, hb19, hb23, hf26, hb27, hf30]
      (repeat' with_reducible apply And.intro) <;> first | (rw [Zaa]; simp +decide only [go_sem, Nat.reduceAdd, hb10, hx15d, hx16d, hb19, hb23, hf26, hb27, hf30]) | exact cl
      (repeat' apply And.intro) <;> first | refine hK29 _ _ ?_ | exact cl
      clear hK29
      obtain ⟨x32, hx32, h⟩ := bind_some h
      obtain ⟨hx32a, hx32b, hx32c⟩ := Zar hx32
      have hx32d := Zau (f := avT) hx32c
      have hx32e : (b1_l7.elem.map avT).getD 0 .junk = _ := hx32d
      have hs := And.intro hf30 hs
      have hs := And.intro hx32d hs
      have hs := And.intro hx32e hs
      refine rg [1, 4, 5, 7] hs ?_
      refine sx [1, 4, 5, 7] hs hK13 ?_
      exact ⟨true, x32, _, ([]), Rl7, ef hs, ef hs, hO, ef hs, h⟩
     ·
      replace h := ZaM h hf30
      apply Zak mix 11 1 1 [1, 4, 5, 7] (by kernel_rfl)
      rw [Zaa]; simp +decide only [go_sem, Nat.reduceAdd, hb10, hx15d, hx16d, hb19, hb23, hf26, hb27, hf30]
      (repeat' with_reducible apply And.intro) <;> first | (rw [Zaa]; simp +decide only [go_sem, Nat.reduceAdd, hb10, hx15d, hx16d, hb19, hb23, hf26, hb27, hf30]) | exact cl
      (repeat' apply And.intro) <;> first | refine hK29 _ _ ?_ | exact cl
      clear hK29
      obtain ⟨x34, hx34, h⟩ := bind_some h
      obtain ⟨hx34a, hx34b, hx34c⟩ := Zar hx34
      have hx34d := Zau (f := avT) hx34c
      have hx34e : (b1_l7.elem.map avT).getD 0 .junk = _ := hx34d
      have hs := And.intro hf30 hs
      have hs := And.intro hx34d hs
      have hs := And.intro hx34e hs
      refine rg [1, 4, 5, 7] hs ?_
      refine sx [1, 4, 5, 7] hs hK13 ?_
      exact ⟨(decide (b1_l7.min ≤ x15.index)), x34, _, ([]), Rl7, ef hs, ef hs, hO, ef hs, h⟩
    ·
     replace h := ZaM h hf26
     apply Zak mix 16 1 1 [1, 4, 5, 7, 47] (by kernel_rfl)
     rw [Zaa]; simp +decide only [go_sem, Nat.reduceAdd, hb10, hx15d, hx16d, hb19, hb23, hf26]
     (repeat' with_reducible apply And.intro) <;> first | (rw [Zaa]; simp +decide only [go_sem, Nat.reduceAdd, hb10, hx15d, hx16d, hb19, hb23, hf26]) | exact cl
     (repeat' apply And.intro) <;> first | refine hK25 _ _ ?_ | exact cl
     clear hK25
     have hs := And.intro hf26 hs
     refine Zap false ev (ef hs) (fun hb35 => by cases hb35) (fun hb35 => ?_)
     refine sk [1, 4, 5, 7] hs hK24 ?_
     clear hK24
     apply Zab; intro K36 hK36
     rcases Bool.eq_false_or_eq_true (x5_l7) with hf37 | hf37
     ·
      replace h := ZaN h hf37
      apply Zak mix 11 1 1 [1, 4, 5, 7] (by kernel_rfl)
      rw [Zaa]; simp +decide only [go_sem, Nat.reduceAdd, hb10, hx15d, hx16d, hb19, hb23, hf26, hf37]
      (repeat' with_reducible apply And.intro) <;> first | (rw [Zaa]; simp +decide only [go_sem, Nat.reduceAdd, hb10, hx15d, hx16d, hb19, hb23, hf26, hf37]) | exact cl
      (repeat' apply And.intro) <;> first | refine hK36 _ _ ?_ | exact cl
      clear hK36
      obtain ⟨x39, hx39, h⟩ := bind_some h
      obtain ⟨hx39a, hx39b, hx39c⟩ := Zar hx39
      have hx39d := Zau (f := avT) hx39c
      have hx39e : (b1_l7.elem.map avT).getD 0 .junk = _ := hx39d
      have hs := And.intro hf37 hs
      have hs := And.intro hx39d hs
      have hs := And.intro hx39e hs
      refine rg [1, 4, 5, 7] hs ?_
      refine sx [1, 4, 5, 7] hs hK13 ?_
      exact ⟨true, x39, _, ([]), Rl7, ef hs, ef hs, hO, ef hs, h⟩
     ·
      replace h := ZaM h hf37
      apply Zak mix 11 1 1 [1, 4, 5, 7] (by kernel_rfl)
      rw [Zaa]; simp +decide only [go_sem, Nat.reduceAdd, hb10, hx15d, hx16d, hb19, hb23, hf26, hf37]
      (repeat' with_reducible apply And.intro) <;> first | (rw [Zaa]; simp +decide only [go_sem, Nat.reduceAdd, hb10, hx15d, hx16d, hb19, hb23, hf26, hf37]) | exact cl
      (repeat' apply And.intro) <;> first | refine hK36 _ _ ?_ | exact cl
      clear hK36
      obtain ⟨x41, hx41, h⟩ := bind_some h
      obtain ⟨hx41a, hx41b, hx41c⟩ := Zar hx41
      have hx41d := Zau (f := avT) hx41c
      have hx41e : (b1_l7.elem.map avT).getD 0 .junk = _ := hx41d
      have hs := And.intro hf37 hs
      have hs := And.intro hx41d hs
      have hs := And.intro hx41e hs
      refine rg [1, 4, 5, 7] hs ?_
      refine sx [1, 4, 5, 7] hs hK13 ?_
      exact ⟨(decide (b1_l7.min ≤ x15.index)), x41, _, ([]), Rl7, ef hs, ef hs, hO, ef hs, h⟩
   have hb23 := hs.1
   refine sk [1, 4, 5, 7, 8] hs hK21 ?_
   clear hK21
   apply Zab; intro K42 hK42
   obtain ⟨y43, hy43, h⟩ := bind_some h
   apply Zak mix 8 2 1 [1, 4, 5, 7, 8, 9] (by kernel_rfl)
   rw [Zaa]; simp +decide only [go_sem, Nat.reduceAdd, hb10, hx15d, hx16d, hb19, hb23]
   (repeat' apply And.intro) <;> first | refine Zaf _ (ZhB w0 n _ _ _ b1_l7 x15.name _ hy43) (hv hs) ?_ | exact cl
   rw [Zaa]; simp +decide only [go_sem, Nat.reduceAdd, hb10, hx15d, hx16d, hb19, hb23]
   (repeat' with_reducible apply And.intro) <;> first | (rw [Zaa]; simp +decide only [go_sem, Nat.reduceAdd, hb10, hx15d, hx16d, hb19, hb23]) | exact cl
   (repeat' apply And.intro) <;> first | refine hK42 _ _ ?_ | exact cl
   clear hK42
   apply Zab; intro K44 hK44
   refine rg [1, 4, 5, 7, 8, 9, 72] hs ?_
   refine cnd h hs (fun hs h => ?_) (fun hs h => ?_)
   ·
    have hb46 := hs.1
    apply Zab; intro K47 hK47
    apply Zad 1 [4, 5, 6]
    rw [Zaa]; simp +decide only [go_sem, Nat.reduceAdd, hb10, hx15d, hx16d, hb19, hb23, hb46, ZaZ, ZaA, Zay]
    (repeat' apply And.intro) <;> first | refine hK47 _ _ ?_ | exact cl
    clear hK47
    exact rt h hs hcalm hO
   have hb46 := hs.1
   refine sk [1, 4, 5, 7, 8, 9] hs hK44 ?_
   clear hK44
   apply Zab; intro K48 hK48
   rcases Bool.eq_false_or_eq_true (x5_l7) with hf49 | hf49
   ·
    replace h := ZaN h hf49
    have hs := And.intro hf49 hs
    refine rl [1, 4, 5, 7, 9] hs hK48 ?_
    clear hK48
    obtain ⟨x50, hx50a, hx50b, hx50d, h⟩ := ix Zek h
    have hs := And.intro hx50d hs
    refine rl [1, 4, 5, 7] hs hK13 ?_
    exact ⟨true, x50.2.2.2.1, _, ([]), Rl7, ef hs, ef hs, hO, ef hs, h⟩
   ·
    replace h := ZaM h hf49
    obtain ⟨x51, hx51a, hx51b, hx51d, h⟩ := ix Zek h
    have hs := And.intro hf49 hs
    have hs := And.intro hx51d hs
    refine rl [1, 4, 5, 7, 9] hs hK48 ?_
    clear hK48
    refine rl [1, 4, 5, 7] hs hK13 ?_
    exact ⟨((decide (x51.2.2.1 = 2)) || ((decide (x16 = 10)) && (decide (1 < ((b1_l7.fields.length : Int)))))), x51.2.2.2.1, _, ([]), Rl7, ef hs, ef hs, hO, ef hs, h⟩
  ·
   clear h; rintro e st ⟨x5_k12, b1_k12, cb1_k12, Xk12, Rk12, rfl, rfl, hO, hr0, h⟩
   rw [Zcz] at h
   refine ZcG (B.length + 1) (by first | rfl | (simp only [ZgB, Ze9, Zg6, ZfI]; rfl)) hr0 ?_; simp +decide only [go_sem, Nat.reduceAdd]
   show awp _ _ _ _ _ _ _ _ [(1, true, .list (a1.map ZfK) .none), (4, true, .box (B.length + 1) 0), (5, true, .val (.bool x5_k12)), (7, true, .val (.int .i64 x7_l7))] ⟨B ++ ([a0.cs, b1_k12.cs] ++ Xk12), Rk12, L⟩
   refine td hN hNR hNL hcalm hO ?_
   obtain ⟨hg52, h⟩ := Zac h
   refine rl [1, 4, 5, 7] hs (fun e s => Vl7 ml7 e s (Nat.lt_succ_self _)) ?_
   exact ⟨x5_k12, (x7_l7 + 1), b1_k12, _, ([]), Rk12, ef hs, ef hs, hO, ef hs, h⟩
 ·
  clear h; rintro e st ⟨x5_k4, b1_k4, cb1_k4, Xk4, Rk4, rfl, rfl, hO, hr0, h⟩
  rw [ZhM] at h
  refine ZcG (B.length + 1) (by first | rfl | (simp only [ZgB, Ze9, Zg6, ZfI]; rfl)) hr0 ?_; simp +decide only [go_sem, Nat.reduceAdd]
  show awp _ _ _ _ _ _ _ _ [(4, true, .box (B.length + 1) 0), (5, true, .val (.bool x5_k4))] ⟨B ++ ([a0.cs, b1_k4.cs] ++ Xk4), Rk4, L⟩
  refine td hN hNR hNL hcalm hO ?_
  refine rg [4, 5, 6] hs ?_
  exact rt h hs hcalm hO
def Zbw (n : Nat) (y14 : (Ty × Bool × Int)) (x8_k28 : Int) (x10_k28 : Bool) (b2_k28 : Ty) : Option Bool :=
 (Zce n y14.1 b2_k28).bind fun y35 =>
 some ((y35 && (y14.2.1 == x10_k28)) && (decide (y14.2.2 = x8_k28)))
def ZbB (n : Nat) (a0 : Ty) (a1 : List Part) (y14 : (Ty × Bool × Int)) (x8_k20 : Int) : Option Bool :=
 if decide (x8_k20 = 0) then
  (Zfs n a1).bind fun y32 =>
  (ZlD n a0 y32).bind fun y33 =>
  Zbw n y14 y33.2.2 y33.2.1 y33.1
 else
  Zbw n y14 x8_k20 false (Ty.mk 0 0 0 0 ([]) ([]) ([]))
def Zev (n : Nat) (a0 : Ty) (a1 : List Part) : Option Bool :=
 (ZdP n ).bind fun y4 =>
 if !y4 then
  (ZdP n ).bind fun y8 =>
  some (y8)
 else
  (Zfx n a0).bind fun y9 =>
  if (!y9) || (decide (20 < ((a1.length : Int)))) then
   (ZdP n ).bind fun y12 =>
   some (y12)
  else
   (ZmZ n a0 a1).bind fun y14 =>
   (Zfw n a0).bind fun y16 =>
   (Zfs n a1).bind fun y23 =>
   (ZgC n y23).bind fun y24 =>
   if (decide (y16 = 0)) && (!y24.2) then
    ZbB n a0 a1 y14 3
   else
    ZbB n a0 a1 y14 y16
theorem Zkg (w0 : World) (hP : Pow10 w0) (hT : Lib.Utf8Tabs 0 1 w0) (n : Nat) (B : List (List AV)) (Rw : List RowA) (L : List LoopA) (a0 : Ty) (a1 : List Part) (r : Bool) (h : Zev n a0 a1 = some r) :
  ACalls Tryz.prog w0 6 [.agg (a0.cs), .list (a1.map ZfK) .none] ⟨B, Rw, L⟩ fun x st => x = .val (.bool r) ∧ st = ⟨B, Rw, L⟩ := by
 rw [Zev] at h
 refine hd [.tmp 4] Tryz.func6 Tryz.ntmps6 fun M0 W0 hN hNR hNL hcalm hu hO hs => ?_
 simp only [Zas]
 refine rg [1, 2] hs ?_
 apply Zab; intro K2 hK2
 apply Zab; intro K3 hK3
 obtain ⟨y4, hy4, h⟩ := bind_some h
 rcases Bool.eq_false_or_eq_true (!y4) with hf5 | hf5
 ·
  replace h := ZaN h hf5
  apply Zad 3 [1, 2, 24]
  rw [Zaa]; simp +decide only [go_sem, Nat.reduceAdd, hf5]
  have hs := And.intro hf5 hs
  (repeat' apply And.intro) <;> first | refine Zaf _ (ZfU w0 hP hT n _ _ _  _ hy4) (hv hs) ?_ | exact cl
  rw [Zaa]; simp +decide only [go_sem, Nat.reduceAdd, hf5]
  (repeat' apply And.intro) <;> first | refine ZaE ?_ | exact cl
  rw [Zaa]; simp +decide only [go_sem, Nat.reduceAdd, hf5]
  (repeat' apply And.intro) <;> first | refine hK3 _ _ ?_ | exact cl
  clear hK3
  refine Zap true ev (ef hs) (fun hb6 => ?_) (fun hb6 => by cases hb6)
  obtain ⟨y8, hy8, h⟩ := bind_some h
  refine rc 2 [4] hs ?_; intro K7 hK7
  refine Zaf _ (ZfU w0 hP hT n _ _ _  _ hy8) (hv hs) ?_
  refine ne hs hK7 ?_
  clear hK7
  exact rt h hs hcalm hO
 ·
  replace h := ZaM h hf5
  obtain ⟨y9, hy9, h⟩ := bind_some h
  have hs := And.intro hf5 hs
  refine rk 3 [1, 2, 24] hs ?_
  refine Zaf _ (ZfU w0 hP hT n _ _ _  _ hy4) (hv hs) ?_
  refine nc hs ?_
  refine Zaf _ (ZnN w0 n _ _ _ a0 _ hy9) (hv hs) ?_
  refine ne hs hK3 ?_
  clear hK3
  refine cnd h hs (fun hs h => ?_) (fun hs h => ?_)
  ·
   have hb10 := hs.1
   obtain ⟨y12, hy12, h⟩ := bind_some h
   refine rc 2 [4] hs ?_; intro K11 hK11
   refine Zaf _ (ZfU w0 hP hT n _ _ _  _ hy12) (hv hs) ?_
   refine ne hs hK11 ?_
   clear hK11
   exact rt h hs hcalm hO
  have hb10 := hs.1
  refine sk [1, 2] hs hK2 ?_
  clear hK2
  obtain ⟨y14, hy14, h⟩ := bind_some h
  refine rc 2 [1, 2, 5, 6, 7] hs ?_; intro K13 hK13
  refine Zaf _ (Zqj w0 hP hT n _ _ _ a0 a1 _ hy14) (hv hs) ?_
  refine ne hs hK13 ?_
  clear hK13
  obtain ⟨y16, hy16, h⟩ := bind_some h
  refine rc 2 [1, 2, 5, 6, 7, 8] hs ?_; intro K15 hK15
  refine Zaf _ (Znm w0 hT n _ _ _ a0 _ hy16) (hv hs) ?_
  refine ne hs hK15 ?_
  clear hK15
  refine rg [1, 2, 5, 6, 7, 8, 9] hs ?_
  refine rg [1, 2, 5, 6, 7, 8, 9, 10] hs ?_
  refine Zah (fun e st => ∃ (x8_k20 : Int), Ck e st B Rw L [(1, true, .list (a1.map ZfK) .none), (2, true, .box B.length 0), (5, true, .box (B.length + 1) 0), (6, true, .val (.bool y14.2.1)), (7, true, .val (.int .i64 y14.2.2)), (8, true, .val (.int .i64 x8_k20)), (9, true, .box (B.length + 2) 0), (10, true, .val (.bool false))] [a0.cs, y14.1.cs, [.val (.int .i64 0), .val (.int .i64 0), .val (.int .i64 0), .val (.int .i64 0), .list ([]) .full, .list ([]) .full, .list ([]) .full]] [] (ZbB n a0 a1 y14 x8_k20 = some r)) ?_ ?_
  ·
   intro K21 hK21
   obtain ⟨y23, hy23, h⟩ := bind_some h
   obtain ⟨y24, hy24, h⟩ := bind_some h
   refine rc 3 [1, 2, 5, 6, 7, 8, 9, 10, 12] hs ?_; intro K22 hK22
   refine Zaf _ (ZjC w0 n _ _ _ a1 _ hy23) (hv hs) ?_
   refine nc hs ?_
   refine Zaf _ (Zpw w0 n _ _ _ y23 _ hy24) (hv hs) ?_
   refine ne hs hK22 ?_
   clear hK22
   refine rg [1, 2, 5, 6, 7, 8, 9, 10, 46] hs ?_
   refine cnd h hs (fun hs h => ?_) (fun hs h => ?_)
   ·
    refine rl [1, 2, 5, 6, 7, 8, 9, 10] hs hK21 ?_
    exact ⟨3, ([]), Rw, ef hs, ef hs, hO, h⟩
   refine sk [1, 2, 5, 6, 7, 8, 9, 10] hs hK21 ?_
   exact ⟨y16, ([]), Rw, ef hs, ef hs, hO, h⟩
  ·
   clear h; rintro e st ⟨x8_k20, Xk20, Rk20, rfl, rfl, hO, h⟩
   rw [ZbB] at h
   refine td hN hNR hNL hcalm hO ?_
   refine Zah (fun e st => ∃ (x8_k28 : Int) (x10_k28 : Bool) (b2_k28 : Ty) (cb2_k28 : List AV), Ck e st B Rw L [(5, true, .box (B.length + 1) 0), (6, true, .val (.bool y14.2.1)), (7, true, .val (.int .i64 y14.2.2)), (8, true, .val (.int .i64 x8_k28)), (9, true, .box (B.length + 2) 0), (10, true, .val (.bool x10_k28))] [a0.cs, y14.1.cs, cb2_k28] [] (cb2_k28.map AV.pubCell = b2_k28.cs ∧ Zbw n y14 x8_k28 x10_k28 b2_k28 = some r)) ?_ ?_
   ·
    intro K29 hK29
    refine rg [1, 2, 5, 6, 7, 8, 9, 10, 48] hs ?_
    refine cnd h hs (fun hs h => ?_) (fun hs h => ?_)
    ·
     have hb31 := hs.1
     obtain ⟨y32, hy32, h⟩ := bind_some h
     obtain ⟨y33, hy33, h⟩ := bind_some h
     apply Zhu mix [8] [5, 6, 7, 8, 9, 10] (by kernel_rfl) (fun s => ∃ (X : List (List AV)) (rows : List RowA) (c2 : List AV), s = ⟨B ++ ([a0.cs, y14.1.cs, c2] ++ X), rows, L⟩) 2 (B.length + 3)
     ·
      simp +decide only [go_sem, Nat.reduceAdd]
     ·
      rintro s ⟨X, rows, c2, rfl⟩
      refine ⟨3, ?_⟩
      rw [Zaa]; simp +decide only [go_sem, Nat.reduceAdd, Zfp, hf5, hb10, hb31]
      (repeat' apply And.intro) <;> first | refine Zaf _ (ZjC w0 n _ _ _ a1 _ hy32) (hv hs) ?_ | exact cl
      rw [Zaa]; simp +decide only [go_sem, Nat.reduceAdd, hf5, hb10, hb31]
      (repeat' apply And.intro) <;> first | refine Zaf _ (Zsz w0 n _ _ _ a0 y32 _ hy33) (hv hs) ?_ | exact cl
      rw [Zaa]; simp +decide only [go_sem, Nat.reduceAdd, hf5, hb10, hb31]
      (repeat' apply And.intro) <;> first | rfl | exact cl
     ·
      refine Good.mk [8] (by kernel_rfl) ⟨[], _, _, by first | rfl | simp only [List.append_nil, List.nil_append]⟩ ?_ ?_
      ·
       intro h; exact absurd h (by decide)
      ·
       intro i hi; simp only [List.mem_cons, List.not_mem_nil, or_false] at hi
       subst hi
       ·
        apply Zby rfl rfl ev
        ·
         simp +decide only [go_sem, Nat.reduceAdd, ZcR, hf5, hb10, hb31]
         (repeat' apply And.intro) <;> first | rfl | exact cl
        ·
         simp +decide only [go_sem, Nat.reduceAdd, hf5, hb10, hb31]
         refine Good.mk [] (by kernel_rfl) ⟨[], _, _, by first | rfl | simp only [List.append_nil, List.nil_append]⟩ ?_ ?_
         ·
          intro _; apply ZeN [5, 6, 7, 8, 9, 10]; first | (simp +decide only [go_sem, Nat.reduceAdd, hf5, hb10, hb31]; done) | (simp +decide only [go_sem, Nat.reduceAdd, hf5, hb10, hb31]; rfl)
         ·
          intro i hi; cases hi
     simp +decide only [go_sem, Nat.reduceAdd, hf5, hb10, hb31]
     (repeat' apply And.intro) <;> first | refine hK29 _ _ ⟨y33.2.2, y33.2.1, y33.1, _, ([]), Rk20, ef hs, ef hs, hO, ef hs, h⟩ | exact cl
    have hb31 := hs.1
    refine sk [5, 6, 7, 8, 9, 10] hs hK29 ?_
    exact ⟨x8_k20, false, (Ty.mk 0 0 0 0 ([]) ([]) ([])), _, ([]), Rk20, ef hs, ef hs, hO, ef hs, h⟩
   ·
    clear h; rintro e st ⟨x8_k28, x10_k28, b2_k28, cb2_k28, Xk28, Rk28, rfl, rfl, hO, hr0, h⟩
    rw [Zbw] at h
    refine ZcG (B.length + 2) (by first | rfl | (simp only [ZgB, Ze9, Zg6, ZfI]; rfl)) hr0 ?_; simp +decide only [go_sem, Nat.reduceAdd]
    show awp _ _ _ _ _ _ _ _ [(5, true, .box (B.length + 1) 0), (6, true, .val (.bool y14.2.1)), (7, true, .val (.int .i64 y14.2.2)), (8, true, .val (.int .i64 x8_k28)), (9, true, .box (B.length + 2) 0), (10, true, .val (.bool x10_k28))] ⟨B ++ ([a0.cs, y14.1.cs, b2_k28.cs] ++ Xk28), Rk28, L⟩
    refine td hN hNR hNL hcalm hO ?_
    obtain ⟨y35, hy35, h⟩ := bind_some h
    refine rc 2 [4] hs ?_; intro K34 hK34
    refine Zaf _ (Zjw w0 n _ _ _ y14.1 b2_k28 _ hy35) (hv hs) ?_
    refine ne hs hK34 ?_
    clear hK34
    exact rt h hs hcalm hO
theorem ZmF : (Ty.mk 0 0 0 0 [] [] []).small := ⟨by decide, by decide, ZjH⟩
theorem ZsS {p : Part} (h : pOk p = true) : (p.kind = 1 ∨ p.kind = 4) ∨ (p.kind = 2 ∧ 0 ≤ p.index ∧ p.index < 256) ∨ (p.kind = 3 ∧ p.index = 0) := by
 unfold pOk at h
 by_cases h1 : p.kind = 1 ∨ p.kind = 4
 ·
  exact .inl h1
 rw [if_neg h1] at h
 by_cases h2 : p.kind = 2
 ·
  rw [if_pos h2, Bool.and_eq_true, Bool.and_eq_true] at h
  exact .inr (.inl ⟨h2, of_decide_eq_true h.1.2, of_decide_eq_true h.2⟩)
 rw [if_neg h2] at h
 by_cases h3 : p.kind = 3
 ·
  rw [if_pos h3, Bool.and_eq_true] at h
  exact .inr (.inr ⟨h3, of_decide_eq_true h.2⟩)
 rw [if_neg h3] at h
 exact absurd h (by decide)
abbrev Zr6 := Ty × Bool × Int
def Zr3 (e : Int) : Zr6 := (Ty.mk 0 0 0 0 ([]) ([]) ([]), false, e)
def Zn7 (K : Bool → Ty → Option Zr6) (n : Nat) (a : Bool) (t : Ty) (p : Part) : Option Zr6 :=
 (idx ([0, 9, 8, 8, 10]) p.kind).bind fun x16 =>
   if !(decide (t.kind = x16)) then
    some ((Ty.mk 0 0 0 0 ([]) ([]) ([]), false, 11))
   else
    if decide (x16 = 8) then
     if decide (p.kind = 2) then
      if decide (t.max ≤ p.index) then
       some ((Ty.mk 0 0 0 0 ([]) ([]) ([]), false, 2))
      else
       if a then
        (idx t.elem 0).bind fun x32 =>
        K true x32
       else
        (idx t.elem 0).bind fun x34 =>
        K (decide (t.min ≤ p.index)) x34
     else
      if a then
       (idx t.elem 0).bind fun x39 =>
       K true x39
      else
       (idx t.elem 0).bind fun x41 =>
       K (decide (t.min ≤ p.index)) x41
    else
     (ZdH n t p.name).bind fun y43 =>
     if decide (y43 < 0) then
      some ((Ty.mk 0 0 0 0 ([]) ([]) ([]), false, 21))
     else
      if a then
       (idx t.fields y43).bind fun x50 =>
       K true x50.2.2.2.1
      else
       (idx t.fields y43).bind fun x51 =>
       K ((decide (x51.2.2.1 = 2)) || ((decide (x16 = 10)) && (decide (1 < ((t.fields.length : Int)))))) x51.2.2.2.1
theorem Zps (K : Bool → Ty → Option Zr6) (n : Nat) (hn : 5000 ≤ n) (a : Bool) (t : Ty) (p : Part) (ts : t.small) (tg : t.Good) (hp : pOk p = true) :
  (∃ e, e ≠ 0 ∧ Zg9 n t p = some (Zr3 e) ∧ Zn7 K n a t p = some (Zr3 e)) ∨
  ∃ t' b, Zg9 n t p = some (t', b, 0) ∧ Zn7 K n a t p = K (a || b) t' ∧ t'.small ∧ t'.Good := by
 have h1 := ts.1
 have own := tg.own
 rw [Zg9, Zn7]
 rcases ZsS hp with hk | ⟨hk, x0, x1⟩ | ⟨hk, x0⟩
 ·
  -- a field or a case
  have hl2 := t.lens
  obtain ⟨kd, hkd, hi'⟩ : ∃ kd : Int, ((kd = 9 ∧ p.kind = 1) ∨ (kd = 10 ∧ p.kind = 4)) ∧ idx [(0 : Int), 9, 8, 8, 10] p.kind = some kd := by
   rcases hk with h9 | h9
   ·
    exact ⟨9, .inl ⟨rfl, h9⟩, by rw [h9]; rfl⟩
   ·
    exact ⟨10, .inr ⟨rfl, h9⟩, by rw [h9]; rfl⟩
  rw [hi', Option.bind_some, Option.bind_some]
  by_cases htk : t.kind = kd
  ·
   rw [decide_eq_true htk, decide_eq_false (show ¬ p.kind = 3 by omega), decide_eq_false (show ¬ p.kind = 2 by omega), decide_eq_false (show ¬ kd = 8 by omega)]
   simp only [Bool.not_true, Bool.false_eq_true, if_false]
   have hF : Zef n t p.name = (ZdY n t (fun x => some (sEq x.2.1 p.name))).bind fun y3 => some (y3.1, y3.2) := rfl
   rw [hF, Zim n t _ (by omega) (by omega)]
   rcases ZnD n t (fun x => sEq x.2.1 p.name) (by omega) ts with ⟨k1, k2, _⟩ | ⟨_, ⟨q1, q2⟩ | ⟨j, hj, q1, q2⟩⟩
   ·
    exact absurd htk (by omega)
   ·
    rw [q1, q2]
    exact .inl ⟨21, by decide, rfl, rfl⟩
   ·
    right
    rw [q1, q2]
    simp only [Option.bind_some, Bool.not_true, Bool.false_eq_true, if_false, Zan hj]
    rw [if_neg (show ¬ decide (((j : Nat) : Int) < 0) = true by rw [decide_eq_true_eq]; omega)]
    have hjm := List.getElem_mem hj
    obtain ⟨_, _, _, n10, _, _⟩ := own.each _ hjm
    have sj := Ty.small_field ts hjm
    have gj := ZeB tg hjm
    refine ⟨t.fields[j].2.2.2.1, decide (t.fields[j].2.2.1 = 2) || (decide (kd = 10) && decide (1 < (t.fields.length : Int))), ?_, ?_, sj, gj⟩
    ·
     rcases hkd with ⟨h9, h4⟩ | ⟨h9, h4⟩
     ·
      rw [if_neg (by rw [decide_eq_true_eq]; omega), decide_eq_false (show ¬ kd = 10 by omega), Bool.false_and, Bool.or_false]
     ·
      rw [if_pos (decide_eq_true h4), decide_eq_true h9, Bool.true_and, decide_eq_false (show ¬ t.fields[j].2.2.1 = 2 by have := n10 (by omega); omega), Bool.false_or]
    ·
     cases a with
     | true => rw [if_pos rfl, Bool.true_or]
     | false => rw [if_neg (by decide), Bool.false_or]
  ·
   rw [decide_eq_false htk]
   exact .inl ⟨11, by decide, rfl, rfl⟩
 ·
  -- an index
  have hi' : idx [(0 : Int), 9, 8, 8, 10] p.kind = some 8 := by rw [hk]; rfl
  rw [hi', Option.bind_some, Option.bind_some]
  by_cases htk : t.kind = 8
  ·
   obtain ⟨e, he⟩ := own.elem htk
   have hem : e ∈ t.elem := by rw [he]; simp
   have hei : idx t.elem 0 = some e := by rw [he]; rfl
   rw [decide_eq_true htk, decide_eq_false (show ¬ p.kind = 3 by omega), decide_eq_true hk, decide_eq_true (rfl : (8 : Int) = 8)]
   simp only [Bool.not_true, Bool.false_eq_true, if_false, if_true, hei, Option.bind_some]
   by_cases hm2 : t.max ≤ p.index
   ·
    rw [decide_eq_true hm2]
    exact .inl ⟨2, by decide, rfl, rfl⟩
   ·
    rw [decide_eq_false hm2]
    refine .inr ⟨e, decide (t.min ≤ p.index), rfl, ?_, Ty.small_elem ts hem, ZgF tg hem⟩
    cases a with
    | true => rw [Bool.true_or]; rfl
    | false => rw [Bool.false_or]; rfl
  ·
   rw [decide_eq_false htk]
   exact .inl ⟨11, by decide, rfl, rfl⟩
 ·
  -- all elements
  have hi' : idx [(0 : Int), 9, 8, 8, 10] p.kind = some 8 := by rw [hk]; rfl
  rw [hi', Option.bind_some, Option.bind_some]
  by_cases htk : t.kind = 8
  ·
   obtain ⟨e, he⟩ := own.elem htk
   have hem : e ∈ t.elem := by rw [he]; simp
   have hei : idx t.elem 0 = some e := by rw [he]; rfl
   have hb := (own.bounds (by omega) (by omega)).1
   rw [htk, lim8] at hb
   have hmin : decide (t.min = 0) = decide (t.min ≤ p.index) := by
    rw [x0]
    by_cases q : t.min = 0
    ·
     rw [decide_eq_true q, decide_eq_true (by omega)]
    ·
     rw [decide_eq_false q, decide_eq_false (by simp only at hb; omega)]
   rw [decide_eq_true htk, decide_eq_true hk, decide_eq_false (show ¬ p.kind = 2 by omega), decide_eq_true (rfl : (8 : Int) = 8), hmin]
   simp only [Bool.not_true, Bool.false_eq_true, if_false, if_true, hei, Option.bind_some]
   refine .inr ⟨e, decide (t.min ≤ p.index), rfl, ?_, Ty.small_elem ts hem, ZgF tg hem⟩
   cases a with
   | true => rw [Bool.true_or]; rfl
   | false => rw [Bool.false_or]; rfl
  ·
   rw [decide_eq_false htk]
   exact .inl ⟨11, by decide, rfl, rfl⟩
theorem ZqW (n : Nat) (l : List Part) (m : Nat) (a : Bool) (i : Int) (t : Ty) : Zcg n l (m + 1) a i t = if decide (i < (l.length : Int)) = true then (idx l i).bind fun p => Zn7 (fun b t => Zcz n (Zcg n l m) i b t) n a t p else ZhM n a t := rfl
theorem ZqJ (n : Nat) (hn : 5000 ≤ n) (l : List Part) (hp : ∀ p ∈ l, pOk p = true) (hl : l.length ≤ 20) : ∀ (k m i : Nat) (a : Bool) (t : Ty), i + k = l.length → k < m → t.small → t.Good →
  ∃ r, Zgd n l m a i t = some r ∧ Zcg n l m a i t = some r ∧ r.1.small
 | k, 0, i, _, _, _, h, _, _ => absurd h (Nat.not_lt_zero _)
 | 0, m + 1, i, a, t, hi, _, ts, _ => by
  have h1 := ts.1
  rw [Zgd, ZqW, Zao, decide_eq_false (by omega)]
  simp only [Bool.false_eq_true, if_false, Zjb, ZhM]
  rw [Zh0 n t (by omega) (by omega) ts.2.2]
  exact ⟨_, rfl, rfl, ts⟩
 | k + 1, m + 1, i, a, t, hi, hm, ts, tg => by
  have hlt : i < l.length := by omega
  rw [Zgd, ZqW, Zao, decide_eq_true hlt, if_pos rfl, if_pos rfl, Zan hlt, Option.bind_some, Option.bind_some]
  rcases Zps (fun b t => Zcz n (Zcg n l m) i b t) n hn a t l[i] ts tg (hp _ (List.getElem_mem hlt)) with ⟨e, he, e1, e2⟩ | ⟨t', b, e1, e2, s', g'⟩
  ·
   rw [e1, e2]
   refine ⟨Zr3 e, ?_, rfl, ZmF⟩
   rw [Option.bind_some, Zr3, decide_eq_false he]; rfl
  ·
   obtain ⟨r, q1, q2, q3⟩ := ZqJ n hn l hp hl k m (i + 1) (a || b) t' (by omega) (by omega) s' g'
   rw [e1, e2, Option.bind_some, decide_eq_true (rfl : (0 : Int) = 0), if_neg (by decide), if_pos (Zaq (by omega)), Zcz, if_pos (Zaq (by omega))]
   exact ⟨r, q1, q2, q3⟩
theorem Zso (n : Nat) (hn : 100000 ≤ n) (t : Ty) (l : List Part) (hw : ∀ p ∈ l, p.wf) : Zev n t l = some true := by
 have kn := Zsv n (by omega)
 rw [Zev, kn]
 simp only [Option.bind_some, Bool.not_true, Bool.false_eq_true, if_false]
 obtain ⟨b, e, hb⟩ := Zsf n (by omega) t
 rw [e]
 simp only [Option.bind_some]
 by_cases q : b = false ∨ 20 < l.length
 ·
  rw [if_pos]
  simp only [Bool.or_eq_true, Bool.not_eq_true', decide_eq_true_eq]
  rcases q with q | q
  ·
   exact .inl q
  ·
   exact .inr (by omega)
 rw [if_neg (by simp only [Bool.or_eq_true, Bool.not_eq_true', decide_eq_true_eq]; intro h; apply q; rcases h with h | h; exact .inl h; exact .inr (by omega))]
 have hbt : b = true := by cases b; exact absurd (.inl rfl) q; rfl
 have hl : l.length ≤ 20 := by omega
 have ht := hb hbt
 have hts := ht.1
 obtain ⟨c, c1, c2, c3⟩ := Zrc n t (by omega) ht
 obtain ⟨s, b2, p1, p2, p3⟩ := Zpn n (by omega) l hw hl
 have zeq : Zce n (Ty.mk 0 0 0 0 [] [] []) (Ty.mk 0 0 0 0 [] [] []) = some true := by
  obtain ⟨d, d1, d2⟩ := Zha n (Ty.mk 0 0 0 0 [] [] []) (Ty.mk 0 0 0 0 [] [] []) (by simp [Ty.size, Zff, Zdj]; omega) (by decide) ZjH ZjH
  rw [d1, d2.2 rfl]
 rw [ZmZ, c1, c2, Znd n l (by omega) (by omega)]
 simp only [Option.bind_some, p2]
 by_cases h : c = 0
 ·
  rw [decide_eq_true h]
  simp only [Bool.not_true, Bool.false_eq_true, if_false, Bool.true_and, p1, Option.bind_some]
  cases b2 with
  | false =>
   simp only [Bool.false_eq_true, if_false, Bool.not_false, if_true]
   rw [if_pos (by decide), Option.bind_some, ZbB, if_neg (by decide), Zbw, zeq]
   rfl
  | true =>
   simp only [if_true, Bool.not_true, Bool.false_eq_true, if_false]
   rw [if_neg (by decide)]
   obtain ⟨r, e1, e2, e3⟩ := ZqJ n (by omega) l (p3 rfl) hl l.length n 0 false t (by omega) (by omega) ht (c3 h)
   rw [show (0 : Int) = ((0 : Nat) : Int) from rfl, e1, Option.bind_some, ZbB, h, if_pos (by decide), Znd n l (by omega) (by omega), Option.bind_some, ZlD]
   rw [show (0 : Int) = ((0 : Nat) : Int) from rfl, e2, Option.bind_some, Zbw]
   have hs3 := e3.1
   obtain ⟨d, d1, d2⟩ := Zha n r.1 r.1 (by omega) (by omega) e3.2.2 e3.2.2
   rw [d1, d2.2 rfl]
   simp
 ·
  rw [decide_eq_false h]
  simp only [Bool.not_false, if_true, Option.bind_some, Bool.false_and, Bool.false_eq_true, if_false]
  rw [ZbB, decide_eq_false h, if_neg (by decide), Zbw, zeq]
  simp
end Go.Proofs.YtggimoedcamonaaGreatDoor
namespace Go.Proofs.YtggimoedcamonaaGreatDoor
open Go Go.Shelf Go.ChangeShapes Go.WideShapes Go.ChangeAt Go.RowKit Go.Lib Go.Ev
set_option maxRecDepth 100000
section
variable {H : Type} {enc : TypeId × Value → H} {W : World}
theorem Zu9 (n : Nat) (cs : List Value) (x : DataW H × List MemPlace) (h : Td enc W n 81 cs = some x) : ∃ p : Part, p.wf ∧ RC W cs [.val (.int .i64 p.kind), .val (.int .i64 p.index), .val (.string p.name)] := by
 cases n with
 | zero => simp [Td, DataW.trod] at h
 | succ n =>
  obtain ⟨xs, n', hn, _, hl, hx, hf⟩ := DataW.trod_struct Tryz.underlying81 h
  cases hn
  have hl3 : cs.length = 3 := hl.trans (by kernel_rfl)
  have hx3 : xs.length = 3 := hx
  have f0 := hf 0 _ rfl; have f1 := hf 1 _ rfl; have f2 := hf 2 _ rfl
  rw [List.getElem?_eq_getElem (by omega)] at f0 f1 f2
  obtain ⟨k, hk, ek⟩ := Zgq f0
  obtain ⟨i, hi, ei⟩ := Zgq f1
  obtain ⟨nm, hnm, en⟩ := ZmG f2
  have e1 : Tryz.prog.cellsOf 3 = 1 := by kernel_rfl
  have e3 : Tryz.prog.cellsOf 9 = 1 := by kernel_rfl
  simp only [List.getElem_toArray, List.getElem_cons_zero, List.getElem_cons_succ, e1, e3] at ek ei en
  match cs, hl3 with
  | [c0, c1, c2], _ =>
  simp only [List.drop_zero, List.take_succ_cons, List.take_zero, List.cons.injEq, and_true, List.drop_succ_cons] at ek ei en
  subst ek ei en
  exact ⟨⟨k, i, nm⟩, ⟨hk, hi, hnm⟩, .cons (.flat rfl) (.cons (.flat rfl) (.cons (.flat (show Zfu (.string nm) = true from decide_eq_true hnm)) .nil))⟩
end
section
variable {H : Type} {enc : TypeId × Value → H} {W : World} {base : Nat} {v : Value} {d : DataW H} {p : List MemPlace}
theorem Zw6 (hv : Value.okWide Tryz.prog W .any base 42 v) (h : DataW.Trod enc Tryz.prog W 0 (fun _ => true) true 42 v d p) :
  ∃ l : List Part, ((∀ y ∈ l, y.wf) ∧ l.length ≤ maxLen) ∧ R W Mem.start W v (.list (l.map ZfK) .none) := by
 obtain ⟨a, len, cap, rfl⟩ := okWide_slice Tryz.underlying42 hv
 obtain ⟨n, hn⟩ := h
 cases n with
 | zero => simp [DataW.trod] at hn
 | succ n =>
 obtain ⟨l, u, h1, h2, h3, h4⟩ := ZfO ZfK Part.wf Tryz.underlying42 (sz := 3) (by kernel_rfl) (by omega) (fun cs x h => by
  obtain ⟨q, hq, hR⟩ := Zu9 n cs x h
  exact ⟨q, .agg cs.toArray, hq, by simp [Value.cells], hR.agg (fun x hx => by simp only [List.mem_cons, List.not_mem_nil, or_false] at hx; rcases hx with rfl | rfl | rfl <;> rfl)⟩) hn
 obtain rfl : Value.slice a len cap = u := by simpa [Value.cells] using h3
 exact ⟨l, ⟨h1, h2⟩, h4⟩
end
end Go.Proofs.YtggimoedcamonaaGreatDoor
