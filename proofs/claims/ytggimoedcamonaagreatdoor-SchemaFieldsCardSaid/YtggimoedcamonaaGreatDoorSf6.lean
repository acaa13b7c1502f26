/-
  the schema law Fields
-/
import Derived.Test.YtggimoedcamonaaGreatDoorSf5
namespace Go.Proofs.YtggimoedcamonaaGreatDoor
open Go Go.RowKit Go.Ev
set_option linter.unusedVariables false
set_option linter.unusedSimpArgs false


theorem idx_nat {α : Type} {l : List α} {k : Nat} (h : k < l.length) : idx l (k : Int) = some l[k] := idx_of h
theorem lt_int {a b : Nat} : decide ((a : Int) < (b : Int)) = decide (a < b) := by simp
theorem I64_succ {k : Nat} (h : k < 1000000000000) : I64 ((k : Int) + 1) := by unfold I64; omega


theorem Ty.size_pos (t : Ty) : 0 < t.size := by cases t; simp [Ty.size]; omega
theorem Ty.size_eq (t : Ty) : t.size = 1 + sizeTs t.elem + sizeTFs t.fields := by cases t; simp [Ty.size, Ty.elem, Ty.fields]
theorem sizeTs_mem : ∀ (l : List Ty) (v : Ty), v ∈ l → v.size ≤ sizeTs l
  | [], _, h => by simp at h
  | a :: r, v, h => by
    rcases List.mem_cons.1 h with rfl | h
    · simp [sizeTs]
    · have := sizeTs_mem r v h
      simp [sizeTs]; omega
theorem sizeTFs_mem : ∀ (l : List (Int × ByteArray × Int × Ty × List Vl)) (p : Int × ByteArray × Int × Ty × List Vl), p ∈ l → p.2.2.2.1.size ≤ sizeTFs l
  | [], _, h => by simp at h
  | (a, b, c, t, d) :: r, p, h => by
    rcases List.mem_cons.1 h with rfl | h
    · simp [sizeTFs]
    · have := sizeTFs_mem r p h
      simp [sizeTFs]; omega
theorem sizeTs_len : ∀ l : List Ty, l.length ≤ sizeTs l
  | [] => Nat.le_refl _
  | v :: r => by have := sizeTs_len r; have := v.size_pos; simp [sizeTs]; omega
theorem sizeTFs_len : ∀ l : List (Int × ByteArray × Int × Ty × List Vl), l.length ≤ sizeTFs l
  | [] => Nat.le_refl _
  | (_, _, _, t, _) :: r => by have := sizeTFs_len r; have := t.size_pos; simp [sizeTFs]; omega
theorem Ty.elem_size (t x : Ty) (h : x ∈ t.elem) : x.size < t.size := by have := sizeTs_mem _ _ h; have := t.size_eq; omega
theorem Ty.field_size (t : Ty) (p) (h : p ∈ t.fields) : p.2.2.2.1.size < t.size := by have := sizeTFs_mem _ _ h; have := t.size_eq; omega
theorem Ty.lens (t : Ty) : t.elem.length < t.size ∧ t.fields.length < t.size := by have := sizeTs_len t.elem; have := sizeTFs_len t.fields; have := t.size_eq; omega
theorem Vl.list_size (v x : Vl) (h : x ∈ v.list) : x.size < v.size := by have := sizeVs_mem _ _ h; have := v.size_eq; omega
theorem Vl.field_size (v : Vl) (p) (h : p ∈ v.fields) : p.2.size < v.size := by have := sizeFs_mem _ _ h; have := v.size_eq; omega
mutual
def Ty.depth : Ty → Nat
  | .mk _ _ _ _ _ e f => 1 + max (depthTs e) (depthTFs f)
def depthTs : List Ty → Nat
  | [] => 0
  | t :: r => max t.depth (depthTs r)
def depthTFs : List (Int × ByteArray × Int × Ty × List Vl) → Nat
  | [] => 0
  | (_, _, _, t, _) :: r => max t.depth (depthTFs r)
end
mutual
def Vl.depth : Vl → Nat
  | .mk _ _ _ _ l f => 1 + max (depthVs l) (depthFs f)
def depthVs : List Vl → Nat
  | [] => 0
  | t :: r => max t.depth (depthVs r)
def depthFs : List (ByteArray × Vl) → Nat
  | [] => 0
  | (_, t) :: r => max t.depth (depthFs r)
end
mutual
def Vl.ok : Vl → Prop
  | .mk _ _ _ t l f => t.size ≤ 2000 ∧ okVs l ∧ okFs f
def okVs : List Vl → Prop
  | [] => True
  | v :: r => v.ok ∧ okVs r
def okFs : List (ByteArray × Vl) → Prop
  | [] => True
  | (n, v) :: r => n.size ≤ 100 ∧ v.ok ∧ okFs r
end
theorem okVs_iff : ∀ l, okVs l ↔ ∀ v ∈ l, v.ok
  | [] => by simp [okVs]
  | v :: r => by simp [okVs, okVs_iff r]
theorem okFs_iff : ∀ l, okFs l ↔ ∀ p ∈ l, p.1.size ≤ 100 ∧ p.2.ok
  | [] => by simp [okFs]
  | (n, v) :: r => by simp [okFs, okFs_iff r, and_assoc]
def Vl.small (v : Vl) : Prop := v.size ≤ 300 ∧ v.depth ≤ 12 ∧ v.ok
mutual
def Ty.ok : Ty → Prop
  | .mk _ _ _ _ w e f => w.length ≤ 70 ∧ (∀ x ∈ w, x.size ≤ 2000) ∧ okTs e ∧ okTFs f
def okTs : List Ty → Prop
  | [] => True
  | v :: r => v.ok ∧ okTs r
def okTFs : List (Int × ByteArray × Int × Ty × List Vl) → Prop
  | [] => True
  | (_, n, _, t, d) :: r => (n.size ≤ 100 ∧ t.ok ∧ d.length ≤ 3 ∧ ∀ v ∈ d, v.small) ∧ okTFs r
end
theorem okTs_iff : ∀ l, okTs l ↔ ∀ v ∈ l, v.ok
  | [] => by simp [okTs]
  | v :: r => by simp [okTs, okTs_iff r]
theorem okTFs_iff : ∀ l, okTFs l ↔ ∀ p ∈ l, p.2.1.size ≤ 100 ∧ p.2.2.2.1.ok ∧ p.2.2.2.2.length ≤ 3 ∧ ∀ v ∈ p.2.2.2.2, v.small
  | [] => by simp [okTFs]
  | (_, n, _, t, d) :: r => by simp [okTFs, okTFs_iff r]
theorem Ty.ok_eq (t : Ty) : t.ok ↔ t.words.length ≤ 70 ∧ (∀ x ∈ t.words, x.size ≤ 2000) ∧ (∀ v ∈ t.elem, v.ok) ∧ ∀ p ∈ t.fields, p.2.1.size ≤ 100 ∧ p.2.2.2.1.ok ∧ p.2.2.2.2.length ≤ 3 ∧ ∀ v ∈ p.2.2.2.2, v.small := by
  cases t; simp only [Ty.ok, Ty.words, Ty.elem, Ty.fields, okTs_iff, okTFs_iff]
theorem Vl.ok_eq (v : Vl) : v.ok ↔ v.text.size ≤ 2000 ∧ (∀ x ∈ v.list, x.ok) ∧ ∀ p ∈ v.fields, p.1.size ≤ 100 ∧ p.2.ok := by
  cases v; simp only [Vl.ok, Vl.text, Vl.list, Vl.fields, okVs_iff, okFs_iff]
theorem depthTs_le : ∀ (l : List Ty) (d : Nat), depthTs l ≤ d ↔ ∀ v ∈ l, v.depth ≤ d
  | [], d => by simp [depthTs]
  | v :: r, d => by simp [depthTs, Nat.max_le, depthTs_le r d]
theorem depthTFs_le : ∀ (l : List (Int × ByteArray × Int × Ty × List Vl)) (d : Nat), depthTFs l ≤ d ↔ ∀ v ∈ l, v.2.2.2.1.depth ≤ d
  | [], d => by simp [depthTFs]
  | (_, _, _, t, _) :: r, d => by simp [depthTFs, Nat.max_le, depthTFs_le r d]
theorem depthVs_le : ∀ (l : List Vl) (d : Nat), depthVs l ≤ d ↔ ∀ v ∈ l, v.depth ≤ d
  | [], d => by simp [depthVs]
  | v :: r, d => by simp [depthVs, Nat.max_le, depthVs_le r d]
theorem depthFs_le : ∀ (l : List (ByteArray × Vl)) (d : Nat), depthFs l ≤ d ↔ ∀ v ∈ l, v.2.depth ≤ d
  | [], d => by simp [depthFs]
  | (_, t) :: r, d => by simp [depthFs, Nat.max_le, depthFs_le r d]
theorem Ty.depth_eq (t : Ty) : t.depth = 1 + Max.max (depthTs t.elem) (depthTFs t.fields) := by cases t; simp [Ty.depth, Ty.elem, Ty.fields]
theorem Vl.depth_eq (v : Vl) : v.depth = 1 + Max.max (depthVs v.list) (depthFs v.fields) := by cases v; simp [Vl.depth, Vl.list, Vl.fields]
theorem Vl.eta (v : Vl) : Vl.mk v.kind v.int v.scale v.text v.list v.fields = v := by cases v; rfl
theorem Ty.eta (v : Ty) : Ty.mk v.kind v.min v.max v.scale v.words v.elem v.fields = v := by cases v; rfl


theorem vclone_l25 (rec : Vl → Option Vl) (n : Nat) (v : Vl) (hs : v.fields.length ≤ 1000000000) (hr : ∀ p ∈ v.fields, rec p.2 = some p.2) (b : List Vl) : ∀ (k m i : Nat), i + k = v.fields.length → k < m → v_Clone_l25 rec n v m i b (v.fields.take i) = some (Vl.mk v.kind v.int v.scale v.text b v.fields)
  | k, 0, i, _, h => absurd h (Nat.not_lt_zero _)
  | 0, m + 1, i, hi, _ => by
    rw [v_Clone_l25, lt_int, decide_eq_false (by omega)]
    simp only [Bool.false_eq_true, if_false, v_Clone_k22]
    rw [List.take_of_length_le (by omega)]
  | k + 1, m + 1, i, hi, hm => by
    have hlt : i < v.fields.length := by omega
    rw [v_Clone_l25, lt_int, decide_eq_true hlt]
    simp only [if_true, idx_nat hlt, Option.bind_some, hr _ (List.getElem_mem hlt)]
    rw [if_pos (by rw [List.length_take]; omega), if_pos (I64_succ (by omega))]
    have e : v.fields.take i ++ [(v.fields[i].1, v.fields[i].2)] = v.fields.take (i + 1) := by rw [List.take_succ_eq_append_getElem hlt]
    rw [e]
    exact vclone_l25 rec n v hs hr b k m (i + 1) (by omega) (by omega)
theorem vclone_l8 (rec : Vl → Option Vl) (n : Nat) (v : Vl) (hs : v.fields.length ≤ 1000000000 ∧ v.list.length ≤ 1000000000) (hn : v.fields.length < n) (hr : (∀ x ∈ v.list, rec x = some x) ∧ ∀ p ∈ v.fields, rec p.2 = some p.2) : ∀ (k m i : Nat), i + k = v.list.length → k < m → v_Clone_l8 rec n v m i (v.list.take i) = some v
  | k, 0, i, _, h => absurd h (Nat.not_lt_zero _)
  | 0, m + 1, i, hi, _ => by
    rw [v_Clone_l8, lt_int, decide_eq_false (by omega)]
    simp only [Bool.false_eq_true, if_false, v_Clone_k5]
    rw [List.take_of_length_le (by omega)]
    have := vclone_l25 rec n v hs.1 hr.2 v.list v.fields.length n 0 (by omega) hn
    rw [List.take_zero] at this
    exact this.trans (by rw [Vl.eta])
  | k + 1, m + 1, i, hi, hm => by
    have hlt : i < v.list.length := by omega
    rw [v_Clone_l8, lt_int, decide_eq_true hlt]
    simp only [if_true, idx_nat hlt, Option.bind_some, hr.1 _ (List.getElem_mem hlt)]
    rw [if_pos (by rw [List.length_take]; omega), if_pos (I64_succ (by omega))]
    have e : v.list.take i ++ [v.list[i]] = v.list.take (i + 1) := by rw [List.take_succ_eq_append_getElem hlt]
    rw [e]
    exact vclone_l8 rec n v hs hn hr k m (i + 1) (by omega) (by omega)
theorem vClone_eq : ∀ (n : Nat) (v : Vl), v.size < n → v.size ≤ 1000000000 → v_Clone_F n v = some v
  | 0, v, h, _ => absurd h (Nat.not_lt_zero _)
  | n + 1, v, h, hs => by
    have hl := parts_len v
    rw [v_Clone_F, v_Clone_B]
    have := vclone_l8 (v_Clone_F n) n v ⟨by omega, by omega⟩ (by omega) ⟨fun x hx => vClone_eq n x (by have := v.list_size x hx; omega) (by have := v.list_size x hx; omega), fun p hp => vClone_eq n p.2 (by have := v.field_size p hp; omega) (by have := v.field_size p hp; omega)⟩ v.list.length n 0 (by omega) (by omega)
    rw [List.take_zero] at this
    exact this
abbrev TF := Int × ByteArray × Int × Ty × List Vl
theorem scf_l11 (rec : Ty → Option Ty) (n : Nat) (p : TF) (y : Ty) (hs : p.2.2.2.2.length ≤ 1000000000) (hr : ∀ v ∈ p.2.2.2.2, v_Clone_F n v = some v) : ∀ (k m i : Nat), i + k = p.2.2.2.2.length → k < m → s_cloneField_l11 rec n p y m (p.2.2.2.2.take i) i = some (p.1, p.2.1, p.2.2.1, y, p.2.2.2.2)
  | k, 0, i, _, h => absurd h (Nat.not_lt_zero _)
  | 0, m + 1, i, hi, _ => by
    rw [s_cloneField_l11, lt_int, decide_eq_false (by omega)]
    simp only [Bool.false_eq_true, if_false, s_cloneField_k8]
    rw [List.take_of_length_le (by omega)]
  | k + 1, m + 1, i, hi, hm => by
    have hlt : i < p.2.2.2.2.length := by omega
    rw [s_cloneField_l11, lt_int, decide_eq_true hlt]
    simp only [if_true, idx_nat hlt, Option.bind_some, hr _ (List.getElem_mem hlt)]
    rw [if_pos (by rw [List.length_take]; omega), if_pos (I64_succ (by omega))]
    have e : p.2.2.2.2.take i ++ [p.2.2.2.2[i]] = p.2.2.2.2.take (i + 1) := by rw [List.take_succ_eq_append_getElem hlt]
    rw [e]
    exact scf_l11 rec n p y hs hr k m (i + 1) (by omega) (by omega)
theorem scf_eq (rec : Ty → Option Ty) (n : Nat) (p : TF) (hs : p.2.2.2.2.length ≤ 1000000000) (hn : p.2.2.2.2.length < n) (hr : ∀ v ∈ p.2.2.2.2, v_Clone_F n v = some v) (ht : rec p.2.2.2.1 = some p.2.2.2.1) : s_cloneField_F rec n p = some p := by
  rw [s_cloneField_F, ht]
  simp only [Option.bind_some]
  rw [if_pos (by omega)]
  have := scf_l11 rec n p p.2.2.2.1 hs hr p.2.2.2.2.length n 0 (by omega) hn
  rw [List.take_zero] at this
  exact this
theorem sclone_l29 (rec : Ty → Option Ty) (n : Nat) (t : Ty) (hw : t.words.length ≤ 1000000000) (hs : t.fields.length ≤ 1000000000) (hr : ∀ p ∈ t.fields, s_cloneField_F rec n p = some p) (e : List Ty) : ∀ (k m i : Nat), i + k = t.fields.length → k < m → s_Clone_l29 rec n t m e (t.fields.take i) i = some (Ty.mk t.kind t.min t.max t.scale t.words e t.fields)
  | k, 0, i, _, h => absurd h (Nat.not_lt_zero _)
  | 0, m + 1, i, hi, _ => by
    rw [s_Clone_l29, lt_int, decide_eq_false (by omega)]
    simp only [Bool.false_eq_true, if_false, s_Clone_k26]
    rw [List.take_of_length_le (by omega), if_pos (by omega)]
  | k + 1, m + 1, i, hi, hm => by
    have hlt : i < t.fields.length := by omega
    rw [s_Clone_l29, lt_int, decide_eq_true hlt]
    simp only [if_true, idx_nat hlt, Option.bind_some, hr _ (List.getElem_mem hlt)]
    rw [if_pos (by rw [List.length_take]; omega), if_pos (I64_succ (by omega))]
    have e' : t.fields.take i ++ [t.fields[i]] = t.fields.take (i + 1) := by rw [List.take_succ_eq_append_getElem hlt]
    rw [e']
    exact sclone_l29 rec n t hw hs hr e k m (i + 1) (by omega) (by omega)
theorem sclone_l9 (rec : Ty → Option Ty) (n : Nat) (t : Ty) (hw : t.words.length ≤ 1000000000) (hs : t.fields.length ≤ 1000000000 ∧ t.elem.length ≤ 1000000000) (hn : t.fields.length < n) (hr : (∀ x ∈ t.elem, rec x = some x) ∧ ∀ p ∈ t.fields, s_cloneField_F rec n p = some p) : ∀ (k m i : Nat), i + k = t.elem.length → k < m → s_Clone_l9 rec n t m (t.elem.take i) i = some t
  | k, 0, i, _, h => absurd h (Nat.not_lt_zero _)
  | 0, m + 1, i, hi, _ => by
    rw [s_Clone_l9, lt_int, decide_eq_false (by omega)]
    simp only [Bool.false_eq_true, if_false, s_Clone_k6]
    rw [List.take_of_length_le (by omega), if_pos (by omega)]
    have := sclone_l29 rec n t hw hs.1 hr.2 t.elem t.fields.length n 0 (by omega) hn
    rw [List.take_zero] at this
    exact this.trans (by rw [Ty.eta])
  | k + 1, m + 1, i, hi, hm => by
    have hlt : i < t.elem.length := by omega
    rw [s_Clone_l9, lt_int, decide_eq_true hlt]
    simp only [if_true, idx_nat hlt, Option.bind_some, hr.1 _ (List.getElem_mem hlt)]
    rw [if_pos (by rw [List.length_take]; omega), if_pos (I64_succ (by omega))]
    have e : t.elem.take i ++ [t.elem[i]] = t.elem.take (i + 1) := by rw [List.take_succ_eq_append_getElem hlt]
    rw [e]
    exact sclone_l9 rec n t hw hs hn hr k m (i + 1) (by omega) (by omega)
theorem sClone_eq : ∀ (n : Nat) (t : Ty), t.size + 400 < n → t.size ≤ 1000000000 → t.ok → s_Clone_F n t = some t
  | 0, t, h, _, _ => absurd h (Nat.not_lt_zero _)
  | n + 1, t, h, hs, hok => by
    have hl := t.lens
    obtain ⟨o1, o2, o3, o4⟩ := t.ok_eq.1 hok
    rw [s_Clone_F, s_Clone_B, if_pos (by omega)]
    have := sclone_l9 (s_Clone_F n) n t (by omega) ⟨by omega, by omega⟩ (by omega) ⟨fun x hx => sClone_eq n x (by have := t.elem_size x hx; omega) (by have := t.elem_size x hx; omega) (o3 x hx), fun p hp => by
      obtain ⟨_, q2, q3, q4⟩ := o4 p hp
      have := t.field_size p hp
      exact scf_eq _ n p (by omega) (by omega) (fun v hv => vClone_eq n v (by have := (q4 v hv).1; omega) (by have := (q4 v hv).1; omega)) (sClone_eq n _ (by omega) (by omega) q2)⟩ t.elem.length n 0 (by omega) (by omega)
    rw [List.take_zero] at this
    exact this
end Go.Proofs.YtggimoedcamonaaGreatDoor
namespace Go.Proofs.YtggimoedcamonaaGreatDoor
open Go Go.RowKit Go.Ev
set_option linter.unusedVariables false
set_option linter.unusedSimpArgs false
theorem sizeVs_drop (l : List Vl) (i : Nat) (h : i < l.length) : sizeVs (l.drop i) = l[i].size + sizeVs (l.drop (i + 1)) := by rw [List.drop_eq_getElem_cons h, sizeVs]
theorem sizeFs_drop (l : List (ByteArray × Vl)) (i : Nat) (h : i < l.length) : sizeFs (l.drop i) = l[i].2.size + sizeFs (l.drop (i + 1)) := by
  rw [List.drop_eq_getElem_cons h]
  obtain ⟨a, b⟩ := l[i]
  rfl
theorem sizeTs_drop (l : List Ty) (i : Nat) (h : i < l.length) : sizeTs (l.drop i) = l[i].size + sizeTs (l.drop (i + 1)) := by rw [List.drop_eq_getElem_cons h, sizeTs]
theorem sizeTFs_drop (l : List TF) (i : Nat) (h : i < l.length) : sizeTFs (l.drop i) = l[i].2.2.2.1.size + sizeTFs (l.drop (i + 1)) := by
  rw [List.drop_eq_getElem_cons h]
  obtain ⟨a, b, c, t, d⟩ := l[i]
  rfl
theorem drop_all {α : Type} {p : α → Prop} (l : List α) (i : Nat) (h : i < l.length) (h1 : p l[i]) (h2 : ∀ x ∈ l.drop (i + 1), p x) : ∀ x ∈ l.drop i, p x := by
  rw [List.drop_eq_getElem_cons h]
  intro x hx
  rcases List.mem_cons.1 hx with rfl | hx
  · exact h1
  · exact h2 x hx
theorem drop_nil_all {α : Type} {p : α → Prop} (l : List α) (i : Nat) (h : l.length ≤ i) : ∀ x ∈ l.drop i, p x := by
  rw [List.drop_eq_nil_of_le h]; simp


def SmV (rec : Vl → Int → Int → Option (Bool × Int)) (lv : Nat) : Prop :=
  ∀ (v : Vl) (left : Int), 0 ≤ left → left ≤ 300 → ∃ b left', rec v (lv : Int) left = some (b, left') ∧ -1 ≤ left' ∧ left' < left ∧ (b = true → (v.size : Int) + left' = left ∧ 0 ≤ left' ∧ v.depth ≤ lv ∧ v.ok)
theorem smv_l28 (rec : Vl → Int → Int → Option (Bool × Int)) (n : Nat) (v : Vl) (lv : Nat) (hlv : lv ≤ 100) (hr : SmV rec lv) : ∀ (m i : Nat) (left : Int), 0 ≤ left → left ≤ 300 → (i : Int) + left ≤ 1000 → left + 1 < (m : Int) →
    ∃ b left', l6_smallValue_l28 rec n v ((lv : Int) + 1) m i left = some (b, left') ∧ -1 ≤ left' ∧ left' ≤ left ∧ (b = true → (sizeFs (v.fields.drop i) : Int) + left' = left ∧ 0 ≤ left' ∧ ∀ p ∈ v.fields.drop i, p.1.size ≤ 100 ∧ p.2.ok ∧ p.2.depth ≤ lv)
  | 0, i, left, h1, _, _, h => by omega
  | m + 1, i, left, h1, h2, h3, h => by
    rw [l6_smallValue_l28, lt_int]
    by_cases hlt : i < v.fields.length
    · rw [decide_eq_true hlt]
      simp only [if_true, idx_nat hlt, Option.bind_some]
      by_cases hn : 100 < v.fields[i].1.size
      · rw [decide_eq_true (by omega), if_pos rfl]
        exact ⟨false, left, rfl, by omega, by omega, fun h => by cases h⟩
      · rw [decide_eq_false (by omega)]
        simp only [Bool.false_eq_true, if_false]
        rw [if_pos (by unfold I64; omega), show (lv : Int) + 1 - 1 = lv by omega]
        obtain ⟨b, left', e, k1, k2, k3⟩ := hr v.fields[i].2 left h1 h2
        rw [e]
        simp only [Option.bind_some]
        cases b with
        | false => simp only [Bool.not_false, if_true]; exact ⟨false, left', rfl, k1, by omega, fun h => by cases h⟩
        | true =>
          obtain ⟨q1, q2, q3, q4⟩ := k3 rfl
          simp only [Bool.not_true, Bool.false_eq_true, if_false]
          rw [if_pos (by unfold I64; omega)]
          obtain ⟨b, l2, e2, j1, j2, j3⟩ := smv_l28 rec n v lv hlv hr m (i + 1) left' q2 (by omega) (by omega) (by omega)
          refine ⟨b, l2, e2, j1, by omega, fun hb => ?_⟩
          obtain ⟨p1, p2, p3⟩ := j3 hb
          refine ⟨?_, p2, drop_all _ i hlt ⟨by omega, q4, q3⟩ p3⟩
          rw [sizeFs_drop _ _ hlt]; push_cast; omega
    · rw [decide_eq_false hlt]
      simp only [Bool.false_eq_true, if_false, l6_smallValue_k25]
      refine ⟨true, left, rfl, by omega, by omega, fun _ => ⟨?_, h1, drop_nil_all _ _ (by omega)⟩⟩
      rw [List.drop_eq_nil_of_le (by omega)]; simp [sizeFs]
theorem smv_l12 (rec : Vl → Int → Int → Option (Bool × Int)) (n : Nat) (hn : 310 ≤ n) (v : Vl) (lv : Nat) (hlv : lv ≤ 100) (hr : SmV rec lv) : ∀ (m i : Nat) (left : Int), 0 ≤ left → left ≤ 300 → (i : Int) + left ≤ 1000 → left + 1 < (m : Int) →
    ∃ b left', l6_smallValue_l12 rec n v ((lv : Int) + 1) m i left = some (b, left') ∧ -1 ≤ left' ∧ left' ≤ left ∧ (b = true → (sizeVs (v.list.drop i) : Int) + sizeFs v.fields + left' = left ∧ 0 ≤ left' ∧ (∀ x ∈ v.list.drop i, x.ok ∧ x.depth ≤ lv) ∧ ∀ p ∈ v.fields, p.1.size ≤ 100 ∧ p.2.ok ∧ p.2.depth ≤ lv)
  | 0, i, left, h1, _, _, h => by omega
  | m + 1, i, left, h1, h2, h3, h => by
    rw [l6_smallValue_l12, lt_int]
    by_cases hlt : i < v.list.length
    · rw [decide_eq_true hlt]
      simp only [if_true, idx_nat hlt, Option.bind_some]
      rw [if_pos (by unfold I64; omega), show (lv : Int) + 1 - 1 = lv by omega]
      obtain ⟨b, left', e, k1, k2, k3⟩ := hr v.list[i] left h1 h2
      rw [e]
      simp only [Option.bind_some]
      cases b with
      | false => simp only [Bool.not_false, if_true]; exact ⟨false, left', rfl, k1, by omega, fun h => by cases h⟩
      | true =>
        obtain ⟨q1, q2, q3, q4⟩ := k3 rfl
        simp only [Bool.not_true, Bool.false_eq_true, if_false]
        rw [if_pos (by unfold I64; omega)]
        obtain ⟨b, l2, e2, j1, j2, j3⟩ := smv_l12 rec n hn v lv hlv hr m (i + 1) left' q2 (by omega) (by omega) (by omega)
        refine ⟨b, l2, e2, j1, by omega, fun hb => ?_⟩
        obtain ⟨p1, p2, p3, p4⟩ := j3 hb
        refine ⟨?_, p2, drop_all _ i hlt ⟨q4, q3⟩ p3, p4⟩
        rw [sizeVs_drop _ _ hlt]; push_cast; omega
    · rw [decide_eq_false hlt]
      simp only [Bool.false_eq_true, if_false, l6_smallValue_k9]
      obtain ⟨b, l2, e2, j1, j2, j3⟩ := smv_l28 rec n v lv hlv hr n 0 left h1 h2 (by omega) (by omega)
      refine ⟨b, l2, e2, j1, j2, fun hb => ?_⟩
      obtain ⟨p1, p2, p3⟩ := j3 hb
      rw [List.drop_zero] at p1 p3
      refine ⟨?_, p2, drop_nil_all _ _ (by omega), p3⟩
      rw [List.drop_eq_nil_of_le (by omega)]; simp only [sizeVs]; omega
theorem smv_F : ∀ (lv n : Nat), lv ≤ 100 → lv + 311 ≤ n → SmV (l6_smallValue_F n) lv
  | _, 0, _, h => by omega
  | lv, n + 1, hlv, hn => by
    intro v left h1 h2
    rw [l6_smallValue_F, l6_smallValue_B, if_pos (by unfold I64; omega)]
    by_cases hc : left - 1 < 0 ∨ (lv : Int) = 0 ∨ 2000 < v.text.size
    · rw [if_pos (by simp only [Bool.or_eq_true, decide_eq_true_eq]; omega)]
      exact ⟨false, left - 1, rfl, by omega, by omega, fun h => by cases h⟩
    · rw [if_neg (by simp only [Bool.or_eq_true, decide_eq_true_eq]; omega)]
      obtain ⟨lv', rfl⟩ : ∃ k, lv = k + 1 := ⟨lv - 1, by omega⟩
      obtain ⟨b, l2, e2, j1, j2, j3⟩ := smv_l12 (l6_smallValue_F n) n (by omega) v lv' (by omega) (smv_F lv' n (by omega) (by omega)) n 0 (left - 1) (by omega) (by omega) (by omega) (by omega)
      refine ⟨b, l2, by push_cast; exact e2, j1, by omega, fun hb => ?_⟩
      obtain ⟨p1, p2, p3, p4⟩ := j3 hb
      rw [List.drop_zero] at p1 p3
      refine ⟨?_, p2, ?_, v.ok_eq.2 ⟨by omega, fun x hx => (p3 x hx).1, fun p hp => ⟨(p4 p hp).1, (p4 p hp).2.1⟩⟩⟩
      · rw [v.size_eq]; push_cast; omega
      · rw [v.depth_eq]
        have a := (depthVs_le v.list lv').2 fun x hx => (p3 x hx).2
        have b := (depthFs_le v.fields lv').2 fun p hp => (p4 p hp).2.2
        omega
theorem SmallValue_eq (n : Nat) (hn : 400 ≤ n) (v : Vl) : ∃ b, l6_SmallValue_F n v = some b ∧ (b = true → v.small) := by
  obtain ⟨b, l2, e, h1, h2, h3⟩ := smv_F 12 n (by omega) (by omega) v 300 (by omega) (by omega)
  refine ⟨b, by rw [l6_SmallValue_F]; rw [show ((12 : Nat) : Int) = 12 from rfl] at e; rw [e]; rfl, fun hb => ?_⟩
  obtain ⟨p1, p2, p3, p4⟩ := h3 hb
  exact ⟨by omega, p3, p4⟩


def SmT (rec : Ty → Int → Int → Option (Bool × Int)) (lv : Nat) : Prop :=
  ∀ (t : Ty) (left : Int), 0 ≤ left → left ≤ 200 → ∃ b left', rec t (lv : Int) left = some (b, left') ∧ -1 ≤ left' ∧ left' < left ∧ (b = true → (t.size : Int) + left' = left ∧ 0 ≤ left' ∧ t.depth ≤ lv ∧ t.ok)
theorem smt_l58 (rec : Ty → Int → Int → Option (Bool × Int)) (n : Nat) (hn : 400 ≤ n) (ag : Int → Int → Option (Bool × Int)) (x9 : Int) (p : TF) (y : Bool × Int) (hl : p.2.2.2.2.length ≤ 3) : ∀ (k m i : Nat), i + k = p.2.2.2.2.length → k < m →
    (l6_small_l58 rec n ag x9 p y m i = some (false, y.2)) ∨ (l6_small_l58 rec n ag x9 p y m i = l6_small_k47 rec n ag x9 y.2 ∧ ∀ v ∈ p.2.2.2.2.drop i, v.small)
  | k, 0, i, _, h => absurd h (Nat.not_lt_zero _)
  | 0, m + 1, i, hi, _ => by
    rw [l6_small_l58, lt_int, decide_eq_false (by omega)]
    simp only [Bool.false_eq_true, if_false]
    exact .inr ⟨by trivial, drop_nil_all _ _ (by omega)⟩
  | k + 1, m + 1, i, hi, hm => by
    have hlt : i < p.2.2.2.2.length := by omega
    rw [l6_small_l58, lt_int, decide_eq_true hlt]
    simp only [if_true, idx_nat hlt, Option.bind_some]
    obtain ⟨b, e, hb⟩ := SmallValue_eq n hn p.2.2.2.2[i]
    rw [e]
    simp only [Option.bind_some]
    cases b with
    | false => simp only [Bool.not_false, if_true]; exact .inl (by trivial)
    | true =>
      simp only [Bool.not_true, Bool.false_eq_true, if_false]
      rw [if_pos (I64_succ (by omega))]
      rcases smt_l58 rec n hn ag x9 p y hl k m (i + 1) (by omega) (by omega) with h | ⟨h, h2⟩
      · exact .inl h
      · exact .inr ⟨h, drop_all _ i hlt (hb rfl) h2⟩
theorem smt_l42 (rec : Ty → Int → Int → Option (Bool × Int)) (n : Nat) (hn : 400 ≤ n) (t : Ty) (lv : Nat) (hlv : lv ≤ 100) (hr : SmT rec lv) : ∀ (m i : Nat) (left : Int), 0 ≤ left → left ≤ 200 → (i : Int) + left ≤ 1000 → left + 1 < (m : Int) →
    ∃ b left', l6_small_l42 rec n t ((lv : Int) + 1) m i left = some (b, left') ∧ -1 ≤ left' ∧ left' ≤ left ∧ (b = true → (sizeTFs (t.fields.drop i) : Int) + left' = left ∧ 0 ≤ left' ∧ ∀ p ∈ t.fields.drop i, (p.2.1.size ≤ 100 ∧ p.2.2.2.1.ok ∧ p.2.2.2.2.length ≤ 3 ∧ ∀ v ∈ p.2.2.2.2, v.small) ∧ p.2.2.2.1.depth ≤ lv)
  | 0, i, left, h1, _, _, h => by omega
  | m + 1, i, left, h1, h2, h3, h => by
    rw [l6_small_l42, lt_int]
    by_cases hlt : i < t.fields.length
    · rw [decide_eq_true hlt]
      simp only [if_true, idx_nat hlt, Option.bind_some]
      rw [if_pos (by unfold I64; omega), show (lv : Int) + 1 - 1 = lv by omega]
      obtain ⟨b, left', e, k1, k2, k3⟩ := hr t.fields[i].2.2.2.1 left h1 h2
      rw [e]
      simp only [Option.bind_some]
      by_cases hc : b = false ∨ 3 < t.fields[i].2.2.2.2.length ∨ 100 < t.fields[i].2.1.size
      · rw [if_pos (by simp only [Bool.or_eq_true, decide_eq_true_eq, Bool.not_eq_true']; rcases hc with hc | hc | hc; exact .inl (.inl hc); exact .inl (.inr (by omega)); exact .inr (by omega))]
        exact ⟨false, left', rfl, k1, by omega, fun h => by cases h⟩
      · rw [if_neg (by simp only [Bool.or_eq_true, decide_eq_true_eq, Bool.not_eq_true']; intro h; apply hc; rcases h with (h | h) | h; exact .inl h; exact .inr (.inl (by omega)); exact .inr (.inr (by omega)))]
        have hb : b = true := by cases b <;> simp_all
        obtain ⟨q1, q2, q3, q4⟩ := k3 hb
        rcases smt_l58 rec n hn (l6_small_l42 rec n t ((lv : Int) + 1) m) i t.fields[i] (b, left') (by omega) t.fields[i].2.2.2.2.length n 0 (by omega) (by omega) with e3 | ⟨e3, e4⟩
        · refine ⟨false, left', ?_, k1, by omega, fun h => by cases h⟩
          exact e3
        · obtain ⟨b2, l2, e2, j1, j2, j3⟩ := smt_l42 rec n hn t lv hlv hr m (i + 1) left' q2 (by omega) (by omega) (by omega)
          refine ⟨b2, l2, ?_, j1, by omega, fun hb => ?_⟩
          · refine e3.trans ?_
            rw [l6_small_k47, if_pos (by unfold I64; omega)]
            exact e2
          · obtain ⟨p1, p2, p3⟩ := j3 hb
            rw [List.drop_zero] at e4
            refine ⟨?_, p2, drop_all _ i hlt ⟨⟨by omega, q4, by omega, e4⟩, q3⟩ p3⟩
            rw [sizeTFs_drop _ _ hlt]; push_cast; omega
    · rw [decide_eq_false hlt]
      simp only [Bool.false_eq_true, if_false, l6_small_k39]
      refine ⟨true, left, rfl, by omega, by omega, fun _ => ⟨?_, h1, drop_nil_all _ _ (by omega)⟩⟩
      rw [List.drop_eq_nil_of_le (by omega)]; simp [sizeTFs]
theorem smt_l26 (rec : Ty → Int → Int → Option (Bool × Int)) (n : Nat) (hn : 400 ≤ n) (t : Ty) (lv : Nat) (hlv : lv ≤ 100) (hr : SmT rec lv) : ∀ (m i : Nat) (left : Int), 0 ≤ left → left ≤ 200 → (i : Int) + left ≤ 1000 → left + 1 < (m : Int) →
    ∃ b left', l6_small_l26 rec n t ((lv : Int) + 1) m i left = some (b, left') ∧ -1 ≤ left' ∧ left' ≤ left ∧ (b = true → (sizeTs (t.elem.drop i) : Int) + sizeTFs t.fields + left' = left ∧ 0 ≤ left' ∧ (∀ x ∈ t.elem.drop i, x.ok ∧ x.depth ≤ lv) ∧ ∀ p ∈ t.fields, (p.2.1.size ≤ 100 ∧ p.2.2.2.1.ok ∧ p.2.2.2.2.length ≤ 3 ∧ ∀ v ∈ p.2.2.2.2, v.small) ∧ p.2.2.2.1.depth ≤ lv)
  | 0, i, left, h1, _, _, h => by omega
  | m + 1, i, left, h1, h2, h3, h => by
    rw [l6_small_l26, lt_int]
    by_cases hlt : i < t.elem.length
    · rw [decide_eq_true hlt]
      simp only [if_true, idx_nat hlt, Option.bind_some]
      rw [if_pos (by unfold I64; omega), show (lv : Int) + 1 - 1 = lv by omega]
      obtain ⟨b, left', e, k1, k2, k3⟩ := hr t.elem[i] left h1 h2
      rw [e]
      simp only [Option.bind_some]
      cases b with
      | false => simp only [Bool.not_false, if_true]; exact ⟨false, left', rfl, k1, by omega, fun h => by cases h⟩
      | true =>
        obtain ⟨q1, q2, q3, q4⟩ := k3 rfl
        simp only [Bool.not_true, Bool.false_eq_true, if_false]
        rw [if_pos (by unfold I64; omega)]
        obtain ⟨b, l2, e2, j1, j2, j3⟩ := smt_l26 rec n hn t lv hlv hr m (i + 1) left' q2 (by omega) (by omega) (by omega)
        refine ⟨b, l2, e2, j1, by omega, fun hb => ?_⟩
        obtain ⟨p1, p2, p3, p4⟩ := j3 hb
        refine ⟨?_, p2, drop_all _ i hlt ⟨q4, q3⟩ p3, p4⟩
        rw [sizeTs_drop _ _ hlt]; push_cast; omega
    · rw [decide_eq_false hlt]
      simp only [Bool.false_eq_true, if_false, l6_small_k23]
      obtain ⟨b, l2, e2, j1, j2, j3⟩ := smt_l42 rec n hn t lv hlv hr n 0 left h1 h2 (by omega) (by omega)
      refine ⟨b, l2, e2, j1, j2, fun hb => ?_⟩
      obtain ⟨p1, p2, p3⟩ := j3 hb
      rw [List.drop_zero] at p1 p3
      refine ⟨?_, p2, drop_nil_all _ _ (by omega), p3⟩
      rw [List.drop_eq_nil_of_le (by omega)]; simp only [sizeTs]; omega
theorem smt_l12 (rec : Ty → Int → Int → Option (Bool × Int)) (n : Nat) (t : Ty) (a1 a2 : Int) (hw : t.words.length ≤ 70) : ∀ (k m i : Nat), i + k = t.words.length → k < m →
    (l6_small_l12 rec n t a1 a2 m i = some (false, a2 - 1)) ∨ (l6_small_l12 rec n t a1 a2 m i = l6_small_k9 rec n t a1 a2 ∧ ∀ w ∈ t.words.drop i, w.size ≤ 2000)
  | k, 0, i, _, h => absurd h (Nat.not_lt_zero _)
  | 0, m + 1, i, hi, _ => by
    rw [l6_small_l12, lt_int, decide_eq_false (by omega)]
    simp only [Bool.false_eq_true, if_false]
    exact .inr ⟨by trivial, drop_nil_all _ _ (by omega)⟩
  | k + 1, m + 1, i, hi, hm => by
    have hlt : i < t.words.length := by omega
    rw [l6_small_l12, lt_int, decide_eq_true hlt]
    simp only [if_true, idx_nat hlt, Option.bind_some]
    by_cases hs : 2000 < t.words[i].size
    · rw [decide_eq_true (by omega), if_pos rfl]; exact .inl rfl
    · rw [decide_eq_false (by omega)]
      simp only [Bool.false_eq_true, if_false]
      rw [if_pos (I64_succ (by omega))]
      rcases smt_l12 rec n t a1 a2 hw k m (i + 1) (by omega) (by omega) with h | ⟨h, h2⟩
      · exact .inl h
      · exact .inr ⟨h, drop_all _ i hlt (by omega) h2⟩
theorem smt_F : ∀ (lv n : Nat), lv ≤ 100 → lv + 401 ≤ n → SmT (l6_small_F n) lv
  | _, 0, _, h => by omega
  | lv, n + 1, hlv, hn => by
    intro t left h1 h2
    rw [l6_small_F, l6_small_B, if_pos (by unfold I64; omega)]
    by_cases hc : left - 1 < 0 ∨ (lv : Int) = 0 ∨ 70 < t.words.length
    · rw [if_pos (by simp only [Bool.or_eq_true, decide_eq_true_eq]; omega)]
      exact ⟨false, left - 1, rfl, by omega, by omega, fun h => by cases h⟩
    · rw [if_neg (by simp only [Bool.or_eq_true, decide_eq_true_eq]; omega)]
      obtain ⟨lv', rfl⟩ : ∃ k, lv = k + 1 := ⟨lv - 1, by omega⟩
      rcases smt_l12 (l6_small_F n) n t ((lv' + 1 : Nat) : Int) left (by omega) t.words.length n 0 (by omega) (by omega) with e | ⟨e, hw⟩
      · exact ⟨false, left - 1, e, by omega, by omega, fun h => by cases h⟩
      · obtain ⟨b, l2, e2, j1, j2, j3⟩ := smt_l26 (l6_small_F n) n (by omega) t lv' (by omega) (smt_F lv' n (by omega) (by omega)) n 0 (left - 1) (by omega) (by omega) (by omega) (by omega)
        refine ⟨b, l2, ?_, j1, by omega, fun hb => ?_⟩
        · refine e.trans ?_
          rw [l6_small_k9]; push_cast; exact e2
        · obtain ⟨p1, p2, p3, p4⟩ := j3 hb
          rw [List.drop_zero] at p1 p3 hw
          refine ⟨?_, p2, ?_, t.ok_eq.2 ⟨by omega, hw, fun x hx => (p3 x hx).1, fun p hp => (p4 p hp).1⟩⟩
          · rw [t.size_eq]; push_cast; omega
          · rw [t.depth_eq]
            have a := (depthTs_le t.elem lv').2 fun x hx => (p3 x hx).2
            have b := (depthTFs_le t.fields lv').2 fun p hp => (p4 p hp).2
            omega
def Ty.small (t : Ty) : Prop := t.size ≤ 200 ∧ t.depth ≤ 12 ∧ t.ok
theorem Small_eq (n : Nat) (hn : 500 ≤ n) (t : Ty) : ∃ b, l6_Small_F n t = some b ∧ (b = true → t.small) := by
  obtain ⟨b, l2, e, h1, h2, h3⟩ := smt_F 12 n (by omega) (by omega) t 200 (by omega) (by omega)
  refine ⟨b, by rw [l6_Small_F]; rw [show ((12 : Nat) : Int) = 12 from rfl] at e; rw [e]; rfl, fun hb => ?_⟩
  obtain ⟨p1, p2, p3, p4⟩ := h3 hb
  exact ⟨by omega, p3, p4⟩
end Go.Proofs.YtggimoedcamonaaGreatDoor
namespace Go.Proofs.YtggimoedcamonaaGreatDoor
open Go Go.RowKit Go.Ev
set_option linter.unusedVariables false
set_option linter.unusedSimpArgs false
theorem ba_ext {a b : ByteArray} (h : a.data.toList = b.data.toList) : a = b := by
  cases a; cases b; simp at h; rw [h]
theorem cb_zero : ∀ a b : List UInt8, Lib.compareBytes a b = 0 → a = b
  | [], [], _ => rfl
  | [], _ :: _, h => absurd (show (-1 : Int) = 0 from h) (by decide)
  | _ :: _, [], h => absurd (show (1 : Int) = 0 from h) (by decide)
  | x :: a, y :: b, h => by
    simp only [Lib.compareBytes] at h
    by_cases h1 : x < y
    · simp [h1] at h
    · by_cases h2 : y < x
      · simp [h1, h2] at h
      · simp only [h1, h2, if_false] at h
        rw [cb_zero a b h]
        have : x = y := by
          rw [UInt8.lt_iff_toNat_lt] at h1 h2
          exact UInt8.toNat_inj.1 (by omega)
        rw [this]
theorem cmpS_zero (a b : ByteArray) : cmpS a b = 0 ↔ a = b := by
  unfold cmpS
  constructor
  · intro h; exact ba_ext (cb_zero _ _ h)
  · rintro rfl; exact cb_self _
theorem sEq_iff (x y : ByteArray) : sEq x y = true ↔ x = y := by
  unfold sEq
  rw [beq_iff_eq]
  exact ⟨ba_ext, fun h => by rw [h]⟩
theorem sEq_self (x : ByteArray) : sEq x x = true := (sEq_iff x x).2 rfl
theorem sign_ne {a b : Int} (h : a ≠ b) : r4_sign_F a b ≠ 0 := by
  unfold r4_sign_F
  by_cases h1 : a < b
  · simp [h1]
  · by_cases h2 : b < a
    · simp [h1, h2]
    · omega
theorem sign_self (a : Int) : r4_sign_F a a = 0 := by simp [r4_sign_F]
theorem drop_eq_iff {α : Type} (l m : List α) (i : Nat) (h1 : i < l.length) (h2 : i < m.length) : l.drop i = m.drop i ↔ l[i] = m[i] ∧ l.drop (i + 1) = m.drop (i + 1) := by
  rw [List.drop_eq_getElem_cons h1, List.drop_eq_getElem_cons h2, List.cons.injEq]
theorem sz_max {n : Nat} (h : n ≤ 2000) : n ≤ maxLen := by unfold maxLen; omega


theorem r4c_l46 (rec : Vl → Vl → Option Int) (n : Nat) (a b : Vl) (hl : a.fields.length ≤ 1000000000) (ha : a.ok) (hb : b.ok)
    (hr : ∀ p ∈ a.fields, ∀ q ∈ b.fields, ∃ c, rec p.2 q.2 = some c ∧ (c = 0 ↔ p.2 = q.2)) : ∀ (k m i : Nat), i + k = a.fields.length → k < m → ∃ c, r4_Compare_l46 rec n a b m i = some c ∧ (c = 0 → a.fields.drop i = b.fields.drop i) ∧ (a.fields.drop i = b.fields.drop i → a.fields.length = b.fields.length → c = 0)
  | k, 0, i, _, h => absurd h (Nat.not_lt_zero _)
  | k, m + 1, i, hi, hm => by
    rw [r4_Compare_l46, lt_int, lt_int]
    by_cases h1 : i < a.fields.length ∧ i < b.fields.length
    · obtain ⟨h1, h2⟩ := h1
      rw [decide_eq_true h1, decide_eq_true h2]
      simp only [Bool.and_self, if_true, idx_nat h1, idx_nat h2, Option.bind_some]
      have n1 := ((a.ok_eq.1 ha).2.2 _ (List.getElem_mem h1)).1
      have n2 := ((b.ok_eq.1 hb).2.2 _ (List.getElem_mem h2)).1
      rw [if_pos (sz_max (by omega)), if_pos (sz_max (by omega)), drop_eq_iff _ _ i h1 h2]
      by_cases hc : cmpS a.fields[i].1 b.fields[i].1 = 0
      · rw [decide_eq_true hc]
        simp only [Bool.not_true, Bool.false_eq_true, if_false]
        obtain ⟨c, e, hce⟩ := hr _ (List.getElem_mem h1) _ (List.getElem_mem h2)
        rw [e]
        simp only [Option.bind_some]
        by_cases hc0 : c = 0
        · rw [decide_eq_true hc0]
          simp only [Bool.not_true, Bool.false_eq_true, if_false]
          rw [if_pos (I64_succ (by omega))]
          cases k with
          | zero => omega
          | succ k =>
          obtain ⟨c2, e2, q1, q2⟩ := r4c_l46 rec n a b hl ha hb hr k m (i + 1) (by omega) (by omega)
          have e3 : a.fields[i] = b.fields[i] := Prod.ext ((cmpS_zero _ _).1 hc) (hce.1 hc0)
          exact ⟨c2, e2, fun h => ⟨e3, q1 h⟩, fun h1 h2 => q2 h1.2 h2⟩
        · rw [decide_eq_false hc0]
          simp only [Bool.not_false, if_true]
          exact ⟨c, rfl, fun h => absurd h hc0, fun h _ => hce.2 (by rw [h.1])⟩
      · rw [decide_eq_false hc]
        simp only [Bool.not_false, if_true]
        exact ⟨_, rfl, fun h => absurd h hc, fun h _ => (cmpS_zero _ _).2 (by rw [h.1])⟩
    · have e : (decide (i < a.fields.length) && decide (i < b.fields.length)) = false := by
        rw [Bool.and_eq_false_iff, decide_eq_false_iff_not, decide_eq_false_iff_not]; omega
      rw [e]
      simp only [Bool.false_eq_true, if_false, r4_Compare_k43]
      refine ⟨_, rfl, fun h => ?_, fun h h2 => ?_⟩
      · by_cases hlen : a.fields.length = b.fields.length
        · rw [List.drop_eq_nil_of_le (by omega), List.drop_eq_nil_of_le (by omega)]
        · exact absurd h (sign_ne (by omega))
      · rw [h2]; exact sign_self _
theorem r4c_l25 (rec : Vl → Vl → Option Int) (n : Nat) (a b : Vl) (hl : a.fields.length ≤ 1000000000 ∧ a.list.length ≤ 1000000000) (hn : a.fields.length < n) (ha : a.ok) (hb : b.ok)
    (hr : (∀ p ∈ a.list, ∀ q ∈ b.list, ∃ c, rec p q = some c ∧ (c = 0 ↔ p = q)) ∧ ∀ p ∈ a.fields, ∀ q ∈ b.fields, ∃ c, rec p.2 q.2 = some c ∧ (c = 0 ↔ p.2 = q.2)) : ∀ (k m i : Nat), i + k = a.list.length → k < m →
    ∃ c, r4_Compare_l25 rec n a b m i = some c ∧ (c = 0 → a.list.drop i = b.list.drop i ∧ a.fields = b.fields) ∧ (a.list.drop i = b.list.drop i → a.list.length = b.list.length → a.fields = b.fields → c = 0)
  | k, 0, i, _, h => absurd h (Nat.not_lt_zero _)
  | k, m + 1, i, hi, hm => by
    rw [r4_Compare_l25, lt_int, lt_int]
    by_cases h1 : i < a.list.length ∧ i < b.list.length
    · obtain ⟨h1, h2⟩ := h1
      rw [decide_eq_true h1, decide_eq_true h2]
      simp only [Bool.and_self, if_true, idx_nat h1, idx_nat h2, Option.bind_some]
      rw [drop_eq_iff _ _ i h1 h2]
      obtain ⟨c, e, hce⟩ := hr.1 _ (List.getElem_mem h1) _ (List.getElem_mem h2)
      rw [e]
      simp only [Option.bind_some]
      by_cases hc0 : c = 0
      · rw [decide_eq_true hc0]
        simp only [Bool.not_true, Bool.false_eq_true, if_false]
        rw [if_pos (I64_succ (by omega))]
        cases k with
        | zero => omega
        | succ k =>
        obtain ⟨c2, e2, q1, q2⟩ := r4c_l25 rec n a b hl hn ha hb hr k m (i + 1) (by omega) (by omega)
        exact ⟨c2, e2, fun h => ⟨⟨hce.1 hc0, (q1 h).1⟩, (q1 h).2⟩, fun h1 h2 h3 => q2 h1.2 h2 h3⟩
      · rw [decide_eq_false hc0]
        simp only [Bool.not_false, if_true]
        exact ⟨c, rfl, fun h => absurd h hc0, fun h _ _ => hce.2 h.1⟩
    · have e : (decide (i < a.list.length) && decide (i < b.list.length)) = false := by
        rw [Bool.and_eq_false_iff, decide_eq_false_iff_not, decide_eq_false_iff_not]; omega
      rw [e]
      simp only [Bool.false_eq_true, if_false, r4_Compare_k22]
      by_cases hlen : a.list.length = b.list.length
      · rw [decide_eq_true (by omega)]
        simp only [Bool.not_true, Bool.false_eq_true, if_false]
        obtain ⟨c, e2, q1, q2⟩ := r4c_l46 rec n a b hl.1 ha hb hr.2 a.fields.length n 0 (by omega) hn
        rw [List.drop_zero, List.drop_zero] at q1 q2
        refine ⟨c, e2, fun h => ⟨?_, q1 h⟩, fun _ _ h => q2 h (by rw [h])⟩
        rw [List.drop_eq_nil_of_le (by omega), List.drop_eq_nil_of_le (by omega)]
      · rw [decide_eq_false (by omega)]
        simp only [Bool.not_false, if_true]
        exact ⟨_, rfl, fun h => absurd h (sign_ne (by omega)), fun _ h _ => absurd h hlen⟩
theorem Vl.ext' {a b : Vl} (h1 : a.kind = b.kind) (h2 : a.int = b.int) (h3 : a.scale = b.scale) (h4 : a.text = b.text) (h5 : a.list = b.list) (h6 : a.fields = b.fields) : a = b := by
  rw [← a.eta, ← b.eta, h1, h2, h3, h4, h5, h6]
theorem r4Compare_eq : ∀ (n : Nat) (a b : Vl), a.size < n → a.size ≤ 1000000000 → a.ok → b.ok → ∃ c, r4_Compare_F n a b = some c ∧ (c = 0 ↔ a = b)
  | 0, a, b, h, _, _, _ => absurd h (Nat.not_lt_zero _)
  | n + 1, a, b, h, hs, ha, hb => by
    have hl := parts_len a
    have a1 := a.ok_eq.1 ha
    have b1 := b.ok_eq.1 hb
    rw [r4_Compare_F, r4_Compare_B]
    by_cases h1 : a.kind = b.kind
    · rw [decide_eq_true h1]; simp only [Bool.not_true, Bool.false_eq_true, if_false]
      by_cases h2 : a.int = b.int
      · rw [decide_eq_true h2]; simp only [Bool.not_true, Bool.false_eq_true, if_false]
        by_cases h3 : a.scale = b.scale
        · rw [decide_eq_true h3]; simp only [Bool.not_true, Bool.false_eq_true, if_false]
          rw [if_pos (sz_max a1.1), if_pos (sz_max b1.1)]
          by_cases h4 : cmpS a.text b.text = 0
          · rw [decide_eq_true h4]; simp only [Bool.not_true, Bool.false_eq_true, if_false]
            obtain ⟨c, e, q1, q2⟩ := r4c_l25 (r4_Compare_F n) n a b ⟨by omega, by omega⟩ (by omega) ha hb
              ⟨fun p hp q hq => r4Compare_eq n p q (by have := a.list_size p hp; omega) (by have := a.list_size p hp; omega) (a1.2.1 p hp) (b1.2.1 q hq),
                fun p hp q hq => r4Compare_eq n p.2 q.2 (by have := a.field_size p hp; omega) (by have := a.field_size p hp; omega) (a1.2.2 p hp).2 (b1.2.2 q hq).2⟩ a.list.length n 0 (by omega) (by omega)
            rw [List.drop_zero, List.drop_zero] at q1 q2
            refine ⟨c, e, fun h => Vl.ext' h1 h2 h3 ((cmpS_zero _ _).1 h4) (q1 h).1 (q1 h).2, fun h => ?_⟩
            subst h
            exact q2 rfl rfl rfl
          · rw [decide_eq_false h4]; simp only [Bool.not_false, if_true]
            exact ⟨_, rfl, fun h => absurd h h4, fun h => by subst h; exact (cmpS_zero _ _).2 rfl⟩
        · rw [decide_eq_false h3]; simp only [Bool.not_false, if_true]
          exact ⟨_, rfl, fun h => absurd h (sign_ne h3), fun h => by subst h; exact absurd rfl h3⟩
      · rw [decide_eq_false h2]; simp only [Bool.not_false, if_true]
        exact ⟨_, rfl, fun h => absurd h (sign_ne h2), fun h => by subst h; exact absurd rfl h2⟩
    · rw [decide_eq_false h1]; simp only [Bool.not_false, if_true]
      exact ⟨_, rfl, fun h => absurd h (sign_ne h1), fun h => by subst h; exact absurd rfl h1⟩
theorem r4Equal_eq (n : Nat) (a b : Vl) (h : a.size < n) (hs : a.size ≤ 1000000000) (ha : a.ok) (hb : b.ok) : ∃ c, r4_Equal_F n a b = some c ∧ (c = true ↔ a = b) := by
  obtain ⟨c, e, hc⟩ := r4Compare_eq n a b h hs ha hb
  refine ⟨decide (c = 0), ?_, by rw [decide_eq_true_eq]; exact hc⟩
  rw [r4_Equal_F, e]; rfl


theorem r6e_l60 (rec : Ty → Ty → Option Bool) (n : Nat) (ag : Int → Option Bool) (x7 : Int) (p q : TF) (hl : p.2.2.2.2.length ≤ 1000000000) (hpq : p.2.2.2.2.length = q.2.2.2.2.length)
    (hr : ∀ v ∈ p.2.2.2.2, ∀ w ∈ q.2.2.2.2, ∃ c, r4_Equal_F n v w = some c ∧ (c = true ↔ v = w)) : ∀ (k m i : Nat), i + k = p.2.2.2.2.length → k < m →
    (r6_Equal_l60 rec n ag x7 p q m i = some false ∧ p.2.2.2.2.drop i ≠ q.2.2.2.2.drop i) ∨ (r6_Equal_l60 rec n ag x7 p q m i = r6_Equal_k46 rec n ag x7 ∧ p.2.2.2.2.drop i = q.2.2.2.2.drop i)
  | k, 0, i, _, h => absurd h (Nat.not_lt_zero _)
  | 0, m + 1, i, hi, _ => by
    rw [r6_Equal_l60, lt_int, decide_eq_false (by omega)]
    simp only [Bool.false_eq_true, if_false]
    exact .inr ⟨by trivial, by rw [List.drop_eq_nil_of_le (by omega), List.drop_eq_nil_of_le (by omega)]⟩
  | k + 1, m + 1, i, hi, hm => by
    have h1 : i < p.2.2.2.2.length := by omega
    have h2 : i < q.2.2.2.2.length := by omega
    rw [r6_Equal_l60, lt_int, decide_eq_true h1]
    simp only [if_true, idx_nat h1, idx_nat h2, Option.bind_some]
    obtain ⟨c, e, hc⟩ := hr _ (List.getElem_mem h1) _ (List.getElem_mem h2)
    rw [e, ne_eq, drop_eq_iff _ _ i h1 h2]
    simp only [Option.bind_some]
    cases c with
    | false => simp only [Bool.not_false, if_true]; exact .inl ⟨by trivial, fun h => by simpa using hc.2 h.1⟩
    | true =>
      simp only [Bool.not_true, Bool.false_eq_true, if_false]
      rw [if_pos (I64_succ (by omega))]
      rcases r6e_l60 rec n ag x7 p q hl hpq hr k m (i + 1) (by omega) (by omega) with ⟨e1, e2⟩ | ⟨e1, e2⟩
      · exact .inl ⟨e1, fun h => e2 h.2⟩
      · exact .inr ⟨e1, hc.1 rfl, e2⟩
theorem TF.ext' {p q : TF} (h1 : p.1 = q.1) (h2 : p.2.1 = q.2.1) (h3 : p.2.2.1 = q.2.2.1) (h4 : p.2.2.2.1 = q.2.2.2.1) (h5 : p.2.2.2.2 = q.2.2.2.2) : p = q := by
  obtain ⟨a, b, c, d, e⟩ := p
  obtain ⟨a', b', c', d', e'⟩ := q
  simp only at h1 h2 h3 h4 h5
  rw [h1, h2, h3, h4, h5]
theorem r6e_l41 (rec : Ty → Ty → Option Bool) (n : Nat) (hn : 400 ≤ n) (a b : Ty) (hl : a.fields.length ≤ 1000000000) (hab : a.fields.length = b.fields.length) (ha : a.ok) (hb : b.ok)
    (hr : ∀ p ∈ a.fields, ∀ q ∈ b.fields, ∃ c, rec p.2.2.2.1 q.2.2.2.1 = some c ∧ (c = true ↔ p.2.2.2.1 = q.2.2.2.1)) : ∀ (k m i : Nat), i + k = a.fields.length → k < m → ∃ c, r6_Equal_l41 rec n a b m i = some c ∧ (c = true ↔ a.fields.drop i = b.fields.drop i)
  | k, 0, i, _, h => absurd h (Nat.not_lt_zero _)
  | 0, m + 1, i, hi, _ => by
    rw [r6_Equal_l41, lt_int, decide_eq_false (by omega)]
    simp only [Bool.false_eq_true, if_false, r6_Equal_k38]
    exact ⟨true, rfl, by rw [List.drop_eq_nil_of_le (by omega), List.drop_eq_nil_of_le (by omega)]; simp⟩
  | k + 1, m + 1, i, hi, hm => by
    have h1 : i < a.fields.length := by omega
    have h2 : i < b.fields.length := by omega
    rw [r6_Equal_l41, lt_int, decide_eq_true h1]
    simp only [if_true, idx_nat h1, idx_nat h2, Option.bind_some]
    rw [drop_eq_iff _ _ i h1 h2]
    obtain ⟨_, _, o3, o4⟩ := (a.ok_eq.1 ha).2.2.2 _ (List.getElem_mem h1)
    obtain ⟨_, _, _, o5⟩ := (b.ok_eq.1 hb).2.2.2 _ (List.getElem_mem h2)
    by_cases hc : a.fields[i].1 = b.fields[i].1 ∧ a.fields[i].2.1 = b.fields[i].2.1 ∧ a.fields[i].2.2.1 = b.fields[i].2.2.1 ∧ a.fields[i].2.2.2.2.length = b.fields[i].2.2.2.2.length
    · obtain ⟨c1, c2, c3, c4⟩ := hc
      rw [if_neg (by rw [c1, c2, c3, c4, sEq_self]; simp)]
      obtain ⟨c, e, hce⟩ := hr _ (List.getElem_mem h1) _ (List.getElem_mem h2)
      rw [e]
      simp only [Option.bind_some]
      cases c with
      | false => simp only [Bool.not_false, if_true]; exact ⟨false, rfl, by simp only [Bool.false_eq_true, false_iff]; intro h; simpa using hce.2 (by rw [h.1])⟩
      | true =>
        simp only [Bool.not_true, Bool.false_eq_true, if_false]
        rcases r6e_l60 rec n (r6_Equal_l41 rec n a b m) i a.fields[i] b.fields[i] (by omega) c4 (fun v hv w hw => r4Equal_eq n v w (by have := (o4 v hv).1; omega) (by have := (o4 v hv).1; omega) (o4 v hv).2.2 (o5 w hw).2.2) a.fields[i].2.2.2.2.length n 0 (by omega) (by omega) with ⟨e1, e2⟩ | ⟨e1, e2⟩
        · refine ⟨false, e1, ?_⟩
          rw [List.drop_zero, List.drop_zero] at e2
          simp only [Bool.false_eq_true, false_iff]
          exact fun h => e2 (by rw [h.1])
        · rw [List.drop_zero, List.drop_zero] at e2
          obtain ⟨c5, e5, h5⟩ := r6e_l41 rec n hn a b hl hab ha hb hr k m (i + 1) (by omega) (by omega)
          refine ⟨c5, ?_, ?_⟩
          · refine e1.trans ?_
            rw [r6_Equal_k46, if_pos (I64_succ (by omega))]; exact e5
          · rw [h5]
            exact ⟨fun h => ⟨TF.ext' c1 c2 c3 (hce.1 rfl) e2, h⟩, fun h => h.2⟩
    · rw [if_pos]
      · exact ⟨false, rfl, by simp only [Bool.false_eq_true, false_iff]; intro h; exact hc (by rw [h.1]; exact ⟨rfl, rfl, rfl, rfl⟩)⟩
      · have := sEq_iff a.fields[i].2.1 b.fields[i].2.1
        simp only [Bool.or_eq_true, Bool.not_eq_true', decide_eq_false_iff_not]
        by_cases s : sEq a.fields[i].2.1 b.fields[i].2.1 = true
        · have := this.1 s; by_cases x1 : a.fields[i].1 = b.fields[i].1
          · by_cases x2 : a.fields[i].2.2.1 = b.fields[i].2.2.1
            · exact .inr (fun h => hc ⟨x1, this, x2, by omega⟩)
            · exact .inl (.inr x2)
          · exact .inl (.inl (.inl x1))
        · exact .inl (.inl (.inr (by simpa using s)))
theorem r6e_l25 (rec : Ty → Ty → Option Bool) (n : Nat) (a b : Ty) (hl : a.elem.length ≤ 1000000000) (hab : a.elem.length = b.elem.length)
    (hr : ∀ p ∈ a.elem, ∀ q ∈ b.elem, ∃ c, rec p q = some c ∧ (c = true ↔ p = q)) : ∀ (k m i : Nat), i + k = a.elem.length → k < m →
    (r6_Equal_l25 rec n a b m i = some false ∧ a.elem.drop i ≠ b.elem.drop i) ∨ (r6_Equal_l25 rec n a b m i = r6_Equal_k22 rec n a b ∧ a.elem.drop i = b.elem.drop i)
  | k, 0, i, _, h => absurd h (Nat.not_lt_zero _)
  | 0, m + 1, i, hi, _ => by
    rw [r6_Equal_l25, lt_int, decide_eq_false (by omega)]
    simp only [Bool.false_eq_true, if_false]
    exact .inr ⟨by trivial, by rw [List.drop_eq_nil_of_le (by omega), List.drop_eq_nil_of_le (by omega)]⟩
  | k + 1, m + 1, i, hi, hm => by
    have h1 : i < a.elem.length := by omega
    have h2 : i < b.elem.length := by omega
    rw [r6_Equal_l25, lt_int, decide_eq_true h1]
    simp only [if_true, idx_nat h1, idx_nat h2, Option.bind_some]
    obtain ⟨c, e, hc⟩ := hr _ (List.getElem_mem h1) _ (List.getElem_mem h2)
    rw [e, ne_eq, drop_eq_iff _ _ i h1 h2]
    simp only [Option.bind_some]
    cases c with
    | false => simp only [Bool.not_false, if_true]; exact .inl ⟨by trivial, fun h => by simpa using hc.2 h.1⟩
    | true =>
      simp only [Bool.not_true, Bool.false_eq_true, if_false]
      rw [if_pos (I64_succ (by omega))]
      rcases r6e_l25 rec n a b hl hab hr k m (i + 1) (by omega) (by omega) with ⟨e1, e2⟩ | ⟨e1, e2⟩
      · exact .inl ⟨e1, fun h => e2 h.2⟩
      · exact .inr ⟨e1, hc.1 rfl, e2⟩
theorem r6e_l10 (rec : Ty → Ty → Option Bool) (n : Nat) (a b : Ty) (hl : a.words.length ≤ 1000000000) (hab : a.words.length = b.words.length) : ∀ (k m i : Nat), i + k = a.words.length → k < m →
    (r6_Equal_l10 rec n a b m i = some false ∧ a.words.drop i ≠ b.words.drop i) ∨ (r6_Equal_l10 rec n a b m i = r6_Equal_k7 rec n a b ∧ a.words.drop i = b.words.drop i)
  | k, 0, i, _, h => absurd h (Nat.not_lt_zero _)
  | 0, m + 1, i, hi, _ => by
    rw [r6_Equal_l10, lt_int, decide_eq_false (by omega)]
    simp only [Bool.false_eq_true, if_false]
    exact .inr ⟨by trivial, by rw [List.drop_eq_nil_of_le (by omega), List.drop_eq_nil_of_le (by omega)]⟩
  | k + 1, m + 1, i, hi, hm => by
    have h1 : i < a.words.length := by omega
    have h2 : i < b.words.length := by omega
    rw [r6_Equal_l10, lt_int, decide_eq_true h1]
    simp only [if_true, idx_nat h1, idx_nat h2, Option.bind_some]
    rw [ne_eq, drop_eq_iff _ _ i h1 h2]
    by_cases s : a.words[i] = b.words[i]
    · rw [s, sEq_self]
      simp only [Bool.not_true, Bool.false_eq_true, if_false]
      rw [if_pos (I64_succ (by omega))]
      rcases r6e_l10 rec n a b hl hab k m (i + 1) (by omega) (by omega) with ⟨e1, e2⟩ | ⟨e1, e2⟩
      · exact .inl ⟨e1, fun h => e2 h.2⟩
      · exact .inr ⟨e1, by trivial, e2⟩
    · have : sEq a.words[i] b.words[i] = false := by
        cases h : sEq a.words[i] b.words[i]
        · rfl
        · exact absurd ((sEq_iff _ _).1 h) s
      rw [this]
      simp only [Bool.not_false, if_true]
      exact .inl ⟨trivial, fun h => s h.1⟩
theorem Ty.ext' {a b : Ty} (h1 : a.kind = b.kind) (h2 : a.min = b.min) (h3 : a.max = b.max) (h4 : a.scale = b.scale) (h5 : a.words = b.words) (h6 : a.elem = b.elem) (h7 : a.fields = b.fields) : a = b := by
  rw [← a.eta, ← b.eta, h1, h2, h3, h4, h5, h6, h7]
theorem r6Equal_eq : ∀ (n : Nat) (a b : Ty), a.size + 400 < n → a.size ≤ 1000000000 → a.ok → b.ok → ∃ c, r6_Equal_F n a b = some c ∧ (c = true ↔ a = b)
  | 0, a, b, h, _, _, _ => absurd h (Nat.not_lt_zero _)
  | n + 1, a, b, h, hs, ha, hb => by
    have hl := a.lens
    have a1 := a.ok_eq.1 ha
    have b1 := b.ok_eq.1 hb
    rw [r6_Equal_F, r6_Equal_B]
    by_cases hc : a.kind = b.kind ∧ a.min = b.min ∧ a.max = b.max ∧ a.scale = b.scale ∧ a.words.length = b.words.length ∧ a.elem.length = b.elem.length ∧ a.fields.length = b.fields.length
    · obtain ⟨c1, c2, c3, c4, c5, c6, c7⟩ := hc
      rw [if_neg (by rw [c1, c2, c3, c4, c5, c6, c7]; simp)]
      rcases r6e_l10 (r6_Equal_F n) n a b (by omega) c5 a.words.length n 0 (by omega) (by omega) with ⟨e1, e2⟩ | ⟨e1, e2⟩
      · rw [List.drop_zero, List.drop_zero] at e2
        exact ⟨false, e1, by simp only [Bool.false_eq_true, false_iff]; intro h; exact e2 (by rw [h])⟩
      rw [List.drop_zero, List.drop_zero] at e2
      have w := e2
      rcases r6e_l25 (r6_Equal_F n) n a b (by omega) c6 (fun p hp q hq => r6Equal_eq n p q (by have := a.elem_size p hp; omega) (by have := a.elem_size p hp; omega) (a1.2.2.1 p hp) (b1.2.2.1 q hq)) a.elem.length n 0 (by omega) (by omega) with ⟨e3, e4⟩ | ⟨e3, e4⟩
      · rw [List.drop_zero, List.drop_zero] at e4
        refine ⟨false, ?_, by simp only [Bool.false_eq_true, false_iff]; intro h; exact e4 (by rw [h])⟩
        exact e1.trans (by rw [r6_Equal_k7]; exact e3)
      rw [List.drop_zero, List.drop_zero] at e4
      obtain ⟨c, e5, h5⟩ := r6e_l41 (r6_Equal_F n) n (by omega) a b (by omega) c7 ha hb (fun p hp q hq => r6Equal_eq n _ _ (by have := a.field_size p hp; omega) (by have := a.field_size p hp; omega) (a1.2.2.2 p hp).2.1 (b1.2.2.2 q hq).2.1) a.fields.length n 0 (by omega) (by omega)
      rw [List.drop_zero, List.drop_zero] at h5
      refine ⟨c, ?_, h5.trans ⟨fun h => Ty.ext' c1 c2 c3 c4 w e4 h, fun h => by rw [h]⟩⟩
      refine e1.trans ?_
      rw [r6_Equal_k7]
      refine e3.trans ?_
      rw [r6_Equal_k22]; exact e5
    · rw [if_pos]
      · exact ⟨false, rfl, by simp only [Bool.false_eq_true, false_iff]; intro h; subst h; exact hc ⟨rfl, rfl, rfl, rfl, rfl, rfl, rfl⟩⟩
      · simp only [Bool.or_eq_true, Bool.not_eq_true', decide_eq_false_iff_not]
        have : ∀ x y : Nat, ((x : Int) = (y : Int)) = (x = y) := fun x y => propext ⟨fun h => by omega, fun h => by omega⟩
        simp only [this]
        by_cases x1 : a.kind = b.kind
        · by_cases x2 : a.min = b.min
          · by_cases x3 : a.max = b.max
            · by_cases x4 : a.scale = b.scale
              · by_cases x5 : a.words.length = b.words.length
                · by_cases x6 : a.elem.length = b.elem.length
                  · exact .inr fun x7 => hc ⟨x1, x2, x3, x4, x5, x6, x7⟩
                  · exact .inl (.inr x6)
                · exact .inl (.inl (.inr x5))
              · exact .inl (.inl (.inl (.inr x4)))
            · exact .inl (.inl (.inl (.inl (.inr x3))))
          · exact .inl (.inl (.inl (.inl (.inl (.inr x2)))))
        · exact .inl (.inl (.inl (.inl (.inl (.inl x1)))))
end Go.Proofs.YtggimoedcamonaaGreatDoor
namespace Go.Proofs.YtggimoedcamonaaGreatDoor
open Go Go.RowKit Go.Ev
set_option maxRecDepth 100000 in
theorem known_n (m : Nat) : l6_known_F (m + 60) = some true := by kernel_rfl
theorem known_ge (n : Nat) (h : 60 ≤ n) : l6_known_F n = some true := by
  obtain ⟨m, rfl⟩ : ∃ m, n = m + 60 := ⟨n - 60, by omega⟩
  exact known_n m
end Go.Proofs.YtggimoedcamonaaGreatDoor
namespace Go.Proofs.YtggimoedcamonaaGreatDoor
open Go Go.RowKit Go.Ev
set_option linter.unusedVariables false
set_option linter.unusedSimpArgs false
def ffI {α : Type} (p : α → Bool) (l : List α) (j : Nat) : Int :=
  if (l.drop j).findIdx p < (l.drop j).length then (j : Int) + ((l.drop j).findIdx p : Nat) else -1
theorem ffI_end {α : Type} (p : α → Bool) (l : List α) (j : Nat) (h : l.length ≤ j) : ffI p l j = -1 := by
  unfold ffI
  rw [List.drop_eq_nil_of_le h]; rfl
theorem ffI_step {α : Type} (p : α → Bool) (l : List α) (j : Nat) (h : j < l.length) : ffI p l j = if p l[j] = true then (j : Int) else ffI p l (j + 1) := by
  unfold ffI
  rw [List.drop_eq_getElem_cons h, List.findIdx_cons]
  cases hp : p l[j] with
  | true => simp; omega
  | false =>
    simp only [cond_false, List.length_cons, Bool.false_eq_true, if_false]
    by_cases q : (l.drop (j + 1)).findIdx p < (l.drop (j + 1)).length
    · rw [if_pos (by omega), if_pos q]; push_cast; omega
    · rw [if_neg (by omega), if_neg q]
theorem ffI_range {α : Type} (p : α → Bool) (l : List α) : ∀ (k j : Nat), j + k = l.length → ffI p l j = -1 ∨ ∃ i, ∃ h : i < l.length, ffI p l j = (i : Int) ∧ p l[i] = true
  | 0, j, h => .inl (ffI_end p l j (by omega))
  | k + 1, j, h => by
    have hlt : j < l.length := by omega
    rw [ffI_step p l j hlt]
    by_cases hp : p l[j] = true
    · rw [if_pos hp]; exact .inr ⟨j, hlt, rfl, hp⟩
    · rw [if_neg hp]; exact ffI_range p l k (j + 1) (by omega)
theorem indexF_l6 (n : Nat) (l : List TF) (p : TF → Bool) (hl : l.length ≤ 1000000000) : ∀ (k m i : Nat), i + k = l.length → k < m → sl_IndexFunc_TypeField_l6 n l (fun x => some (p x)) m i = some (ffI p l i)
  | k, 0, i, _, h => absurd h (Nat.not_lt_zero _)
  | 0, m + 1, i, hi, _ => by
    rw [sl_IndexFunc_TypeField_l6, lt_int, decide_eq_false (by omega), ffI_end p l i (by omega)]
    rfl
  | k + 1, m + 1, i, hi, hm => by
    have hlt : i < l.length := by omega
    rw [sl_IndexFunc_TypeField_l6, lt_int, decide_eq_true hlt]
    simp only [if_true, idx_nat hlt, Option.bind_some]
    rw [ffI_step p l i hlt]
    by_cases hp : p l[i] = true
    · rw [if_pos hp, if_pos hp]
    · rw [if_neg hp, if_neg hp, if_pos (I64_succ (by omega))]
      exact indexF_l6 n l p hl k m (i + 1) (by omega) (by omega)
def zeroTF : TF := (0, (⟨#[]⟩ : ByteArray), 0, Ty.mk 0 0 0 0 [] [] [], [])
theorem find_eq (n : Nat) (t : Ty) (p : TF → Bool) (hn : t.size + 1000 ≤ n) (ht : t.small) :
    (t.kind ≠ 9 ∧ t.kind ≠ 10 ∧ s_find_F n t (fun x => some (p x)) = some (zeroTF, false)) ∨
    ((t.kind = 9 ∨ t.kind = 10) ∧ ((ffI p t.fields 0 = -1 ∧ s_find_F n t (fun x => some (p x)) = some (zeroTF, false)) ∨ ∃ i, ∃ h : i < t.fields.length, ffI p t.fields 0 = (i : Int) ∧ s_find_F n t (fun x => some (p x)) = some (t.fields[i], true))) := by
  obtain ⟨h1, h2, h3⟩ := ht
  have hl := t.lens
  rw [s_find_F]
  by_cases hk : t.kind = 9 ∨ t.kind = 10
  · right
    refine ⟨hk, ?_⟩
    rw [if_neg (by simp only [Bool.and_eq_true, Bool.not_eq_true', decide_eq_false_iff_not]; omega)]
    rw [sl_IndexFunc_TypeField_F]
    have e := indexF_l6 n t.fields p (by omega) t.fields.length n 0 (by omega) (by omega)
    rw [show ((0 : Nat) : Int) = 0 from rfl] at e
    rw [e]
    simp only [Option.bind_some]
    rcases ffI_range p t.fields t.fields.length 0 (by omega) with q | ⟨i, hi, q, hp⟩
    · rw [q]; left; exact ⟨rfl, rfl⟩
    · rw [q]; right
      refine ⟨i, hi, rfl, ?_⟩
      rw [decide_eq_false (by omega)]
      simp only [Bool.false_eq_true, if_false, idx_nat hi, Option.bind_some]
      obtain ⟨_, q2, q3, q4⟩ := (t.ok_eq.1 h3).2.2.2 _ (List.getElem_mem hi)
      have hs := t.field_size _ (List.getElem_mem hi)
      rw [scf_eq (s_Clone_F n) n t.fields[i] (by omega) (by omega) (fun v hv => vClone_eq n v (by have := (q4 v hv).1; omega) (by have := (q4 v hv).1; omega)) (sClone_eq n _ (by omega) (by omega) q2)]
      rfl
  · left
    refine ⟨fun h => hk (.inl h), fun h => hk (.inr h), ?_⟩
    rw [if_pos (by simp only [Bool.and_eq_true, Bool.not_eq_true', decide_eq_false_iff_not]; omega)]
    rfl
theorem zeroTy_ok : (Ty.mk 0 0 0 0 [] [] []).ok := by simp [Ty.ok, okTs, okTFs]
theorem same_at (n : Nat) (t : Ty) (hn : t.size + 1000 ≤ n) (ht : t.small) (i : Nat) (h : i < t.fields.length) : l6_sameField_F n t.fields[i] t (i : Int) = some true := by
  obtain ⟨h1, h2, h3⟩ := ht
  rw [l6_sameField_F, decide_eq_true (by omega)]
  simp only [if_true, idx_nat h, Option.bind_some, l6_sameField_k4, sEq_self, decide_true, Bool.and_self]
  obtain ⟨_, q2, q3, q4⟩ := (t.ok_eq.1 h3).2.2.2 _ (List.getElem_mem h)
  have hs := t.field_size _ (List.getElem_mem h)
  obtain ⟨c, e, hc⟩ := r6Equal_eq n t.fields[i].2.2.2.1 t.fields[i].2.2.2.1 (by omega) (by omega) q2 q2
  rw [e, hc.2 rfl]
  rfl
theorem same_none (n : Nat) (t : Ty) (hn : 1000 ≤ n) : l6_sameField_F n zeroTF t (-1) = some true := by
  rw [l6_sameField_F, decide_eq_false (by omega)]
  simp only [Bool.false_eq_true, if_false, l6_sameField_k4, zeroTF, sEq_self, decide_true, Bool.and_self, if_true]
  obtain ⟨c, e, hc⟩ := r6Equal_eq n (Ty.mk 0 0 0 0 [] [] []) (Ty.mk 0 0 0 0 [] [] []) (by simp [Ty.size, sizeTs, sizeTFs]; omega) (by simp [Ty.size, sizeTs, sizeTFs]) zeroTy_ok zeroTy_ok
  rw [e, hc.2 rfl]
  rfl
theorem fields_l23 (n : Nat) (t : Ty) (nm : ByteArray) (nu : Int) (y14 y16 : TF × Bool) (hl : t.fields.length ≤ 1000000000) (hk : t.kind = 9 ∨ t.kind = 10) : ∀ (i m : Nat), i ≤ t.fields.length → i < m →
    l6_SchemaFields_l23 n t nm nu y14 y16 m (ffI (fun x : TF => sEq x.2.1 nm) t.fields i) (ffI (fun x : TF => decide (x.1 = nu)) t.fields i) ((i : Int) - 1) =
      l6_SchemaFields_k19 n t y14 y16 (ffI (fun x : TF => sEq x.2.1 nm) t.fields 0) (ffI (fun x : TF => decide (x.1 = nu)) t.fields 0)
  | i, 0, _, h => absurd h (Nat.not_lt_zero _)
  | 0, m + 1, _, _ => by
    rw [l6_SchemaFields_l23, if_neg (by simp)]
  | i + 1, m + 1, h, hm => by
    have hlt : i < t.fields.length := by omega
    rw [l6_SchemaFields_l23, show ((i + 1 : Nat) : Int) - 1 = (i : Int) by omega, if_pos (by simp; omega), idx_nat hlt]
    simp only [Option.bind_some]
    have ih := fields_l23 n t nm nu y14 y16 hl hk i m (by omega) (by omega)
    have s1 := ffI_step (fun x : TF => sEq x.2.1 nm) t.fields i hlt
    have s2 := ffI_step (fun x : TF => decide (x.1 = nu)) t.fields i hlt
    have k31 : ∀ x11 : Int, l6_SchemaFields_k31 n (l6_SchemaFields_l23 n t nm nu y14 y16 m) t nu (ffI (fun x : TF => decide (x.1 = nu)) t.fields (i + 1)) i x11 = l6_SchemaFields_l23 n t nm nu y14 y16 m x11 (ffI (fun x : TF => decide (x.1 = nu)) t.fields i) ((i : Int) - 1) := fun x11 => by
      rw [l6_SchemaFields_k31, idx_nat hlt]
      simp only [Option.bind_some]
      rw [s2]
      by_cases c : t.fields[i].1 = nu
      · rw [decide_eq_true c, if_pos rfl, if_pos rfl, l6_SchemaFields_k28, if_pos (by unfold I64; omega)]
      · rw [decide_eq_false c]
        simp only [Bool.false_eq_true, if_false]
        rw [l6_SchemaFields_k28, if_pos (by unfold I64; omega)]
    rw [k31, k31]
    rw [s1] at ih
    by_cases c : sEq t.fields[i].2.1 nm = true
    · rw [if_pos c]; rw [if_pos c] at ih; exact ih
    · rw [if_neg c]; rw [if_neg c] at ih; exact ih
theorem fields_plain (n : Nat) (hn : 100000 ≤ n) (t : Ty) (nm : ByteArray) (nu : Int) : l6_SchemaFields_F n t nm nu = some true := by
  have kn := known_ge n (by omega)
  rw [l6_SchemaFields_F, kn]
  simp only [Option.bind_some, Bool.not_true, Bool.false_eq_true, if_false]
  obtain ⟨b, e, hb⟩ := Small_eq n (by omega) t
  rw [e]
  simp only [Option.bind_some]
  cases b with
  | false => rfl
  | true =>
  have ht := hb rfl
  have hl := t.lens
  have hsz := ht.1
  simp only [Bool.not_true, Bool.false_eq_true, if_false, s_Field_F, s_Numbered_F, s_Field_1_F, s_Numbered_1_F]
  have fin : ∀ (y14 y16 : TF × Bool) (a b : Int), (y14.2 == decide (0 ≤ a)) = true → (y16.2 == decide (0 ≤ b)) = true → l6_sameField_F n y14.1 t a = some true → l6_sameField_F n y16.1 t b = some true → l6_SchemaFields_k19 n t y14 y16 a b = some true := fun y14 y16 a b h1 h2 h3 h4 => by
    rw [l6_SchemaFields_k19, h1, h2]
    simp only [Bool.and_self, if_true, h3, h4, Option.bind_some]
  rcases find_eq n t (fun x => sEq x.2.1 nm) (by omega) ht with ⟨k1, k2, e1⟩ | ⟨hk, e1⟩
  · rcases find_eq n t (fun x => decide (x.1 = nu)) (by omega) ht with ⟨_, _, e2⟩ | ⟨hk, _⟩
    · rw [e1, e2]
      simp only [Option.bind_some]
      rw [if_pos (by unfold I64; omega)]
      obtain ⟨m, rfl⟩ : ∃ m, n = m + 1 := ⟨n - 1, by omega⟩
      rw [l6_SchemaFields_l23, if_neg (by simp [k1, k2])]
      exact fin _ _ _ _ rfl rfl (same_none _ t (by omega)) (same_none _ t (by omega))
    · rcases hk with hk | hk
      · exact absurd hk k1
      · exact absurd hk k2
  · rcases find_eq n t (fun x => decide (x.1 = nu)) (by omega) ht with ⟨k1, k2, _⟩ | ⟨_, e2⟩
    · rcases hk with hk | hk
      · exact absurd hk k1
      · exact absurd hk k2
    · have loop : ∀ y14 y16, l6_SchemaFields_l23 n t nm nu y14 y16 n (-1) (-1) ((t.fields.length : Int) - 1) = l6_SchemaFields_k19 n t y14 y16 (ffI (fun x : TF => sEq x.2.1 nm) t.fields 0) (ffI (fun x : TF => decide (x.1 = nu)) t.fields 0) := fun y14 y16 => by
        have := fields_l23 n t nm nu y14 y16 (by omega) hk t.fields.length n (Nat.le_refl _) (by omega)
        rw [ffI_end _ _ _ (Nat.le_refl _), ffI_end _ _ _ (Nat.le_refl _)] at this
        exact this
      rcases e1 with ⟨q1, e1⟩ | ⟨i, hi, q1, e1⟩ <;> rcases e2 with ⟨q2, e2⟩ | ⟨j, hj, q2, e2⟩
      all_goals
        rw [e1, e2]
        simp only [Option.bind_some]
        rw [if_pos (by unfold I64; omega), loop, q1, q2]
      · exact fin _ _ _ _ rfl rfl (same_none _ t (by omega)) (same_none _ t (by omega))
      · exact fin _ _ _ _ rfl (by simp) (same_none _ t (by omega)) (same_at n t (by omega) ht j hj)
      · exact fin _ _ _ _ (by simp) rfl (same_at n t (by omega) ht i hi) (same_none _ t (by omega))
      · exact fin _ _ _ _ (by simp) (by simp) (same_at n t (by omega) ht i hi) (same_at n t (by omega) ht j hj)
end Go.Proofs.YtggimoedcamonaaGreatDoor
namespace Go.Proofs.YtggimoedcamonaaGreatDoor
open Go Go.Shelf Go.ChangeShapes Go.WideShapes Go.ChangeAt Go.RowKit Go.Lib Go.Ev
abbrev schFieldsSpec : OpenSpec := OpenSpec.ofChange Rows.schemaFieldsSpec
theorem schFields_witness (os : Os) {H : Type} (enc : TypeId × Value → H) :
    schFieldsSpec.preRow enc Tryz.prog Tryz.f7 Rows.schemaFieldsRow.domain false Rows.schemaFieldsRow.laid ((lawWorld os).forCall (fun _ _ => 0) ⟨#[], #[Value.agg #[Value.int .i64 0, Value.int .i64 0, Value.int .i64 0, Value.int .i64 0, Value.slice none 0 0, Value.slice none 0 0, Value.slice none 0 0], Value.string ⟨#[]⟩, Value.int .i64 0], []⟩).memory #[Value.agg #[Value.int .i64 0, Value.int .i64 0, Value.int .i64 0, Value.int .i64 0, Value.slice none 0 0, Value.slice none 0 0, Value.slice none 0 0], Value.string ⟨#[]⟩, Value.int .i64 0] := by
  have hw : (DataW.whole enc Tryz.prog ((lawWorld os).forCall (fun _ _ => 0) ⟨#[], #[Value.agg #[Value.int .i64 0, Value.int .i64 0, Value.int .i64 0, Value.int .i64 0, Value.slice none 0 0, Value.slice none 0 0, Value.slice none 0 0], Value.string ⟨#[]⟩, Value.int .i64 0], []⟩).memory Tryz.f7.params.toList schFieldsSpec.vars false (#[Value.agg #[Value.int .i64 0, Value.int .i64 0, Value.int .i64 0, Value.int .i64 0, Value.slice none 0 0, Value.slice none 0 0, Value.slice none 0 0], Value.string ⟨#[]⟩, Value.int .i64 0]).toList 8).map (fun x => (x.1, x.2.1)) =
      some ([.agg [.lit (.int .i64 0), .lit (.int .i64 0), .lit (.int .i64 0), .lit (.int .i64 0), .nil, .nil, .nil], .lit (.string []), .lit (.int .i64 0)], []) := by kernel_rfl
  obtain ⟨⟨x1, x2, x3⟩, hx, hx1⟩ := Option.map_eq_some_iff.1 hw
  simp only [Prod.mk.injEq] at hx1
  obtain ⟨rfl, rfl⟩ := hx1
  exact OpenSpec.preRow_of_cond 8 hx (by kernel_rfl) (fun k hk => by cases hk) (by kernel_rfl) (law_laid_met os _)
set_option maxRecDepth 100000 in
set_option maxHeartbeats 2000000 in
theorem schFields_lifted (os : Os) (started : os.Started) (H : Type) (enc : TypeId × Value → H) (F : Stop.Interp) :
    ReturnsInHanded {} Tryz.checked os 7 .any (schFieldsSpec.preRow enc Tryz.prog Tryz.f7 Rows.schemaFieldsRow.domain false Rows.schemaFieldsRow.laid) ((schFieldsSpec.at F).post enc Tryz.prog Tryz.f7 false true false false) := by
  refine returnsInHanded_of_row (C := Tryz.checked) (s := schFieldsSpec) law_own started (by kernel_rfl) Tryz.func7
    (witness_row_atRef (enc := enc) (C := Tryz.checked) false (lawWorld os) #[Value.agg #[Value.int .i64 0, Value.int .i64 0, Value.int .i64 0, Value.int .i64 0, Value.slice none 0 0, Value.slice none 0 0, Value.slice none 0 0], Value.string ⟨#[]⟩, Value.int .i64 0] rfl (by kernel_rfl) (by kernel_rfl) (by kernel_rfl) (schFields_witness os enc)) ?_
  intro W base args ds gs before hval0 hW _ _ _ hL _ _
  have hval : ∀ (j : Nat) t v, Tryz.f7.params[j]? = some t → args[j]? = some v → Value.okWide Tryz.prog W .any base t v := hval0
  have hW' := hW
  obtain ⟨p, q, hA0, hV0, rfl, _, _⟩ := hW
  have hA : DataW.TrodAll enc Tryz.prog W 0 (fun _ => true) true Tryz.f7.params.toList args.toList ds p := hA0
  rw [Tryz.params7] at hA hval
  obtain ⟨v0, v1, v2, d0, d1, d2, p0, p1, p2, rfl, rfl, rfl, h0, h1, h2⟩ := trodAll_three hA
  obtain ⟨rfl, rfl⟩ := trodVars_none hV0
  have hwt := hA.lt
  obtain ⟨x0, hx0, hR0⟩ := open_t (hval 0 _ v0 rfl rfl) h0
  obtain ⟨x1, hx1, hR1⟩ := open_s (hval 1 _ v1 rfl rfl) h1
  obtain ⟨x2, hx2, hR2⟩ := open_i (hval 2 _ v2 rfl rfl) h2
  clear hA0 hV0 hval0
  obtain ⟨htab, hpow⟩ := law_tabs hL
  have hc := Ev.calls_of_acalls (l6_SchemaFields_at W hpow htab 100000 [] [] [] x0 x1 x2 true (fields_plain 100000 (by omega) x0 x1 x2)) (rowR_three hR0 hR1 hR2)
  refine hc.mono ?_
  rintro e W' ⟨rfl, bel⟩
  have e1 : (schFieldsSpec.at F).fn H ([d0, d1, d2] ++ []) = { results := [.lit (.bool true)], args := [d0, d1, d2] } := rfl
  refine ⟨_, rfl, _, _, _, [], (p0 ++ (p1 ++ p2)), [], hW', ?_, ?_, ?_, bel.frame _, fun h => by cases h⟩
  · rw [e1]; exact trodAll_mk1 (shut_bool Tryz.underlying4 _)
  · rw [e1]; exact trodAll_mk3 (Below.trod (by kernel_rfl) (by kernel_rfl) (of_decide_eq_true (by kernel_rfl)) h0 bel (fun x hx => hwt x (by simp only [List.mem_append]; exact Or.inl (Or.inl hx)))) (Below.trod (by kernel_rfl) (by kernel_rfl) (of_decide_eq_true (by kernel_rfl)) h1 bel (fun x hx => hwt x (by simp only [List.mem_append]; exact Or.inl (Or.inr hx)))) (Below.trod (by kernel_rfl) (by kernel_rfl) (of_decide_eq_true (by kernel_rfl)) h2 bel (fun x hx => hwt x (by simp only [List.mem_append]; exact Or.inr hx)))
  · rw [e1]; rfl
theorem schFields_holds : Rows.SchemaFieldsSaid :=
  OpenClaim.holds_of_cond 7 Tryz.f7 rfl rfl rfl rfl rfl rfl rfl ⟨rfl, rfl, rfl, rfl, rfl⟩ rfl rfl rfl rfl rfl (by kernel_rfl) Tryz.func7 (by kernel_rfl)
    (of_decide_eq_true (by kernel_rfl)) (by unfold Func.isWrapper; rw [if_neg (of_decide_eq_false (by kernel_rfl))]; exact ⟨rfl, rfl⟩)
    (fun os started H enc _ F0 => by rw [OpenClaim.pre_eq_preRow]; exact schFields_lifted os started H enc F0)
end Go.Proofs.YtggimoedcamonaaGreatDoor
namespace Go.Proofs.YtggimoedcamonaaGreatDoor
open Go
theorem fields_card : Rows.SchemaFieldsCardSaid :=
  Claim7.holds_tied_plain_at .later [] [.data, .data, .data, .data, .pinned] true (true, "fcc1e7a57a9ce17606b8959cd2b5942f9c281f0752ea4614b237ba76011cbc81") false
    schFields_holds (fun _ h => by cases h) (by kernel_rfl) (fun _ h => by cases h) schemaFields_row_tie rfl ⟨rfl, rfl⟩ (by kernel_rfl) rfl
    (fun f fn hf hfn => by
      obtain rfl : f = 7 := Option.some.inj ((show Tryz.prog.funcNamed Rows.schemaFieldsRow.func = some 7 by kernel_rfl).symm.trans hf) |>.symm
      obtain rfl : fn = Tryz.f7 := (Option.some.inj (Tryz.func7.symm.trans hfn)).symm
      exact ⟨by kernel_rfl, fun j t ht => by
        rw [Tryz.params7] at ht
        have h3 : t = 26 ∨ t = 9 ∨ t = 3 := by
          rcases j with _ | _ | _ | j
          · left; simpa using ht.symm
          · right; left; simpa using ht.symm
          · right; right; simpa using ht.symm
          · simp at ht
        rcases h3 with rfl | rfl | rfl
        · exact (show Tryz.prog.wantsStandIn 26 = false by kernel_rfl)
        · exact (show Tryz.prog.wantsStandIn 9 = false by kernel_rfl)
        · exact (show Tryz.prog.wantsStandIn 3 = false by kernel_rfl)⟩)
    (by kernel_rfl)
#print axioms fields_card
end Go.Proofs.YtggimoedcamonaaGreatDoor
