/-
  Part 7 of the proof: rules and walks that the claim's last text uses.
-/
import Derived.Test.YtgpmlelfkjfbiaaGreatDoorSx6
set_option linter.unusedSimpArgs false
set_option linter.unusedVariables false
set_option maxRecDepth 100000
set_option maxHeartbeats 4000000
namespace Go.Proofs.YtgpmlelfkjfbiaaGreatDoor
open Go Go.RowKit Go.Ev
def ZaS (t : Ty) : List (Ty × Part) :=
 if t.kind = 8 then t.elem.map fun e => (e, Part.mk 3 0 ⟨#[]⟩)
 else if t.kind = 9 then t.fields.map fun f => (f.2.2.2.1, Part.mk 1 0 f.2.1)
 else if t.kind = 10 then t.fields.map fun f => (f.2.2.2.1, Part.mk 4 0 f.2.1) else []
theorem ZiA (t : Ty) : (ZaS t).map Prod.fst = ZeR t := by
 unfold ZaS ZeR
 by_cases h8 : t.kind = 8
 ·
  rw [if_pos h8, if_pos h8, List.map_map]; exact List.map_id _
 rw [if_neg h8, if_neg h8]
 by_cases h9 : t.kind = 9
 ·
  rw [if_pos h9, if_pos (.inl h9), List.map_map]; rfl
 rw [if_neg h9]
 by_cases h10 : t.kind = 10
 ·
  rw [if_pos h10, if_pos (.inr h10), List.map_map]; rfl
 rw [if_neg h10, if_neg (by omega)]; rfl
theorem Zfw (t : Ty) : (ZaS t).length = (ZeR t).length := by rw [← ZiA, List.length_map]
def lvs : Nat → Ty → List Part → List (List Part)
 | 0, _, _ => []
 | n + 1, t, b => if (ZaS t).length = 0 then [b] else (ZaS t).flatMap fun q => lvs n q.1 (b ++ [q.2])
theorem Zj7 {t : Ty} {q : Ty × Part} (h : q ∈ ZaS t) : q.1.size < t.size := by
 unfold ZaS at h
 split at h
 ·
  obtain ⟨e, he, rfl⟩ := List.mem_map.1 h; exact t.elem_size e he
 ·
  split at h
  ·
   obtain ⟨e, he, rfl⟩ := List.mem_map.1 h; exact t.field_size e he
  ·
   split at h
   ·
    obtain ⟨e, he, rfl⟩ := List.mem_map.1 h; exact t.field_size e he
   ·
    simp at h
theorem Zgn {t : Ty} {q : Ty × Part} (h : q ∈ ZaS t) : q.1.depth < t.depth := by
 have hd := t.depth_eq
 have m1 := (Zfr t.elem (ZeW t.elem)).1 (Nat.le_refl _)
 have m2 := (ZeN t.fields (ZdB t.fields)).1 (Nat.le_refl _)
 unfold ZaS at h
 split at h
 ·
  obtain ⟨e, he, rfl⟩ := List.mem_map.1 h; have := m1 e he; simp only; omega
 ·
  split at h
  ·
   obtain ⟨e, he, rfl⟩ := List.mem_map.1 h; have := m2 e he; simp only; omega
  ·
   split at h
   ·
    obtain ⟨e, he, rfl⟩ := List.mem_map.1 h; have := m2 e he; simp only; omega
   ·
    simp at h
theorem ZiR {t : Ty} (ht : t.small) {q : Ty × Part} (h : q ∈ ZaS t) : q.1.small := by
 unfold ZaS at h
 split at h
 ·
  obtain ⟨e, he, rfl⟩ := List.mem_map.1 h; exact Ty.small_elem ht he
 ·
  split at h
  ·
   obtain ⟨e, he, rfl⟩ := List.mem_map.1 h; exact Ty.small_field ht he
  ·
   split at h
   ·
    obtain ⟨e, he, rfl⟩ := List.mem_map.1 h; exact Ty.small_field ht he
   ·
    simp at h
theorem Zhv {t : Ty} (ht : t.Good) {q : Ty × Part} (h : q ∈ ZaS t) : q.1.Good := by
 unfold ZaS at h
 split at h
 ·
  obtain ⟨e, he, rfl⟩ := List.mem_map.1 h; exact Zh7 ht he
 ·
  split at h
  ·
   obtain ⟨e, he, rfl⟩ := List.mem_map.1 h; exact ZdY ht he
  ·
   split at h
   ·
    obtain ⟨e, he, rfl⟩ := List.mem_map.1 h; exact ZdY ht he
   ·
    simp at h
theorem Zik (t : Ty) : ((ZaS t).map fun q => q.1.size).sum < t.size := by
 have := Zpa t
 rw [← ZiA, List.map_map] at this
 exact this
theorem ZoL {α β : Type} (f : α → List β) (g : α → Nat) : ∀ l : List α, (∀ x ∈ l, (f x).length ≤ g x) → (l.flatMap f).length ≤ (l.map g).sum
 | [], _ => by simp
 | x :: l, h => by
  have h1 := h x (List.mem_cons_self ..)
  have h2 := ZoL f g l fun y hy => h y (List.mem_cons_of_mem _ hy)
  rw [List.flatMap_cons, List.length_append, List.map_cons, List.sum_cons]
  omega
theorem ZjW : ∀ (n : Nat) (t : Ty) (b : List Part), (lvs n t b).length ≤ t.size
 | 0, t, _ => by simp [lvs]
 | n + 1, t, b => by
  have hp := t.size_pos
  rw [lvs]
  split
  ·
   simp only [List.length_cons, List.length_nil]; omega
  ·
   have := ZoL (fun q : Ty × Part => lvs n q.1 (b ++ [q.2])) (fun q => q.1.size) (ZaS t) fun q _ => ZjW n q.1 _
   have := Zik t
   omega
inductive Leads : Ty → List Part → Ty → Prop
 | nil (t : Ty) : Leads t [] t
 | cons {t x : Ty} {q : Ty × Part} {l : List Part} (h : q ∈ ZaS t) (k : Leads q.1 l x) : Leads t (q.2 :: l) x
theorem Zl2 : ∀ (n : Nat) (t : Ty) (b l : List Part), l ∈ lvs n t b → ∃ l' x, l = b ++ l' ∧ Leads t l' x ∧ ZaS x = [] ∧ l'.length < t.depth
 | 0, _, _, _, h => by simp [lvs] at h
 | n + 1, t, b, l, h => by
  rw [lvs] at h
  split at h
  ·
   rename_i h0
   rw [List.mem_singleton] at h
   exact ⟨[], t, by rw [h, List.append_nil], .nil t, List.length_eq_zero_iff.1 h0, by have := t.depth_eq; simp only [List.length_nil]; omega⟩
  ·
   obtain ⟨q, hq, hl⟩ := List.mem_flatMap.1 h
   obtain ⟨l', x, h1, h2, h3, h4⟩ := Zl2 n q.1 _ _ hl
   have := Zgn hq
   exact ⟨q.2 :: l', x, by rw [h1, List.append_assoc]; rfl, .cons hq h2, h3, by simp only [List.length_cons]; omega⟩
theorem ZnY {k i : Int} {s : ByteArray} (hk : I64 k) (hi : I64 i) (hs : s.size ≤ maxLen) : (Part.mk k i s).wf := ⟨hk, hi, hs⟩
theorem Leads.wf {t x : Ty} {l : List Part} (h : Leads t l x) (tg : t.Good) : ∀ p ∈ l, p.wf := by
 induction h with
 | nil => simp
 | @cons t x q l h k ih =>
  intro p hp
  rcases List.mem_cons.1 hp with rfl | hp
  ·
   have own := tg.own
   have hn : ∀ f ∈ t.fields, f.2.1.size ≤ 32 := fun f hf => Zln (own.each f hf).1
   unfold ZaS at h
   split at h
   ·
    obtain ⟨e, he, rfl⟩ := List.mem_map.1 h; exact ZnY (by unfold I64; omega) (by unfold I64; omega) (by decide)
   ·
    split at h
    ·
     obtain ⟨e, he, rfl⟩ := List.mem_map.1 h; exact ZnY (by unfold I64; omega) (by unfold I64; omega) (Nat.le_trans (hn e he) (by decide))
    ·
     split at h
     ·
      obtain ⟨e, he, rfl⟩ := List.mem_map.1 h; exact ZnY (by unfold I64; omega) (by unfold I64; omega) (Nat.le_trans (hn e he) (by decide))
     ·
      simp at h
  ·
   exact ih (Zhv tg h) p hp
theorem ZoY (n : Nat) (hn : 5000 ≤ n) {t : Ty} {q : Ty × Part} (ts : t.small) (tg : t.Good) (h : q ∈ ZaS t) : ∃ b, ZfR n t q.2 = some (q.1, b, 0) := by
 have h1 := ts.1
 have own := tg.own
 have fld : ∀ (f : TF) (p : Part), f ∈ t.fields → p.name = f.2.1 → (t.kind = 9 ∧ p.kind = 1 ∨ t.kind = 10 ∧ p.kind = 4) → ∃ b, ZfR n t p = some (f.2.2.2.1, b, 0) := by
  intro f p hf hpn hk
  have hu := ZlQ (ZmG _ _ _ own.apart).1 hf
  rw [← hpn] at hu
  have hff : Zma t p.name = idx t.fields (ffI (fun x : TF => sEq x.2.1 p.name) t.fields 0) := Zsj _ _
  rw [hu] at hff
  obtain ⟨kd, hkd, hi'⟩ : ∃ kd : Int, ((kd = 9 ∧ p.kind = 1) ∨ (kd = 10 ∧ p.kind = 4)) ∧ idx [(0 : Int), 9, 8, 8, 10] p.kind = some kd := by
   rcases hk with ⟨_, h9⟩ | ⟨_, h9⟩
   ·
    exact ⟨9, .inl ⟨rfl, h9⟩, by rw [h9]; rfl⟩
   ·
    exact ⟨10, .inr ⟨rfl, h9⟩, by rw [h9]; rfl⟩
  have htk : t.kind = kd := by omega
  rw [ZfR, hi', Option.bind_some, decide_eq_true htk, decide_eq_false (show ¬ p.kind = 3 by omega), decide_eq_false (show ¬ p.kind = 2 by omega)]
  simp only [Bool.not_true, Bool.false_eq_true, if_false]
  have hF : Zen n t p.name = (Zd8 n t (fun x => some (sEq x.2.1 p.name))).bind fun y3 => some (y3.1, y3.2) := rfl
  rw [hF]
  rcases ZnO n t (fun x => sEq x.2.1 p.name) (by omega) ts with ⟨k1, k2, _⟩ | ⟨_, ⟨q1, q2⟩ | ⟨j, hj, q1, q2⟩⟩
  ·
   omega
  ·
   rw [q1] at hff
   exact absurd hff (by simp [idx])
  ·
   rw [q1, Zap hj] at hff
   rw [q2, ← Option.some.inj hff]
   simp only [Option.bind_some, Bool.not_true, Bool.false_eq_true, if_false]
   split <;> exact ⟨_, rfl⟩
 unfold ZaS at h
 split at h
 ·
  rename_i h8
  obtain ⟨e, he, rfl⟩ := List.mem_map.1 h
  obtain ⟨e', he'⟩ := own.elem h8
  have : e = e' := by rw [he'] at he; simpa using he
  subst this
  have hei : idx t.elem 0 = some e := by rw [he']; rfl
  rw [ZfR, show idx [(0 : Int), 9, 8, 8, 10] (Part.mk 3 0 ⟨#[]⟩).kind = some 8 from rfl, Option.bind_some, decide_eq_true h8]
  simp only [Bool.not_true, Bool.false_eq_true, if_false, hei, Option.bind_some]
  exact ⟨_, rfl⟩
 ·
  split at h
  ·
   rename_i h9
   obtain ⟨f, hf, rfl⟩ := List.mem_map.1 h
   exact fld f _ hf rfl (.inl ⟨h9, rfl⟩)
  ·
   split at h
   ·
    rename_i h10
    obtain ⟨f, hf, rfl⟩ := List.mem_map.1 h
    exact fld f _ hf rfl (.inr ⟨h10, rfl⟩)
   ·
    simp at h
theorem Zoh (n : Nat) (hn : 5000 ≤ n) (l : List Part) (hl : l.length ≤ 1000) : ∀ (k m i : Nat) (a : Bool) (t x : Ty), i + k = l.length → k < m → t.small → t.Good → Leads t (l.drop i) x → ∃ b, ZfX n l m a i t = some (x, b, 0)
 | k, 0, i, _, _, _, _, h, _, _, _ => absurd h (Nat.not_lt_zero _)
 | 0, m + 1, i, a, t, x, hi, _, ts, _, hx => by
  have h1 := ts.1
  rw [List.drop_of_length_le (by omega)] at hx
  cases hx
  rw [ZfX, Zao, decide_eq_false (by omega)]
  simp only [Bool.false_eq_true, if_false, Zi9]
  rw [ZhU n t (by omega) (by omega) ts.2.2]
  exact ⟨_, rfl⟩
 | k + 1, m + 1, i, a, t, x, hi, hm, ts, tg, hx => by
  have hlt : i < l.length := by omega
  rw [List.drop_eq_getElem_cons hlt] at hx
  generalize hp : l[i] = p at hx
  cases hx with
  | @cons _ _ q l' hq hk =>
   obtain ⟨b, hb⟩ := ZoY n hn ts tg hq
   rw [ZfX, Zao, decide_eq_true hlt, if_pos rfl, Zap hlt, Option.bind_some, hp, hb, Option.bind_some, decide_eq_true (rfl : (0 : Int) = 0), if_neg (by decide), if_pos (Zaq (by omega))]
   exact Zoh n hn l hl k m (i + 1) (a || b) _ x (by omega) (by omega) (ZiR ts hq) (Zhv tg hq) hk
theorem ZnM (n : Nat) (hn : 25 ≤ n) (l : List Part) (hw : ∀ p ∈ l, p.wf) (hl : l.length ≤ 20) : ∃ b : Bool, Zgr n l = some (if b = true then 0 else 3) := by
 rw [Zgr]
 by_cases h : l.length < 1 ∨ 16 < l.length
 ·
  exact ⟨false, by rw [if_pos (by simp only [Bool.or_eq_true, decide_eq_true_eq]; omega)]; rfl⟩
 rw [if_neg (by simp only [Bool.or_eq_true, decide_eq_true_eq]; omega)]
 match l, h, hw, hl with
 | [], h, _, _ => exact absurd (Or.inl (by simp)) h
 | p :: r, h, hw, hl =>
 rw [List.length_cons] at hl
 have e0 : idx (p :: r) 0 = some p := rfl
 rw [e0, Option.bind_some]
 by_cases h1 : p.kind = 1
 ·
  rw [decide_eq_true h1]
  simp only [Bool.not_true, Bool.false_eq_true, if_false]
  have ec : ZcE n (p :: r) n (-1) 0 = _ := ZkU n (p :: r) hw (by rw [List.length_cons]; omega) (p :: r).length n 0 (-1) (by omega) (by rw [List.length_cons]; omega) (by omega) (by omega)
  exact ⟨_, ec⟩
 ·
  rw [decide_eq_false h1]
  exact ⟨false, rfl⟩
def Zey (rec : Ty → (List Part) → Option ((List (List Part)))) (n : Nat)  (x5_k30 : List (List Part)) : Option ((List (List Part))) :=
 some (x5_k30)
def Zcg (rec : Ty → (List Part) → Option ((List (List Part)))) (n : Nat) (a0 : Ty) (a1 : List Part) (x6_k25 : Int) : Nat → (List (List Part)) → Int → Option ((List (List Part)))
 | 0, _, _ => none
 | m + 1, x5_l33, x7_l33 =>
  if decide (x7_l33 < ((a0.fields.length : Int))) then
   if (0 + a1.length) * 32 ≤ 140737488355328 ∧ 0 + a1.length ≤ 4611686018427387904 then
    (idx a0.fields x7_l33).bind fun x44 =>
    if (a1.length + 1) * 32 ≤ 140737488355328 ∧ a1.length + 1 ≤ 4611686018427387904 then
     (rec x44.2.2.2.1 (a1 ++ ([Part.mk x6_k25 0 x44.2.1]))).bind fun y49 =>
     if (x5_l33.length + y49.length) * 24 ≤ 140737488355328 ∧ x5_l33.length + y49.length ≤ 4611686018427387904 then
      if I64 (x7_l33 + 1) then
       (Zcg rec n a0 a1 x6_k25 m) (x5_l33 ++ y49) (x7_l33 + 1)
      else none
     else none
    else none
   else none
  else
   Zey rec n x5_l33
def ZcW (rec : Ty → (List Part) → Option ((List (List Part)))) (n : Nat) (a0 : Ty) (a1 : List Part) (x6_k25 : Int) : Option ((List (List Part))) :=
 Zcg rec n a0 a1 x6_k25 n ([]) 0
def Zf9 (rec : Ty → (List Part) → Option ((List (List Part)))) (n : Nat) (a0 : Ty) (a1 : List Part) : Option ((List (List Part))) :=
 (ZeH n a0).bind fun y4 =>
 if decide (((y4.length : Int)) = 0) then
  some ([a1])
 else
  if decide (a0.kind = 8) then
   (idx a0.elem 0).bind fun x12 =>
   if (0 + a1.length) * 32 ≤ 140737488355328 ∧ 0 + a1.length ≤ 4611686018427387904 then
    if (a1.length + 1) * 32 ≤ 140737488355328 ∧ a1.length + 1 ≤ 4611686018427387904 then
     (rec x12 (a1 ++ ([Part.mk 3 0 ((⟨#[]⟩ : ByteArray))]))).bind fun y22 =>
     some (y22)
    else none
   else none
  else
   if decide (a0.kind = 10) then
    ZcW rec n a0 a1 4
   else
    ZcW rec n a0 a1 1
def Zcd : Nat → Ty → (List Part) → Option ((List (List Part)))
 | 0, _, _ => none
 | n + 1, a0, a1 => Zf9 (Zcd n) n a0 a1
def Zhw (w0 : World) (F : Ty → (List Part) → Option ((List (List Part)))) : Prop := ∀ (B : List (List AV)) (Rw : List RowA) (L : List LoopA) (a0 : Ty) (a1 : List Part) (r : (List (List Part))), F a0 a1 = some r → ACalls Tryz.prog w0 16 [.agg (a0.cs), .list (a1.map ZcD) .none] ⟨B, Rw, L⟩ fun x st => x = .list (r.map (avL ZcD)) .none ∧ st = ⟨B, Rw, L⟩
theorem Zkm (w0 : World) (rec : Ty → (List Part) → Option ((List (List Part)))) (ih : Zhw w0 rec) (n : Nat) : Zhw w0 (Zf9 rec n) := by
 intro B Rw L a0 a1 r h
 rw [Zf9] at h
 refine hd [.tmp 4] Tryz.func16 Tryz.ntmps16 fun M0 W0 hN hNR hNL hcalm hu hO hs => ?_
 simp only [Zav]
 refine rg [1, 2] hs ?_
 apply Zab; intro K2 hK2
 obtain ⟨y4, hy4, h⟩ := bind_some h
 refine rc 2 [1, 2, 12] hs ?_; intro K3 hK3
 refine Zaf _ (Zj1 w0 n _ _ _ a0 _ hy4) (hv hs) ?_
 refine ne hs hK3 ?_
 clear hK3
 refine cnd h hs (fun hs h => ?_) (fun hs h => ?_)
 ·
  have hb5 := hs.1
  refine rg [4] hs ?_
  exact rt h hs hcalm hO
 have hb5 := hs.1
 refine sk [1, 2] hs hK2 ?_
 clear hK2
 refine rg [1, 2, 5] hs ?_
 apply Zab; intro K8 hK8
 refine rg [1, 2, 5, 17] hs ?_
 refine cnd h hs (fun hs h => ?_) (fun hs h => ?_)
 ·
  have hb10 := hs.1
  apply Zab; intro K11 hK11
  obtain ⟨x12, hx12a, hx12b, hx12d, h⟩ := ix avT h
  have hx12e : (a0.elem.map avT).getD 0 .junk = _ := hx12d
  obtain ⟨hg13, h⟩ := Zac h
  have hO := hO.full 3 0
  obtain ⟨o15, rows16, hO, hap17⟩ := hO.append (P := Tryz.prog) Zl7 (by rw [ZhW]; rfl) (by decide) a1.length hg13.1 hg13.2
  simp only [Nat.zero_add] at hO
  replace hap17 := fun (ys : List AV) B L o2 => hap17 ([]) ys B L o2 (by first | rfl | simp only [List.length_map, List.length_nil, List.length_append, List.length_cons, Nat.zero_add])
  replace hap17 := fun B L o2 => hap17 (a1.map ZcD) B L o2 (by first | rfl | simp only [List.length_map, List.length_nil, List.length_cons]) ev
  try simp only [List.mem_singleton, List.mem_cons, List.not_mem_nil, or_false, forall_eq_or_imp, forall_eq, List.map_append, List.map_cons, List.map_nil, Zcn, ZcQ, Zcy, Zcs, Zcw, Zcm, ZbF, ZbK, ZcC, Za8, Za9, ZbE, ZbC, ZbH] at hap17
  obtain ⟨hg18, h⟩ := Zac h
  obtain ⟨o19, rows20, hO, hap21⟩ := hO.append (P := Tryz.prog) Zl7 (by rw [ZhW]; rfl) (by decide) 1 hg18.1 hg18.2
  replace hap21 := fun (ys : List AV) B L o2 => hap21 (a1.map ZcD) ys B L o2 (by first | rfl | simp only [List.length_map, List.length_nil, List.length_append, List.length_cons, Nat.zero_add])
  replace hap21 := fun (y : AV) B L o2 => hap21 [y] B L o2 (by first | rfl | simp only [List.length_map, List.length_nil, List.length_cons]) ev
  try simp only [List.mem_singleton, List.mem_cons, List.not_mem_nil, or_false, forall_eq_or_imp, forall_eq, List.map_append, List.map_cons, List.map_nil, Zcn, ZcQ, Zcy, Zcs, Zcw, Zcm, ZbF, ZbK, ZcC, Za8, Za9, ZbE, ZbC, ZbH] at hap21
  obtain ⟨y22, hy22, h⟩ := bind_some h
  apply ZgK mix [6, 9, 10, 11] [4] (by kernel_rfl) (fun s => ∃ (X : List (List AV)) (rows : List RowA), s = ⟨B ++ ([a0.cs] ++ X), rows, L⟩) 5 (B.length + 1)
  ·
   simp +decide only [go_sem, Nat.reduceAdd]
  ·
   rintro s ⟨X, rows, rfl⟩
   refine ⟨1, ?_⟩
   rw [Zaa]; simp +decide only [go_sem, Nat.reduceAdd, Zeu, hb5, hb10, hx12d, hx12e, hap17, hap21, ZaF, Zan, Zam]
   (repeat' apply And.intro) <;> first | rfl | exact cl
  ·
   refine Good.mk [6] (by kernel_rfl) ⟨[], _, by first | rfl | simp only [List.append_nil, List.nil_append]⟩ ?_ ?_
   ·
    intro h; exact absurd h (by decide)
   ·
    intro i hi; simp only [List.mem_cons, List.not_mem_nil, or_false] at hi
    subst hi
    ·
     apply Zbn rfl rfl ev
     ·
      simp +decide only [go_sem, Nat.reduceAdd, Zc1, hb5, hb10, hx12d, hx12e, hap17, hap21, ZaF, Zan, Zam]
      (repeat' apply And.intro) <;> first | rfl | exact cl
     ·
      simp +decide only [go_sem, Nat.reduceAdd, hb5, hb10, hx12d, hx12e, hap17, hap21, ZaF, Zan, Zam]
      refine Good.mk [9] (by kernel_rfl) ⟨[], _, by first | rfl | simp only [List.append_nil, List.nil_append]⟩ ?_ ?_
      ·
       intro h; exact absurd h (by decide)
      ·
       intro i hi; simp only [List.mem_cons, List.not_mem_nil, or_false] at hi
       subst hi
       ·
        apply Zbn rfl rfl ev
        ·
         simp +decide only [go_sem, Nat.reduceAdd, Zc1, hb5, hb10, hx12d, hx12e, hap17, hap21, ZaF, Zan, Zam]
         (repeat' apply And.intro) <;> first | rfl | exact cl
        ·
         simp +decide only [go_sem, Nat.reduceAdd, hb5, hb10, hx12d, hx12e, hap17, hap21, ZaF, Zan, Zam]
         refine Good.mk [10] (by kernel_rfl) ⟨[], _, by first | rfl | simp only [List.append_nil, List.nil_append]⟩ ?_ ?_
         ·
          intro h; exact absurd h (by decide)
         ·
          intro i hi; simp only [List.mem_cons, List.not_mem_nil, or_false] at hi
          subst hi
          ·
           apply Zbn rfl rfl ev
           ·
            simp +decide only [go_sem, Nat.reduceAdd, Zc1, hb5, hb10, hx12d, hx12e, hap17, hap21, ZaF, Zan, Zam]
            (repeat' with_reducible apply And.intro) <;> first | exact Zst (ih _ _ _ x12 (a1 ++ ([Part.mk 3 0 ((⟨#[]⟩ : ByteArray))])) _ hy22) (by first | rfl | (simp +decide only [go_sem, Nat.reduceAdd, hb5, hb10, hx12d, hx12e, hap17, hap21, ZaF, Zan, Zam]; done) | (simp +decide only [go_sem, Nat.reduceAdd, Vl.cs, Ty.cs, hb5, hb10, hx12d, hx12e, hap17, hap21, ZaF, Zan, Zam]; done)) | rfl | exact cl
           ·
            simp +decide only [go_sem, Nat.reduceAdd, hb5, hb10, hx12d, hx12e, hap17, hap21, ZaF, Zan, Zam]
            refine Good.mk [11] (by kernel_rfl) ⟨[], _, by first | rfl | simp only [List.append_nil, List.nil_append]⟩ ?_ ?_
            ·
             intro h; exact absurd h (by decide)
            ·
             intro i hi; simp only [List.mem_cons, List.not_mem_nil, or_false] at hi
             subst hi
             ·
              apply Zbn rfl rfl ev
              ·
               simp +decide only [go_sem, Nat.reduceAdd, Zc1, hb5, hb10, hx12d, hx12e, hap17, hap21, ZaF, Zan, Zam]
               (repeat' apply And.intro) <;> first | rfl | exact cl
              ·
               simp +decide only [go_sem, Nat.reduceAdd, hb5, hb10, hx12d, hx12e, hap17, hap21, ZaF, Zan, Zam]
               refine Good.mk [] (by kernel_rfl) ⟨[], _, by first | rfl | simp only [List.append_nil, List.nil_append]⟩ ?_ ?_
               ·
                intro _; apply ZdD [4]; first | (simp +decide only [go_sem, Nat.reduceAdd, hb5, hb10, hx12d, hx12e, hap17, hap21, ZaF, Zan, Zam]; done) | (simp +decide only [go_sem, Nat.reduceAdd, hb5, hb10, hx12d, hx12e, hap17, hap21, ZaF, Zan, Zam]; rfl)
               ·
                intro i hi; cases hi
  simp +decide only [go_sem, Nat.reduceAdd, hb5, hb10, hx12d, hx12e, hap17, hap21, ZaF, Zan, Zam]
  (repeat' apply And.intro) <;> first | refine hK11 _ _ ?_ | exact cl
  clear hK11
  have hs := And.intro hx12d hs
  have hs := And.intro hx12e hs
  have hs := And.intro hap17 hs
  have hs := And.intro hap21 hs
  exact rt h hs hcalm hO
 have hb10 := hs.1
 refine sk [1, 2, 5] hs hK8 ?_
 clear hK8
 refine rg [1, 2, 5, 6] hs ?_
 refine Zai (fun e st => ∃ (x6_k25 : Int), Ck e st B Rw L [(1, true, .list (a1.map ZcD) .none), (2, true, .box B.length 0), (5, true, .list ([]) .full), (6, true, .val (.int .i64 x6_k25))] [a0.cs] [] (ZcW rec n a0 a1 x6_k25 = some r)) ?_ ?_
 ·
  intro K26 hK26
  refine rg [1, 2, 5, 6, 31] hs ?_
  refine cnd h hs (fun hs h => ?_) (fun hs h => ?_)
  ·
   refine rl [1, 2, 5, 6] hs hK26 ?_
   exact ⟨4, ([]), Rw, ef hs, ef hs, hO, h⟩
  refine sk [1, 2, 5, 6] hs hK26 ?_
  exact ⟨1, ([]), Rw, ef hs, ef hs, hO, h⟩
 ·
  clear h; rintro e st ⟨x6_k25, Xk25, Rk25, rfl, rfl, hO, h⟩
  rw [ZcW] at h
  refine td hN hNR hNL hcalm hO ?_
  refine Zai (fun e st => ∃ (x5_k30 : List (List Part)) (ox5_k30 : Ev.Own), Ck e st B Rw L [(5, true, .list (x5_k30.map (avL ZcD)) ox5_k30)] [a0.cs] [(1, x5_k30.length, ox5_k30)] (Zey rec n x5_k30 = some r)) ?_ ?_
  ·
   intro K31 hK31
   refine rg [1, 2, 5, 6, 7] hs ?_
   apply Zad
   refine Zal (fun m e st => ∃ (x5_l33 : List (List Part)) (x7_l33 : Int) (ox5_l33 : Ev.Own), Ck e st B Rw L [(1, true, .list (a1.map ZcD) .none), (2, true, .box B.length 0), (5, true, .list (x5_l33.map (avL ZcD)) ox5_l33), (6, true, .val (.int .i64 x6_k25)), (7, true, .val (.int .i64 x7_l33))] [a0.cs] [(1, x5_l33.length, ox5_l33)] (Zcg rec n a0 a1 x6_k25 m x5_l33 x7_l33 = some r)) n ⟨([]), 0, .full, ([]), Rk25, ef hs, ef hs, Owns.of_eq ((hO).full 1 0) (by first | rfl | simp only [List.length_append, List.length_cons, List.length_nil, List.length_map, Nat.zero_add, Nat.add_zero]), h⟩ ?_
   rintro ml33 e st ⟨x5_l33, x7_l33, ox5_l33, Xl33, Rl33, rfl, rfl, hO, h⟩ Ul33 Vl33
   cases ml33 with
   | zero => cases h
   | succ ml33 =>
   rw [Zcg] at h
   have hU := hO.unders
   simp only [List.mem_cons, List.not_mem_nil, or_false, forall_eq_or_imp, forall_eq] at hU
   refine td hN hNR hNL hcalm hO ?_
   apply Zab; intro K34 hK34
   refine rg [1, 2, 5, 6, 7, 36] hs ?_
   refine cnd h hs (fun hs h => ?_) (fun hs h => ?_)
   rotate_left
   ·
    have hb36 := hs.1
    refine sx [5] hs hK31 ?_
    exact ⟨x5_l33, ox5_l33, ([]), Rl33, ef hs, ef hs, Owns.of_eq (hO) (by first | rfl | simp only [List.length_append, List.length_cons, List.length_nil, List.length_map, Nat.zero_add, Nat.add_zero]), h⟩
   have hb36 := hs.1
   refine sk [1, 2, 5, 6, 7] hs hK34 ?_
   clear hK34
   apply Zab; intro K37 hK37
   apply Zad
   apply Zab; intro K38 hK38
   obtain ⟨hg39, h⟩ := Zac h
   have hO := hO.full 3 0
   obtain ⟨o41, rows42, hO, hap43⟩ := hO.append (P := Tryz.prog) Zl7 (by rw [ZhW]; rfl) (by decide) a1.length hg39.1 hg39.2
   simp only [Nat.zero_add] at hO
   replace hap43 := fun (ys : List AV) B L o2 => hap43 ([]) ys B L o2 (by first | rfl | simp only [List.length_map, List.length_nil, List.length_append, List.length_cons, Nat.zero_add])
   replace hap43 := fun B L o2 => hap43 (a1.map ZcD) B L o2 (by first | rfl | simp only [List.length_map, List.length_nil, List.length_cons]) ev
   try simp only [List.mem_singleton, List.mem_cons, List.not_mem_nil, or_false, forall_eq_or_imp, forall_eq, List.map_append, List.map_cons, List.map_nil, Zcn, ZcQ, Zcy, Zcs, Zcw, Zcm, ZbF, ZbK, ZcC, Za8, Za9, ZbE, ZbC, ZbH] at hap43
   obtain ⟨x44, hx44a, hx44b, hx44d, h⟩ := ix Zer h
   obtain ⟨hg45, h⟩ := Zac h
   obtain ⟨o46, rows47, hO, hap48⟩ := hO.append (P := Tryz.prog) Zl7 (by rw [ZhW]; rfl) (by decide) 1 hg45.1 hg45.2
   replace hap48 := fun (ys : List AV) B L o2 => hap48 (a1.map ZcD) ys B L o2 (by first | rfl | simp only [List.length_map, List.length_nil, List.length_append, List.length_cons, Nat.zero_add])
   replace hap48 := fun (y : AV) B L o2 => hap48 [y] B L o2 (by first | rfl | simp only [List.length_map, List.length_nil, List.length_cons]) ev
   try simp only [List.mem_singleton, List.mem_cons, List.not_mem_nil, or_false, forall_eq_or_imp, forall_eq, List.map_append, List.map_cons, List.map_nil, Zcn, ZcQ, Zcy, Zcs, Zcw, Zcm, ZbF, ZbK, ZcC, Za8, Za9, ZbE, ZbC, ZbH] at hap48
   apply ZgK mix [2, 12, 13] [1, 2, 5, 6, 7, 8] (by kernel_rfl) (fun s => ∃ (X : List (List AV)) (rows : List RowA), s = ⟨B ++ ([a0.cs] ++ X), rows, L⟩) 4 (B.length + 1)
   ·
    simp +decide only [go_sem, Nat.reduceAdd]
   ·
    rintro s ⟨X, rows, rfl⟩
    refine ⟨1, ?_⟩
    rw [Zaa]; simp +decide only [go_sem, Nat.reduceAdd, Zeu, hb5, hb10, hb36, hap43, hx44d, hap48, ZaF, Zan, Zam]
    (repeat' apply And.intro) <;> first | rfl | exact cl
   ·
    refine Good.mk [2] (by kernel_rfl) ⟨[], _, by first | rfl | simp only [List.append_nil, List.nil_append]⟩ ?_ ?_
    ·
     intro h; exact absurd h (by decide)
    ·
     intro i hi; simp only [List.mem_cons, List.not_mem_nil, or_false] at hi
     subst hi
     ·
      apply Zbn rfl rfl ev
      ·
       simp +decide only [go_sem, Nat.reduceAdd, Zc1, hb5, hb10, hb36, hap43, hx44d, hap48, ZaF, Zan, Zam]
       (repeat' apply And.intro) <;> first | rfl | exact cl
      ·
       simp +decide only [go_sem, Nat.reduceAdd, hb5, hb10, hb36, hap43, hx44d, hap48, ZaF, Zan, Zam]
       refine Good.mk [12] (by kernel_rfl) ⟨[], _, by first | rfl | simp only [List.append_nil, List.nil_append]⟩ ?_ ?_
       ·
        intro h; exact absurd h (by decide)
       ·
        intro i hi; simp only [List.mem_cons, List.not_mem_nil, or_false] at hi
        subst hi
        ·
         apply Zbn rfl rfl ev
         ·
          simp +decide only [go_sem, Nat.reduceAdd, Zc1, hb5, hb10, hb36, hap43, hx44d, hap48, ZaF, Zan, Zam]
          (repeat' apply And.intro) <;> first | rfl | exact cl
         ·
          simp +decide only [go_sem, Nat.reduceAdd, hb5, hb10, hb36, hap43, hx44d, hap48, ZaF, Zan, Zam]
          refine Good.mk [13] (by kernel_rfl) ⟨[], _, by first | rfl | simp only [List.append_nil, List.nil_append]⟩ ?_ ?_
          ·
           intro h; exact absurd h (by decide)
          ·
           intro i hi; simp only [List.mem_cons, List.not_mem_nil, or_false] at hi
           subst hi
           ·
            apply Zbn rfl rfl ev
            ·
             simp +decide only [go_sem, Nat.reduceAdd, Zc1, hb5, hb10, hb36, hap43, hx44d, hap48, ZaF, Zan, Zam]
             (repeat' apply And.intro) <;> first | rfl | exact cl
            ·
             simp +decide only [go_sem, Nat.reduceAdd, hb5, hb10, hb36, hap43, hx44d, hap48, ZaF, Zan, Zam]
             refine Good.mk [] (by kernel_rfl) ⟨[], _, by first | rfl | simp only [List.append_nil, List.nil_append]⟩ ?_ ?_
             ·
              intro _; apply ZdD [1, 2, 5, 6, 7, 8]; first | (simp +decide only [go_sem, Nat.reduceAdd, hb5, hb10, hb36, hap43, hx44d, hap48, ZaF, Zan, Zam]; done) | (simp +decide only [go_sem, Nat.reduceAdd, hb5, hb10, hb36, hap43, hx44d, hap48, ZaF, Zan, Zam]; rfl)
             ·
              intro i hi; cases hi
   simp +decide only [go_sem, Nat.reduceAdd, hb5, hb10, hb36, hap43, hx44d, hap48, ZaF, Zan, Zam]
   (repeat' apply And.intro) <;> first | refine hK38 _ _ ?_ | exact cl
   clear hK38
   obtain ⟨y49, hy49, h⟩ := bind_some h
   obtain ⟨hg50, h⟩ := Zac h
   have hO := hO.swap (List.Perm.swap _ _ _)
   obtain ⟨o51, rows52, hO, hap53⟩ := hO.append (P := Tryz.prog) Zw9 (by rw [Zsn]; rfl) (by decide) y49.length hg50.1 hg50.2
   replace hap53 := fun (ys : List AV) B L o2 => hap53 (x5_l33.map (avL ZcD)) ys B L o2 (by first | rfl | simp only [List.length_map, List.length_nil, List.length_append, List.length_cons, Nat.zero_add])
   replace hap53 := fun B L o2 => hap53 (y49.map (avL ZcD)) B L o2 (by first | rfl | simp only [List.length_map, List.length_nil, List.length_cons]) ev
   try simp only [List.mem_singleton, List.mem_cons, List.not_mem_nil, or_false, forall_eq_or_imp, forall_eq, List.map_append, List.map_cons, List.map_nil, Zcn, ZcQ, Zcy, Zcs, Zcw, Zcm, ZbF, ZbK, ZcC, Za8, Za9, ZbE, ZbC, ZbH] at hap53
   have hs := And.intro hap43 hs
   have hs := And.intro hx44d hs
   have hs := And.intro hap48 hs
   have hs := And.intro hap53 hs
   refine rk 2 [1, 2, 5, 6, 7] hs ?_
   refine Zaf _ (ih _ _ _ x44.2.2.2.1 (a1 ++ ([Part.mk x6_k25 0 x44.2.1])) _ hy49) (hv hs) ?_
   refine ne hs hK37 ?_
   clear hK37
   obtain ⟨hg54, h⟩ := Zac h
   refine rl [1, 2, 5, 6, 7] hs (fun e s => Vl33 ml33 e s (Nat.lt_succ_self _)) ?_
   exact ⟨(x5_l33 ++ y49), (x7_l33 + 1), o51, ([]), rows52, ef hs, ef hs, Owns.of_eq ((hO).sub (List.sublist_append_left [(1, x5_l33.length + y49.length, o51)] [(3, a1.length + 1, o46)])) (by first | rfl | simp only [List.length_append, List.length_cons, List.length_nil, List.length_map, Nat.zero_add, Nat.add_zero]), h⟩
  ·
   clear h; rintro e st ⟨x5_k30, ox5_k30, Xk30, Rk30, rfl, rfl, hO, h⟩
   rw [Zey] at h
   have hU := hO.unders
   simp only [List.mem_cons, List.not_mem_nil, or_false, forall_eq_or_imp, forall_eq] at hU
   refine td hN hNR hNL hcalm hO ?_
   refine rg [4] hs ?_
   exact rt h hs hcalm hO
theorem ZiI (w0 : World) : ∀ n : Nat, Zhw w0 (Zcd n)
 | 0 => fun _ _ _ _ _ _ h => (nomatch h)
 | n + 1 => Zkm w0 (Zcd n) (ZiI w0 n) n
def ZbV (rec : Ty → (List Part) → (List (List Part)) → Option ((List (List Part)))) (n : Nat) (again_l14 : Int → (List (List Part)) → Option ((List (List Part)))) (a1 : List Part) (x21_l14 : Int) (x20 : Ty) (b2_k23_0 : Int) (b2_k23_2 : ByteArray) (pla2_k23 : List (List Part)) : Option ((List (List Part))) :=
 if a1.length * 32 ≤ 140737488355328 then
  if (a1.length + 1) * 32 ≤ 140737488355328 ∧ a1.length + 1 ≤ 4611686018427387904 then
   (rec x20 (a1 ++ ([Part.mk b2_k23_0 0 b2_k23_2])) pla2_k23).bind fun y38 =>
   if I64 (x21_l14 + 1) then
    again_l14 (x21_l14 + 1) y38
   else none
  else none
 else none
def Za0 (rec : Ty → (List Part) → (List (List Part)) → Option ((List (List Part)))) (n : Nat) (a0 : Ty) (a1 : List Part) (y13 : (List Ty)) : Nat → Int → (List (List Part)) → Option ((List (List Part)))
 | 0, _, _ => none
 | m + 1, x21_l14, pla2_l14 =>
  if decide (x21_l14 < ((y13.length : Int))) then
   (idx y13 x21_l14).bind fun x20 =>
   if decide (a0.kind = 9) then
    (idx a0.fields x21_l14).bind fun x28 =>
    ZbV rec n (Za0 rec n a0 a1 y13 m) a1 x21_l14 x20 1 x28.2.1 pla2_l14
   else
    if decide (a0.kind = 10) then
     (idx a0.fields x21_l14).bind fun x31 =>
     ZbV rec n (Za0 rec n a0 a1 y13 m) a1 x21_l14 x20 4 x31.2.1 pla2_l14
    else
     ZbV rec n (Za0 rec n a0 a1 y13 m) a1 x21_l14 x20 3 ((⟨#[]⟩ : ByteArray)) pla2_l14
  else
   some (pla2_l14)
def Ze5 (rec : Ty → (List Part) → (List (List Part)) → Option ((List (List Part)))) (n : Nat) (a0 : Ty) (a1 : List Part) (a2 : List (List Part)) : Option ((List (List Part))) :=
 (ZeU n a0).bind fun y4 =>
 if decide (((y4.length : Int)) = 0) then
  if a1.length * 32 ≤ 140737488355328 then
   if (a2.length + 1) * 24 ≤ 140737488355328 ∧ a2.length + 1 ≤ 4611686018427387904 then
    some (a2 ++ ([a1]))
   else none
  else none
 else
  (ZeU n a0).bind fun y13 =>
  Za0 rec n a0 a1 y13 n 0 a2
def ZcI : Nat → Ty → (List Part) → (List (List Part)) → Option ((List (List Part)))
 | 0, _, _, _ => none
 | n + 1, a0, a1, a2 => Ze5 (ZcI n) n a0 a1 a2
def ZgH (w0 : World) (F : Ty → (List Part) → (List (List Part)) → Option ((List (List Part)))) : Prop := ∀ (B : List (List AV)) (Rw : List RowA) (L : List LoopA) (a0 : Ty) (a1 : List Part) (la2 : Nat) (a2 : List (List Part)) (oa2 : Ev.Own) (hla2 : B[la2]? = some [.list (a2.map (avL ZcD)) oa2]) (hGa2 : Owns Rw Rw [(1, a2.length, oa2)] oa2) (la3 : Nat) (hla3 : B[la3]? = some [.clo 50 [.box la2 0, .box la3 0]]) (r : (List (List Part))), F a0 a1 a2 = some r → ACalls Tryz.prog w0 50 [.agg (a0.cs), .list (a1.map ZcD) .none, .box la2 0, .box la3 0] ⟨B, Rw, L⟩ fun x st => x = .tup [] ∧ ∃ (R1 : List RowA) (o1 : Ev.Own), st = ⟨(B.set la2 [.list (r.map (avL ZcD)) o1]), R1, L⟩ ∧ Owns Rw R1 [(1, r.length, o1)] oa2
theorem ZjK (w0 : World) (rec : Ty → (List Part) → (List (List Part)) → Option ((List (List Part)))) (ih : ZgH w0 rec) (n : Nat) : ZgH w0 (Ze5 rec n) := by
 intro B Rw L a0 a1 la2 a2 oa2 hla2 hGa2 la3 hla3 r h
 rw [Ze5] at h
 refine ACalls.finG (Zcv (rs := []) Tryz.func50 rfl rfl Tryz.ntmps50 (ZaH Tryz.func50 rfl (by decide)) (Nat.le_of_ble_eq_true rfl) ?_)
 intro M0 W0 hN hNR hNL hcalm hu
 dsimp only at hN hNR hNL hcalm hu
 simp only [Zav]
 have hO := hGa2
 have hs := ZzQ
 have hltla2 := (List.getElem?_eq_some_iff.1 hla2).1
 have hltla3 := (List.getElem?_eq_some_iff.1 hla3).1
 have hnela2la3 : la2 ≠ la3 := fun q => by have k := hla2; rw [q, hla3] at k; cases k
 have hs := And.intro (Zag hla2) hs
 have hs := And.intro (Zag hla3) hs
 have hs := And.intro (Zbv hla3 hnela2la3) hs
 refine rg [1, 2, 3, 4] hs ?_
 apply Zab; intro K2 hK2
 obtain ⟨y4, hy4, h⟩ := bind_some h
 refine rc 2 [1, 2, 3, 4, 12] hs ?_; intro K3 hK3
 refine Zaf _ (Zif w0 n _ _ _ a0 _ hy4) (hv hs) ?_
 refine ne hs hK3 ?_
 clear hK3
 refine cnd h hs (fun hs h => ?_) (fun hs h => ?_)
 ·
  have hb5 := hs.1
  apply Zab; intro K6 hK6
  obtain ⟨hg7, h⟩ := Zac h
  obtain ⟨hg8, h⟩ := Zac h
  obtain ⟨o9, rows10, hO, hap11⟩ := hO.append (P := Tryz.prog) Zxy (by rw [ZrT]; rfl) (by decide) 1 hg8.1 hg8.2
  replace hap11 := fun (ys : List AV) B L o2 => hap11 (a2.map (avL ZcD)) ys B L o2 (by first | rfl | simp only [List.length_map, List.length_nil, List.length_append, List.length_cons, Nat.zero_add])
  replace hap11 := fun (y : AV) B L o2 => hap11 [y] B L o2 (by first | rfl | simp only [List.length_map, List.length_nil, List.length_cons]) ev
  try simp only [List.mem_singleton, List.mem_cons, List.not_mem_nil, or_false, forall_eq_or_imp, forall_eq, List.map_append, List.map_cons, List.map_nil, Zcn, ZcQ, Zcy, Zcs, Zcw, Zcm, ZbF, ZbK, ZcC, Za8, Za9, ZbE, ZbC, ZbH] at hap11
  apply Zat mix 4 2 1 [] (by kernel_rfl)
  rw [Zaa]; simp +decide only [go_sem, Nat.reduceAdd, Zag hla2, Zag hla3, Zbv hla3 hnela2la3, hb5, hap11]
  have hs := And.intro hap11 hs
  (repeat' apply And.intro) <;> first | refine Zaf _ (Zi2 w0 _ _ _ a1 hg7) (hv hs) ?_ | exact cl
  rw [Zaa]; simp +decide only [go_sem, Nat.reduceAdd, Zag hla2, Zag hla3, Zbv hla3 hnela2la3, hb5, hap11]
  (repeat' with_reducible apply And.intro) <;> first | (rw [Zaa]; simp +decide only [go_sem, Nat.reduceAdd, Zag hla2, Zag hla3, Zbv hla3 hnela2la3, hb5, hap11]) | exact cl
  (repeat' apply And.intro) <;> first | refine hK6 _ _ ?_ | exact cl
  clear hK6
  apply Zah; simp +decide only [go_sem, Nat.reduceAdd, Zag hla2, Zag hla3, Zbv hla3 hnela2la3, hb5, hap11]
  have hgt := Option.some.inj h; subst hgt
  have hU := hO.unders
  simp only [List.mem_cons, List.not_mem_nil, or_false, forall_eq_or_imp, forall_eq] at hU
  refine ZtZ hO (Zaj (Zlp hcalm hO.len) (by (simp +decide only [go_sem, Nat.reduceAdd]) <;> (try (repeat' apply And.intro)) <;> first | omega | assumption)) (by simp only [List.length_set]) ev ⟨?_, _, _, ?_, (hO.sub (List.sublist_append_left [_] _)).len1 (by first | rfl | simp only [List.length_append, List.length_cons, List.length_nil, Nat.zero_add])⟩
  all_goals first | rfl | (simp +decide only [go_sem, Nat.reduceAdd, Zag hla2, Zag hla3, Zbv hla3 hnela2la3, hb5, hap11]; done) | (simp +decide only [go_sem, Nat.reduceAdd, Vl.cs, Ty.cs, Zag hla2, Zag hla3, Zbv hla3 hnela2la3, hb5, hap11]; done)
 have hb5 := hs.1
 refine sk [1, 3, 4] hs hK2 ?_
 clear hK2
 obtain ⟨y13, hy13, h⟩ := bind_some h
 refine rc 2 [1, 3, 4, 19, 20, 21] hs ?_; intro K12 hK12
 refine Zaf _ (Zif w0 n _ _ _ a0 _ hy13) (hv hs) ?_
 refine ne hs hK12 ?_
 clear hK12
 apply Zad
 refine Zal (fun m e st => ∃ (x21_l14 : Int) (pla2_l14 : List (List Part)) (opla2_l14 : Ev.Own) (Xl14 : List (List AV)) (Rl14 : List RowA), e = [(1, true, .list (a1.map ZcD) .none), (3, true, .box la3 0), (4, true, .box B.length 0), (19, true, .list (y13.map avT) .none), (20, true, .val (.int .i64 ((y13.length : Int)))), (21, true, .val (.int .i64 x21_l14))] ∧ st = ⟨(B.set la2 ([.list (pla2_l14.map (avL ZcD)) opla2_l14])) ++ ([a0.cs] ++ Xl14), Rl14, L⟩ ∧ Owns Rw Rl14 [(1, pla2_l14.length, opla2_l14)] oa2 ∧ Za0 rec n a0 a1 y13 m x21_l14 pla2_l14 = some r) n ⟨0, a2, oa2, ([]), Rw, ef hs, ef hs, Owns.of_eq (hO) (by first | rfl | simp only [List.length_append, List.length_cons, List.length_nil, List.length_map, Nat.zero_add, Nat.add_zero]), h⟩ ?_
 rintro ml14 e st ⟨x21_l14, pla2_l14, opla2_l14, Xl14, Rl14, rfl, rfl, hO, h⟩ Ul14 Vl14
 cases ml14 with
 | zero => cases h
 | succ ml14 =>
 rw [Za0] at h
 have hU := hO.unders
 simp only [List.mem_cons, List.not_mem_nil, or_false, forall_eq_or_imp, forall_eq] at hU
 refine Zm3 hN hNR hNL (by simp only [List.length_set]) (Zaj (Zlp hcalm hO.len) (by (simp +decide only [go_sem, Nat.reduceAdd]) <;> (try (repeat' apply And.intro)) <;> first | omega | assumption)) hO (by (simp +decide only [go_sem, Nat.reduceAdd]) <;> (try (repeat' apply And.intro)) <;> first | omega | assumption) (by (simp +decide only [go_sem, Nat.reduceAdd, Zb2]) <;> (try (repeat' apply And.intro)) <;> first | omega | assumption) ?_
 refine rg [1, 3, 4, 19, 20, 21, 22] hs ?_
 apply Zab; intro K16 hK16
 refine cnd h hs (fun hs h => ?_) (fun hs h => ?_)
 rotate_left
 ·
  have hb17 := hs.1
  refine ZdE (Zc0 [] _) ?_ (Za6 _ _)
  apply Zg0; simp +decide only [go_sem, Nat.reduceAdd]
  (repeat' with_reducible apply And.intro) <;> first | exact cl | skip
  have hgt := Option.some.inj h; subst hgt
  have hU := hO.unders
  simp only [List.mem_cons, List.not_mem_nil, or_false, forall_eq_or_imp, forall_eq] at hU
  refine ZtZ hO (Zaj (Zlp hcalm hO.len) (by (simp +decide only [go_sem, Nat.reduceAdd]) <;> (try (repeat' apply And.intro)) <;> first | omega | assumption)) (by simp only [List.length_set]) ev ⟨?_, _, _, ?_, (hO.sub (List.sublist_append_left [_] _)).len1 (by first | rfl | simp only [List.length_append, List.length_cons, List.length_nil, Nat.zero_add])⟩
  all_goals first | rfl | (simp +decide only [go_sem, Nat.reduceAdd, Zag hla2, Zag hla3, Zbv hla3 hnela2la3, hb5, hb17]; done) | (simp +decide only [go_sem, Nat.reduceAdd, Vl.cs, Ty.cs, Zag hla2, Zag hla3, Zbv hla3 hnela2la3, hb5, hb17]; done)
 have hb17 := hs.1
 refine sk [1, 3, 4, 19, 20, 21] hs hK16 ?_
 clear hK16
 apply Zab; intro K18 hK18
 apply Zad
 obtain ⟨x20, hx20, h⟩ := bind_some h
 obtain ⟨hx20a, hx20b, hx20c⟩ := Zar hx20
 have hx20d := Zay (f := avT) hx20c
 have hs := And.intro hx20d hs
 refine rg [1, 3, 4, 6, 7, 19, 20, 21] hs ?_
 apply Zab; intro K21 hK21
 apply Zae 1 [1, 3, 4, 6, 7, 8, 19, 20, 21]
 rw [Zaa]; simp +decide only [go_sem, Nat.reduceAdd, Zag hla2, Zag hla3, Zbv hla3 hnela2la3, hb5, hb17, hx20d, ZaF, Zan, Zam]
 (repeat' apply And.intro) <;> first | refine hK21 _ _ ?_ | exact cl
 clear hK21
 refine Zai (fun e st => ∃ (b2_k23_0 : Int) (b2_k23_2 : ByteArray) (pla2_k23 : List (List Part)) (opla2_k23 : Ev.Own) (Xk23 : List (List AV)) (Rk23 : List RowA), e = [(1, true, .list (a1.map ZcD) .none), (3, true, .box la3 0), (4, true, .box B.length 0), (7, true, .box (B.length + 1) 0), (8, true, .box (B.length + 2) 0), (19, true, .list (y13.map avT) .none), (20, true, .val (.int .i64 ((y13.length : Int)))), (21, true, .val (.int .i64 x21_l14))] ∧ st = ⟨(B.set la2 ([.list (pla2_k23.map (avL ZcD)) opla2_k23])) ++ ([a0.cs, x20.cs, [.val (.int .i64 b2_k23_0), .val (.int .i64 0), .val (.string b2_k23_2)]] ++ Xk23), Rk23, L⟩ ∧ Owns Rw Rk23 [(1, pla2_k23.length, opla2_k23)] oa2 ∧ ZbV rec n (Za0 rec n a0 a1 y13 ml14) a1 x21_l14 x20 b2_k23_0 b2_k23_2 pla2_k23 = some r) ?_ ?_
 ·
  intro K24 hK24
  refine rg [1, 3, 4, 6, 7, 8, 19, 20, 21, 28] hs ?_
  apply Zad
  refine rg [1, 3, 4, 6, 7, 8, 19, 20, 21, 28, 29] hs ?_
  refine cnd h hs (fun hs h => ?_) (fun hs h => ?_)
  ·
   have hb27 := hs.1
   obtain ⟨x28, hx28a, hx28b, hx28d, h⟩ := ix Zer h
   apply Zae 1 [1, 3, 4, 7, 8, 19, 20, 21]
   rw [Zaa]; simp +decide only [go_sem, Nat.reduceAdd, Zag hla2, Zag hla3, Zbv hla3 hnela2la3, hb5, hb17, hx20d, hb27, hx28d, ZaF, Zan, Zam]
   have hs := And.intro hx28d hs
   (repeat' apply And.intro) <;> first | refine hK24 _ _ ⟨1, x28.2.1, pla2_l14, opla2_l14, ([]), Rl14, ef hs, ef hs, Owns.of_eq (hO) (by first | rfl | simp only [List.length_append, List.length_cons, List.length_nil, List.length_map, Nat.zero_add, Nat.add_zero]), h⟩ | exact cl
  have hb27 := hs.1
  refine rg [1, 3, 4, 6, 7, 8, 19, 20, 21, 38] hs ?_
  refine cnd h hs (fun hs h => ?_) (fun hs h => ?_)
  ·
   have hb30 := hs.1
   obtain ⟨x31, hx31a, hx31b, hx31d, h⟩ := ix Zer h
   apply Zae 1 [1, 3, 4, 7, 8, 19, 20, 21]
   rw [Zaa]; simp +decide only [go_sem, Nat.reduceAdd, Zag hla2, Zag hla3, Zbv hla3 hnela2la3, hb5, hb17, hx20d, hb27, hb30, hx31d, ZaF, Zan, Zam]
   have hs := And.intro hx31d hs
   (repeat' apply And.intro) <;> first | refine hK24 _ _ ⟨4, x31.2.1, pla2_l14, opla2_l14, ([]), Rl14, ef hs, ef hs, Owns.of_eq (hO) (by first | rfl | simp only [List.length_append, List.length_cons, List.length_nil, List.length_map, Nat.zero_add, Nat.add_zero]), h⟩ | exact cl
  have hb30 := hs.1
  refine sk [1, 3, 4, 7, 8, 19, 20, 21] hs hK24 ?_
  exact ⟨3, ((⟨#[]⟩ : ByteArray)), pla2_l14, opla2_l14, ([]), Rl14, ef hs, ef hs, Owns.of_eq (hO) (by first | rfl | simp only [List.length_append, List.length_cons, List.length_nil, List.length_map, Nat.zero_add, Nat.add_zero]), h⟩
 ·
  clear h; rintro e st ⟨b2_k23_0, b2_k23_2, pla2_k23, opla2_k23, Xk23, Rk23, rfl, rfl, hO, h⟩
  rw [ZbV] at h
  have hU := hO.unders
  simp only [List.mem_cons, List.not_mem_nil, or_false, forall_eq_or_imp, forall_eq] at hU
  refine Zm3 hN hNR hNL (by simp only [List.length_set]) (Zaj (Zlp hcalm hO.len) (by (simp +decide only [go_sem, Nat.reduceAdd]) <;> (try (repeat' apply And.intro)) <;> first | omega | assumption)) hO (by (simp +decide only [go_sem, Nat.reduceAdd]) <;> (try (repeat' apply And.intro)) <;> first | omega | assumption) (by (simp +decide only [go_sem, Nat.reduceAdd, Zb2]) <;> (try (repeat' apply And.intro)) <;> first | omega | assumption) ?_
  obtain ⟨hg32, h⟩ := Zac h
  have hO := hO.clone 3 a1.length
  obtain ⟨hg34, h⟩ := Zac h
  obtain ⟨o35, rows36, hO, hap37⟩ := hO.append (P := Tryz.prog) Zw2 (by rw [Zsz]; rfl) (by decide) 1 hg34.1 hg34.2
  replace hap37 := fun (ys : List AV) B L o2 => hap37 (a1.map ZcD) ys B L o2 (by first | rfl | simp only [List.length_map, List.length_nil, List.length_append, List.length_cons, Nat.zero_add])
  replace hap37 := fun (y : AV) B L o2 => hap37 [y] B L o2 (by first | rfl | simp only [List.length_map, List.length_nil, List.length_cons]) ev
  try simp only [List.mem_singleton, List.mem_cons, List.not_mem_nil, or_false, forall_eq_or_imp, forall_eq, List.map_append, List.map_cons, List.map_nil, Zcn, ZcQ, Zcy, Zcs, Zcw, Zcm, ZbF, ZbK, ZcC, Za8, Za9, ZbE, ZbC, ZbH] at hap37
  have hO := hO.swap (List.Perm.swap _ _ _)
  obtain ⟨y38, hy38, h⟩ := bind_some h
  apply Ztt mix [3, 6, 7] [1, 3, 4, 19, 20, 21] (by kernel_rfl) (fun s => ∃ (X : List (List AV)) (rows : List RowA) (cla2 : List AV), s = ⟨(B.set la2 cla2) ++ ([a0.cs, x20.cs, [.val (.int .i64 b2_k23_0), .val (.int .i64 0), .val (.string b2_k23_2)]] ++ X), rows, L⟩) 4 (B.length + 3)
  ·
   simp +decide only [go_sem, Nat.reduceAdd]
  ·
   rintro s ⟨X, rows, cla2, rfl⟩
   refine ⟨1, ?_⟩
   rw [Zaa]; simp +decide only [go_sem, Nat.reduceAdd, Zeu, Zag hla2, Zag hla3, Zbv hla3 hnela2la3, hb5, hb17, hx20d, hap37]
   (repeat' apply And.intro) <;> first | rfl | exact cl
  ·
   refine Good.mk [3] (by kernel_rfl) ⟨[], _, _, by first | rfl | simp only [List.append_nil, List.nil_append]⟩ ?_ ?_
   ·
    intro h; exact absurd h (by decide)
   ·
    intro i hi; simp only [List.mem_cons, List.not_mem_nil, or_false] at hi
    subst hi
    ·
     apply Zbn rfl rfl ev
     ·
      simp +decide only [go_sem, Nat.reduceAdd, Zc1, Zag hla2, Zag hla3, Zbv hla3 hnela2la3, hb5, hb17, hx20d, hap37]
      have hs := And.intro hap37 hs
      (repeat' with_reducible apply And.intro) <;> first | exact Zqu (ZiH w0 _ _ _ a1 hg32) (hv hs) | rfl | exact cl
     ·
      simp +decide only [go_sem, Nat.reduceAdd, Zag hla2, Zag hla3, Zbv hla3 hnela2la3, hb5, hb17, hx20d, hap37]
      refine Good.mk [6] (by kernel_rfl) ⟨[], _, _, by first | rfl | simp only [List.append_nil, List.nil_append]⟩ ?_ ?_
      ·
       intro h; exact absurd h (by decide)
      ·
       intro i hi; simp only [List.mem_cons, List.not_mem_nil, or_false] at hi
       subst hi
       ·
        apply Zbn rfl rfl ev
        ·
         simp +decide only [go_sem, Nat.reduceAdd, Zc1, Zag hla2, Zag hla3, Zbv hla3 hnela2la3, hb5, hb17, hx20d, hap37]
         (repeat' apply And.intro) <;> first | rfl | exact cl
        ·
         simp +decide only [go_sem, Nat.reduceAdd, Zag hla2, Zag hla3, Zbv hla3 hnela2la3, hb5, hb17, hx20d, hap37]
         refine Good.mk [7] (by kernel_rfl) ⟨[], _, _, by first | rfl | simp only [List.append_nil, List.nil_append]⟩ ?_ ?_
         ·
          intro h; exact absurd h (by decide)
         ·
          intro i hi; simp only [List.mem_cons, List.not_mem_nil, or_false] at hi
          subst hi
          ·
           apply Zpt rfl rfl ev rfl
           ·
            simp +decide only [go_sem, Nat.reduceAdd, Zag hla2, Zag hla3, Zbv hla3 hnela2la3, hb5, hb17, hx20d, hap37]
           ·
            simp +decide only [go_sem, Nat.reduceAdd, Zag hla2, Zag hla3, Zbv hla3 hnela2la3, hb5, hb17, hx20d, hap37]
           ·
            simp +decide only [go_sem, Nat.reduceAdd, Zag hla2, Zag hla3, Zbv hla3 hnela2la3, hb5, hb17, hx20d, hap37]
            have hs := And.intro hap37 hs
            exact (ih _ _ _ x20 (a1 ++ ([Part.mk b2_k23_0 0 b2_k23_2])) la2 pla2_k23 opla2_k23 (ef hs) hO.enter la3 (ef hs) _ hy38).pub (hv hs)
           ·
            rintro _ _ ⟨rfl, Rg39, og40, rfl, hGRg39⟩
            have hO := hO.call hGRg39
            simp +decide only [go_sem, Nat.reduceAdd, Zag hla2, Zag hla3, Zbv hla3 hnela2la3, hb5, hb17, hx20d, hap37]
            refine Good.mk [] (by kernel_rfl) ⟨[], _, _, by first | rfl | simp only [List.append_nil, List.nil_append]⟩ ?_ ?_
            ·
             intro _; refine ⟨_, _, ZdD [1, 3, 4, 19, 20, 21] (by first | (simp +decide only [go_sem, Nat.reduceAdd, Zag hla2, Zag hla3, Zbv hla3 hnela2la3, hb5, hb17, hx20d, hap37]; done) | (simp +decide only [go_sem, Nat.reduceAdd, Zag hla2, Zag hla3, Zbv hla3 hnela2la3, hb5, hb17, hx20d, hap37]; rfl)), ?_⟩
             simp +decide only [go_sem, Nat.reduceAdd, Zag hla2, Zag hla3, Zbv hla3 hnela2la3, hb5, hb17, hx20d, hap37]
             (repeat' apply And.intro) <;> first | refine hK18 _ _ ?_ | exact cl
             clear hK18
             obtain ⟨hg41, h⟩ := Zac h
             have hs := And.intro hap37 hs
             refine rl [1, 3, 4, 19, 20, 21] hs (fun e s => Vl14 ml14 e s (Nat.lt_succ_self _)) ?_
             exact ⟨(x21_l14 + 1), y38, og40, ([x20.cs, [.val (.int .i64 b2_k23_0), .val (.int .i64 0), .val (.string b2_k23_2)]]), Rg39, ef hs, ef hs, Owns.of_eq ((hO).sub (List.sublist_append_left [(1, y38.length, og40)] [(3, a1.length + 1, o35)])) (by first | rfl | simp only [List.length_append, List.length_cons, List.length_nil, List.length_map, Nat.zero_add, Nat.add_zero]), h⟩
            ·
             intro i hi; cases hi
theorem ZhK (w0 : World) : ∀ n : Nat, ZgH w0 (ZcI n)
 | 0 => fun _ _ _ _ _ _ _ _ _ _ _ _ _ h => (nomatch h)
 | n + 1 => ZjK w0 (ZcI n) (ZhK w0 n) n
def ZgS (n : Nat) (a0 : Ty) : Option ((List (List Part))) :=
 (ZcM n a0).bind fun y4 =>
 if !(decide (y4 = 0)) then
  some ([])
 else
  (ZcI n a0 ([]) ([])).bind fun y12 =>
  some (y12)
theorem ZnT (w0 : World) (hT : Lib.Utf8Tabs 0 1 w0) (n : Nat) (B : List (List AV)) (Rw : List RowA) (L : List LoopA) (a0 : Ty) (r : (List (List Part))) (h : ZgS n a0 = some r) :
  ACalls Tryz.prog w0 14 [.agg (a0.cs)] ⟨B, Rw, L⟩ fun x st => x = .list (r.map (avL ZcD)) .none ∧ st = ⟨B, Rw, L⟩ := by
 rw [ZgS] at h
 refine hd [.tmp 2] Tryz.func14 Tryz.ntmps14 fun M0 W0 hN hNR hNL hcalm hu hO hs => ?_
 simp only [Zav]
 refine rg [1] hs ?_
 apply Zab; intro K2 hK2
 obtain ⟨y4, hy4, h⟩ := bind_some h
 refine rc 2 [1, 7] hs ?_; intro K3 hK3
 refine Zaf _ (ZcY w0 hT n _ _ _ a0 _ hy4) (hv hs) ?_
 refine ne hs hK3 ?_
 clear hK3
 refine cnd h hs (fun hs h => ?_) (fun hs h => ?_)
 ·
  have hb5 := hs.1
  refine rg [2] hs ?_
  exact rt h hs hcalm hO
 have hb5 := hs.1
 refine sk [1] hs hK2 ?_
 clear hK2
 refine rg [1, 3] hs ?_
 refine rg [1, 3, 4] hs ?_
 refine rg [1, 3, 4] hs ?_
 apply Zab; intro K10 hK10
 have hO := hO.full 1 0
 obtain ⟨y12, hy12, h⟩ := bind_some h
 apply Zae 2 [3]
 rw [Zaa]; simp +decide only [go_sem, Nat.reduceAdd, hb5]
 (repeat' apply And.intro) <;> first | (refine Zca _ (ZhK w0 n _ _ _ a0 ([]) (B.length + 1) ([]) .full (ef hs) hO.enter (B.length + 2) (ef hs) _ hy12) (hv hs) ?_; rintro _ _ ⟨rfl, Rg13, og14, rfl, hGRg13⟩) | exact cl
 have hO := hO.call hGRg13
 rw [Zaa]; simp +decide only [go_sem, Nat.reduceAdd, hb5]
 (repeat' apply And.intro) <;> first | refine hK10 _ _ ?_ | exact cl
 clear hK10
 refine rg [2] hs ?_
 exact rt h hs hcalm hO
def Zbj (n : Nat) (again_l31 : Int → Option Bool) (x5_l31 : Int) : Option Bool :=
 if I64 (x5_l31 + 1) then
  again_l31 (x5_l31 + 1)
 else none
def Zb8 (n : Nat)  : Option Bool :=
 some (true)
def ZbL (n : Nat) (again_l31 : Int → Option Bool) (a0 : Ty) (x5_l31 : Int) (x39 : List Part) : Option Bool :=
 (Zkz n a0 x39).bind fun y62 =>
 if decide (y62.2.2 = 0) then
  (ZeH n y62.1).bind fun y65 =>
  if decide (0 < ((y65.length : Int))) then
   some (false)
  else
   Zbj n again_l31 x5_l31 
 else
  Zbj n again_l31 x5_l31 
def Za5 (n : Nat) (again_l31 : Int → Option Bool) (a0 : Ty) (x5_l31 : Int) (x39 : List Part) (y40 : (List Part)) (x43 : List Part) : Nat → Int → Option Bool
 | 0, _ => none
 | m + 1, x7_l50 =>
  if decide (x7_l50 < ((y40.length : Int))) then
   (idx y40 x7_l50).bind fun x56 =>
   (idx x43 x7_l50).bind fun x57 =>
   if !(decide (x56.kind = x57.kind) && (decide (x56.index = x57.index) && (sEq x56.name x57.name))) then
    some (false)
   else
    if I64 (x7_l50 + 1) then
     (Za5 n again_l31 a0 x5_l31 x39 y40 x43 m) (x7_l50 + 1)
    else none
  else
   ZbL n again_l31 a0 x5_l31 x39 
def ZaC (n : Nat) (a0 : Ty) (y14 : (List (List Part))) (x4_k17 : List (List Part)) : Nat → Int → Option Bool
 | 0, _ => none
 | m + 1, x5_l31 =>
  if decide (x5_l31 < ((y14.length : Int))) then
   (idx y14 x5_l31).bind fun x39 =>
   (ZgO n x39).bind fun y40 =>
   (idx x4_k17 x5_l31).bind fun x43 =>
   if !(decide (((y40.length : Int)) = ((x43.length : Int)))) then
    some (false)
   else
    Za5 n (ZaC n a0 y14 x4_k17 m) a0 x5_l31 x39 y40 x43 n 0
  else
   Zb8 n 
def ZbD (n : Nat) (a0 : Ty) (y14 : (List (List Part))) (x4_k17 : List (List Part)) : Option Bool :=
 if !(decide (((y14.length : Int)) = ((x4_k17.length : Int)))) then
  some (false)
 else
  ZaC n a0 y14 x4_k17 n 0
def ZcU (n : Nat) (a0 : Ty) : Option Bool :=
 (Zd5 n ).bind fun y4 =>
 if !y4 then
  (Zd5 n ).bind fun y8 =>
  some (y8)
 else
  (Zfn n a0).bind fun y9 =>
  if !y9 then
   (Zd5 n ).bind fun y12 =>
   some (y12)
  else
   (ZgS n a0).bind fun y14 =>
   (Zfq n a0).bind fun y20 =>
   if decide (y20 = 0) then
    (Zcd n a0 ([])).bind fun y22 =>
    ZbD n a0 y14 y22
   else
    ZbD n a0 y14 ([])
theorem ZhA (w0 : World) (hP : Pow10 w0) (hT : Lib.Utf8Tabs 0 1 w0) (n : Nat) (B : List (List AV)) (Rw : List RowA) (L : List LoopA) (a0 : Ty) (r : Bool) (h : ZcU n a0 = some r) :
  ACalls Tryz.prog w0 3 [.agg (a0.cs)] ⟨B, Rw, L⟩ fun x st => x = .val (.bool r) ∧ st = ⟨B, Rw, L⟩ := by
 rw [ZcU] at h
 refine hd [.tmp 2] Tryz.func3 Tryz.ntmps3 fun M0 W0 hN hNR hNL hcalm hu hO hs => ?_
 simp only [Zav]
 refine rg [1] hs ?_
 apply Zab; intro K2 hK2
 apply Zab; intro K3 hK3
 obtain ⟨y4, hy4, h⟩ := bind_some h
 rcases Bool.eq_false_or_eq_true (!y4) with hf5 | hf5
 ·
  replace h := Za2 h hf5
  apply Zae 3 [1, 17]
  rw [Zaa]; simp +decide only [go_sem, Nat.reduceAdd, hf5]
  have hs := And.intro hf5 hs
  (repeat' apply And.intro) <;> first | refine Zaf _ (Zf4 w0 hP hT n _ _ _  _ hy4) (hv hs) ?_ | exact cl
  rw [Zaa]; simp +decide only [go_sem, Nat.reduceAdd, hf5]
  (repeat' apply And.intro) <;> first | refine ZaL ?_ | exact cl
  rw [Zaa]; simp +decide only [go_sem, Nat.reduceAdd, hf5]
  (repeat' apply And.intro) <;> first | refine hK3 _ _ ?_ | exact cl
  clear hK3
  refine Zaz true ev (ef hs) (fun hb6 => ?_) (fun hb6 => by cases hb6)
  obtain ⟨y8, hy8, h⟩ := bind_some h
  refine rc 2 [2] hs ?_; intro K7 hK7
  refine Zaf _ (Zf4 w0 hP hT n _ _ _  _ hy8) (hv hs) ?_
  refine ne hs hK7 ?_
  clear hK7
  exact rt h hs hcalm hO
 ·
  replace h := ZaZ h hf5
  obtain ⟨y9, hy9, h⟩ := bind_some h
  have hs := And.intro hf5 hs
  refine rk 3 [1, 17] hs ?_
  refine Zaf _ (Zf4 w0 hP hT n _ _ _  _ hy4) (hv hs) ?_
  refine nc hs ?_
  refine Zaf _ (ZnR w0 n _ _ _ a0 _ hy9) (hv hs) ?_
  refine ne hs hK3 ?_
  clear hK3
  refine cnd h hs (fun hs h => ?_) (fun hs h => ?_)
  ·
   have hb10 := hs.1
   obtain ⟨y12, hy12, h⟩ := bind_some h
   refine rc 2 [2] hs ?_; intro K11 hK11
   refine Zaf _ (Zf4 w0 hP hT n _ _ _  _ hy12) (hv hs) ?_
   refine ne hs hK11 ?_
   clear hK11
   exact rt h hs hcalm hO
  have hb10 := hs.1
  refine sk [1] hs hK2 ?_
  clear hK2
  obtain ⟨y14, hy14, h⟩ := bind_some h
  refine rc 2 [1, 3] hs ?_; intro K13 hK13
  refine Zaf _ (ZnT w0 hT n _ _ _ a0 _ hy14) (hv hs) ?_
  refine ne hs hK13 ?_
  clear hK13
  refine rg [1, 3, 4] hs ?_
  refine Zai (fun e st => ∃ (x4_k17 : List (List Part)) (ax4_k17 : AV), Ck e st B Rw L [(1, true, .box B.length 0), (3, true, .list (y14.map (avL ZcD)) .none), (4, true, ax4_k17)] [a0.cs] [] (ax4_k17.pub = .list (x4_k17.map (avL ZcD)) .none ∧ ZbD n a0 y14 x4_k17 = some r)) ?_ ?_
  ·
   intro K18 hK18
   obtain ⟨y20, hy20, h⟩ := bind_some h
   refine rc 2 [1, 3, 4, 23] hs ?_; intro K19 hK19
   refine Zaf _ (Zn6 w0 hT n _ _ _ a0 _ hy20) (hv hs) ?_
   refine ne hs hK19 ?_
   clear hK19
   refine cnd h hs (fun hs h => ?_) (fun hs h => ?_)
   ·
    obtain ⟨y22, hy22, h⟩ := bind_some h
    refine rk 2 [1, 3, 4] hs ?_
    refine Zaf _ (ZiI w0 n _ _ _ a0 ([]) _ hy22) (hv hs) ?_
    refine ne hs hK18 ?_
    exact ⟨y22, _, ([]), Rw, ef hs, ef hs, hO, ef hs, h⟩
   refine sk [1, 3, 4] hs hK18 ?_
   exact ⟨([]), _, ([]), Rw, ef hs, ef hs, hO, ef hs, h⟩
  ·
   clear h; rintro e st ⟨x4_k17, ax4_k17, Xk17, Rk17, rfl, rfl, hO, hr0, h⟩
   rw [ZbD] at h
   refine ZuQ 4 rfl ?_
   rw [hr0]
   refine ZdE (Zc0 [1, 3, 4] _) ?_ (Za6 _ _); simp +decide only [go_sem, Nat.reduceAdd]
   show awp _ _ _ _ _ _ _ _ [(1, true, .box B.length 0), (3, true, .list (y14.map (avL ZcD)) .none), (4, true, .list (x4_k17.map (avL ZcD)) .none)] ⟨B ++ ([a0.cs] ++ Xk17), Rk17, L⟩
   refine td hN hNR hNL hcalm hO ?_
   apply Zab; intro K23 hK23
   refine rg [1, 3, 4, 30] hs ?_
   refine cnd h hs (fun hs h => ?_) (fun hs h => ?_)
   ·
    have hb25 := hs.1
    refine rg [2] hs ?_
    exact rt h hs hcalm hO
   have hb25 := hs.1
   refine sk [1, 3, 4] hs hK23 ?_
   clear hK23
   refine Zai (fun e st => Ck e st B Rw L [] [a0.cs] [] (Zb8 n  = some r)) ?_ ?_
   ·
    intro K29 hK29
    refine rg [1, 3, 4, 5] hs ?_
    apply Zad
    refine Zal (fun m e st => ∃ (x5_l31 : Int), Ck e st B Rw L [(1, true, .box B.length 0), (3, true, .list (y14.map (avL ZcD)) .none), (4, true, .list (x4_k17.map (avL ZcD)) .none), (5, true, .val (.int .i64 x5_l31))] [a0.cs] [] (ZaC n a0 y14 x4_k17 m x5_l31 = some r)) n ⟨0, ([]), Rk17, ef hs, ef hs, hO, h⟩ ?_
    rintro ml31 e st ⟨x5_l31, Xl31, Rl31, rfl, rfl, hO, h⟩ Ul31 Vl31
    cases ml31 with
    | zero => cases h
    | succ ml31 =>
    rw [ZaC] at h
    refine td hN hNR hNL hcalm hO ?_
    apply Zab; intro K32 hK32
    refine rg [1, 3, 4, 5, 34] hs ?_
    refine cnd h hs (fun hs h => ?_) (fun hs h => ?_)
    rotate_left
    ·
     have hb34 := hs.1
     refine sx [] hs hK29 ?_
     exact ⟨([]), Rl31, ef hs, ef hs, hO, h⟩
    have hb34 := hs.1
    refine sk [1, 3, 4, 5] hs hK32 ?_
    clear hK32
    refine Zai (fun e st => Ck e st B Rw L [(1, true, .box B.length 0), (3, true, .list (y14.map (avL ZcD)) .none), (4, true, .list (x4_k17.map (avL ZcD)) .none), (5, true, .val (.int .i64 x5_l31))] [a0.cs] [] (Zbj n (ZaC n a0 y14 x4_k17 ml31) x5_l31  = some r)) ?_ ?_
    ·
     intro K37 hK37
     apply Zad
     obtain ⟨x39, hx39, h⟩ := bind_some h
     obtain ⟨hx39a, hx39b, hx39c⟩ := Zar hx39
     have hx39d := Zay (f := (avL ZcD)) hx39c
     obtain ⟨y40, hy40, h⟩ := bind_some h
     have hs := And.intro hx39d hs
     refine rc 2 [1, 3, 4, 5, 6] hs ?_; intro K38 hK38
     refine Zaf _ (ZnC w0 n _ _ _ x39 _ hy40) (hv hs) ?_
     refine ne hs hK38 ?_
     clear hK38
     apply Zab; intro K41 hK41
     obtain ⟨x43, hx43, h⟩ := bind_some h
     obtain ⟨hx43a, hx43b, hx43c⟩ := Zar hx43
     have hx43d := Zay (f := (avL ZcD)) hx43c
     have hs := And.intro hx43d hs
     refine rg [1, 3, 4, 5, 6, 49] hs ?_
     refine cnd h hs (fun hs h => ?_) (fun hs h => ?_)
     ·
      have hb44 := hs.1
      refine rg [2] hs ?_
      exact rt h hs hcalm hO
     have hb44 := hs.1
     refine sk [1, 3, 4, 5, 6] hs hK41 ?_
     clear hK41
     refine Zai (fun e st => Ck e st B Rw L [(1, true, .box B.length 0), (3, true, .list (y14.map (avL ZcD)) .none), (4, true, .list (x4_k17.map (avL ZcD)) .none), (5, true, .val (.int .i64 x5_l31))] [a0.cs] [] (ZbL n (ZaC n a0 y14 x4_k17 ml31) a0 x5_l31 x39  = some r)) ?_ ?_
     ·
      intro K48 hK48
      refine rg [1, 3, 4, 5, 6, 7] hs ?_
      apply Zad
      refine Zal (fun m e st => ∃ (x7_l50 : Int), Ck e st B Rw L [(1, true, .box B.length 0), (3, true, .list (y14.map (avL ZcD)) .none), (4, true, .list (x4_k17.map (avL ZcD)) .none), (5, true, .val (.int .i64 x5_l31)), (6, true, .list (y40.map ZcD) .none), (7, true, .val (.int .i64 x7_l50))] [a0.cs] [] (Za5 n (ZaC n a0 y14 x4_k17 ml31) a0 x5_l31 x39 y40 x43 m x7_l50 = some r)) n ⟨0, ([]), Rl31, ef hs, ef hs, hO, h⟩ ?_
      rintro ml50 e st ⟨x7_l50, Xl50, Rl50, rfl, rfl, hO, h⟩ Ul50 Vl50
      cases ml50 with
      | zero => cases h
      | succ ml50 =>
      rw [Za5] at h
      refine td hN hNR hNL hcalm hO ?_
      apply Zab; intro K51 hK51
      refine rg [1, 3, 4, 5, 6, 7, 53] hs ?_
      refine cnd h hs (fun hs h => ?_) (fun hs h => ?_)
      rotate_left
      ·
       refine sx [1, 3, 4, 5] hs hK48 ?_
       exact ⟨([]), Rl50, ef hs, ef hs, hO, h⟩
      refine sk [1, 3, 4, 5, 6, 7] hs hK51 ?_
      clear hK51
      apply Zab; intro K54 hK54
      apply Zad
      obtain ⟨x56, hx56, h⟩ := bind_some h
      obtain ⟨hx56a, hx56b, hx56c⟩ := Zar hx56
      have hx56d := Zay (f := ZcD) hx56c
      obtain ⟨x57, hx57, h⟩ := bind_some h
      obtain ⟨hx57a, hx57b, hx57c⟩ := Zar hx57
      have hx57d := Zay (f := ZcD) hx57c
      have hs := And.intro hx56d hs
      have hs := And.intro hx57d hs
      refine dg 12 1 1 [1, 3, 4, 5, 6, 7, 67] hs mix ?_
      refine cnd h hs (fun hs h => ?_) (fun hs h => ?_)
      ·
       refine rg [2] hs ?_
       exact rt h hs hcalm hO
      refine sk [1, 3, 4, 5, 6, 7] hs hK54 ?_
      clear hK54
      obtain ⟨hg60, h⟩ := Zac h
      refine rl [1, 3, 4, 5, 6, 7] hs (fun e s => Vl50 ml50 e s (Nat.lt_succ_self _)) ?_
      exact ⟨(x7_l50 + 1), ([]), Rl50, ef hs, ef hs, hO, h⟩
     ·
      clear h; rintro e st ⟨Xk47, Rk47, rfl, rfl, hO, h⟩
      rw [ZbL] at h
      refine td hN hNR hNL hcalm hO ?_
      apply Zab; intro K61 hK61
      obtain ⟨y62, hy62, h⟩ := bind_some h
      apply ZgK mix [10, 11] [1, 3, 4, 5, 8, 10] (by kernel_rfl) (fun s => ∃ (X : List (List AV)) (rows : List RowA), s = ⟨B ++ ([a0.cs] ++ X), rows, L⟩) 3 (B.length + 1)
      ·
       simp +decide only [go_sem, Nat.reduceAdd]
      ·
       rintro s ⟨X, rows, rfl⟩
       refine ⟨2, ?_⟩
       rw [Zaa]; simp +decide only [go_sem, Nat.reduceAdd, Zeu, hf5, hb10, hb25, hb34, hx39d, hx43d, hb44]
       (repeat' apply And.intro) <;> first | refine Zaf _ (Zrk w0 hP hT n _ _ _ a0 x39 _ hy62) (hv hs) ?_ | exact cl
       rw [Zaa]; simp +decide only [go_sem, Nat.reduceAdd, hf5, hb10, hb25, hb34, hx39d, hx43d, hb44]
       (repeat' apply And.intro) <;> first | rfl | exact cl
      ·
       refine Good.mk [10] (by kernel_rfl) ⟨[], _, by first | rfl | simp only [List.append_nil, List.nil_append]⟩ ?_ ?_
       ·
        intro h; exact absurd h (by decide)
       ·
        intro i hi; simp only [List.mem_cons, List.not_mem_nil, or_false] at hi
        subst hi
        ·
         apply Zbn rfl rfl ev
         ·
          simp +decide only [go_sem, Nat.reduceAdd, Zc1, hf5, hb10, hb25, hb34, hx39d, hx43d, hb44]
          (repeat' apply And.intro) <;> first | rfl | exact cl
         ·
          simp +decide only [go_sem, Nat.reduceAdd, hf5, hb10, hb25, hb34, hx39d, hx43d, hb44]
          refine Good.mk [11] (by kernel_rfl) ⟨_, _, by first | rfl | simp only [List.append_nil, List.nil_append]⟩ ?_ ?_
          ·
           intro h; exact absurd h (by decide)
          ·
           intro i hi; simp only [List.mem_cons, List.not_mem_nil, or_false] at hi
           subst hi
           ·
            apply Zbn rfl rfl ev
            ·
             simp +decide only [go_sem, Nat.reduceAdd, Zc1, hf5, hb10, hb25, hb34, hx39d, hx43d, hb44]
             (repeat' apply And.intro) <;> first | rfl | exact cl
            ·
             simp +decide only [go_sem, Nat.reduceAdd, hf5, hb10, hb25, hb34, hx39d, hx43d, hb44]
             refine Good.mk [] (by kernel_rfl) ⟨_, _, by first | rfl | simp only [List.append_nil, List.nil_append]⟩ ?_ ?_
             ·
              intro _; apply ZdD [1, 3, 4, 5, 8, 10]; first | (simp +decide only [go_sem, Nat.reduceAdd, hf5, hb10, hb25, hb34, hx39d, hx43d, hb44]; done) | (simp +decide only [go_sem, Nat.reduceAdd, hf5, hb10, hb25, hb34, hx39d, hx43d, hb44]; rfl)
             ·
              intro i hi; cases hi
      simp +decide only [go_sem, Nat.reduceAdd, hf5, hb10, hb25, hb34, hx39d, hx43d, hb44]
      (repeat' apply And.intro) <;> first | refine hK61 _ _ ?_ | exact cl
      clear hK61
      apply Zab; intro K63 hK63
      rcases Bool.eq_false_or_eq_true (decide (y62.2.2 = 0)) with hf64 | hf64
      ·
       replace h := Za2 h hf64
       obtain ⟨y65, hy65, h⟩ := bind_some h
       have hs := And.intro hf64 hs
       refine rk 2 [1, 3, 4, 5, 85] hs ?_
       refine Zaf _ (Zj1 w0 n _ _ _ y62.1 _ hy65) (hv hs) ?_
       refine ne hs hK63 ?_
       clear hK63
       refine cnd h hs (fun hs h => ?_) (fun hs h => ?_)
       ·
        refine rg [2] hs ?_
        exact rt h hs hcalm hO
       refine sk [1, 3, 4, 5] hs hK37 ?_
       exact ⟨([y62.1.cs]), Rk47, ef hs, ef hs, hO, h⟩
      ·
       replace h := ZaZ h hf64
       apply Zae 2 [1, 3, 4, 5, 85]
       rw [Zaa]; simp +decide only [go_sem, Nat.reduceAdd, hf5, hb10, hb25, hb34, hx39d, hx43d, hb44, hf64]
       (repeat' apply And.intro) <;> first | refine ZaL ?_ | exact cl
       rw [Zaa]; simp +decide only [go_sem, Nat.reduceAdd, hf5, hb10, hb25, hb34, hx39d, hx43d, hb44, hf64]
       (repeat' apply And.intro) <;> first | refine hK63 _ _ ?_ | exact cl
       clear hK63
       have hs := And.intro hf64 hs
       refine Zaz false ev (ef hs) (fun hb68 => by cases hb68) (fun hb68 => ?_)
       refine sk [1, 3, 4, 5] hs hK37 ?_
       exact ⟨([y62.1.cs]), Rk47, ef hs, ef hs, hO, h⟩
    ·
     clear h; rintro e st ⟨Xk36, Rk36, rfl, rfl, hO, h⟩
     rw [Zbj] at h
     refine td hN hNR hNL hcalm hO ?_
     obtain ⟨hg69, h⟩ := Zac h
     refine rl [1, 3, 4, 5] hs (fun e s => Vl31 ml31 e s (Nat.lt_succ_self _)) ?_
     exact ⟨(x5_l31 + 1), ([]), Rk36, ef hs, ef hs, hO, h⟩
   ·
    clear h; rintro e st ⟨Xk28, Rk28, rfl, rfl, hO, h⟩
    rw [Zb8] at h
    refine td hN hNR hNL hcalm hO ?_
    refine rg [2] hs ?_
    exact rt h hs hcalm hO
theorem Zar {α : Type} {l : List α} {k : Nat} {x : α} (h : l[k]? = some x) : idx l (k : Int) = some x := by
 obtain ⟨h1, rfl⟩ := List.getElem?_eq_some_iff.1 h
 exact Zap h1
theorem ZqM {α : Type} (t : Ty) (i : Nat) {q : Ty × Part} (hq : (ZaS t)[i]? = some q) (K : Ty → Int → ByteArray → Option α) :
  ((idx (ZeR t) (i : Int)).bind fun x => if decide (t.kind = 9) = true then (idx t.fields (i : Int)).bind fun f => K x 1 f.2.1 else if decide (t.kind = 10) = true then (idx t.fields (i : Int)).bind fun f => K x 4 f.2.1 else K x 3 ⟨#[]⟩) = K q.1 q.2.kind q.2.name ∧ q.2 = Part.mk q.2.kind 0 q.2.name := by
 have hT : idx (ZeR t) (i : Int) = some q.1 := Zar (by rw [← ZiA, List.getElem?_map, hq]; rfl)
 rw [hT, Option.bind_some]
 unfold ZaS at hq
 by_cases h8 : t.kind = 8
 ·
  rw [if_pos h8, List.getElem?_map] at hq
  obtain ⟨e, _, rfl⟩ := Option.map_eq_some_iff.1 hq
  rw [decide_eq_false (by omega), decide_eq_false (by omega)]
  exact ⟨rfl, rfl⟩
 rw [if_neg h8] at hq
 by_cases h9 : t.kind = 9
 ·
  rw [if_pos h9, List.getElem?_map] at hq
  obtain ⟨e, he, rfl⟩ := Option.map_eq_some_iff.1 hq
  rw [decide_eq_true h9, if_pos rfl, Zar he, Option.bind_some]
  exact ⟨rfl, rfl⟩
 rw [if_neg h9] at hq
 by_cases h10 : t.kind = 10
 ·
  rw [if_pos h10, List.getElem?_map] at hq
  obtain ⟨e, he, rfl⟩ := Option.map_eq_some_iff.1 hq
  rw [decide_eq_false h9, if_neg (by decide), decide_eq_true h10, if_pos rfl, Zar he, Option.bind_some]
  exact ⟨rfl, rfl⟩
 rw [if_neg h10] at hq
 simp at hq
theorem ZqJ (rec : Ty → List Part → List (List Part) → Option (List (List Part))) (n : Nat) (t : Ty) (b : List Part) (hb : b.length ≤ 100) (f : Ty × Part → List (List Part)) (hl : ∀ q ∈ ZaS t, (f q).length ≤ q.1.size)
  (hr : ∀ q ∈ ZaS t, ∀ out : List (List Part), out.length + q.1.size ≤ 100000 → rec q.1 (b ++ [q.2]) out = some (out ++ f q)) : ∀ (k m i : Nat) (out : List (List Part)), i + k = (ZaS t).length → k < m → (ZaS t).length ≤ 1000 → out.length + (((ZaS t).drop i).map fun q => q.1.size).sum ≤ 100000 →
  Za0 rec n t b (ZeR t) m i out = some (out ++ ((ZaS t).drop i).flatMap f)
 | k, 0, i, _, _, h, _, _ => absurd h (Nat.not_lt_zero _)
 | 0, m + 1, i, out, hi, _, _, _ => by
  rw [Za0, Zao, decide_eq_false (by rw [← Zfw]; omega), if_neg (by decide), List.drop_of_length_le (by omega), List.flatMap_nil, List.append_nil]
 | k + 1, m + 1, i, out, hi, hm, hi2, ho => by
  have hlt : i < (ZaS t).length := by omega
  have hq := List.getElem?_eq_getElem hlt
  obtain ⟨q, hqe⟩ : ∃ q, (ZaS t)[i] = q := ⟨_, rfl⟩
  have hmem : q ∈ ZaS t := hqe ▸ List.getElem_mem hlt
  rw [List.drop_eq_getElem_cons hlt, hqe] at ho ⊢
  rw [List.map_cons, List.sum_cons] at ho
  rw [hqe] at hq
  have h1 := hr q hmem out (by omega)
  have h2 := hl q hmem
  have ih := ZqJ rec n t b hb f hl hr k m (i + 1) (out ++ f q) (by omega) (by omega) hi2 (by rw [List.length_append]; omega)
  obtain ⟨g1, g2⟩ := ZqM t i hq (fun x kd nm => ZbV rec n (Za0 rec n t b (ZeR t) m) b i x kd nm out)
  rw [Za0, Zao, decide_eq_true (by rw [← Zfw]; exact hlt), if_pos rfl]
  refine g1.trans ?_
  rw [ZbV, if_pos (by omega), if_pos (by omega)]
  rw [← g2, h1, Option.bind_some, if_pos (Zaq (by omega))]
  rw [show ((i : Int) + 1) = ((i + 1 : Nat) : Int) from by omega, ih, List.flatMap_cons, List.append_assoc]
theorem ZjL : ∀ (n : Nat) (t : Ty) (b : List Part) (out : List (List Part)), t.size < n → b.length + t.depth ≤ 100 → t.size ≤ 1000 → out.length + t.size ≤ 100000 → ZcI n t b out = some (out ++ lvs n t b)
 | 0, t, b, out, h, _, _, _ => absurd h (Nat.not_lt_zero _)
 | n + 1, t, b, out, hn, hb, ht, ho => by
  have hp := t.size_pos
  have hl := t.lens
  have hd := t.depth_eq
  have hlen : (ZaS t).length < t.size := by
   have := Zik t
   have h2 : (ZaS t).length ≤ ((ZaS t).map fun q => q.1.size).sum := by
    generalize ZaS t = l
    induction l with
    | nil => simp
    | cons x l ih =>
     have := x.1.size_pos
     rw [List.map_cons, List.sum_cons, List.length_cons]; omega
   omega
  rw [ZcI, Ze5, Zmy n t (by omega) (by omega), Option.bind_some, Option.bind_some, lvs, ← Zfw]
  by_cases h0 : (ZaS t).length = 0
  ·
   rw [decide_eq_true (by omega), if_pos rfl, if_pos h0, if_pos (by omega), if_pos (by omega)]
  ·
   rw [decide_eq_false (by omega), if_neg (by decide), if_neg h0]
   have := ZqJ (ZcI n) n t b (by omega) (fun q => lvs n q.1 (b ++ [q.2])) (fun q _ => ZjW n q.1 _) (fun q hq out' ho' => by
    have h1 := Zj7 hq
    have h2 := Zgn hq
    exact ZjL n q.1 (b ++ [q.2]) out' (by omega) (by simp only [List.length_append, List.length_cons, List.length_nil]; omega) (by omega) ho') (ZaS t).length n 0 out (by omega) (by omega) (by omega) (by have := Zik t; rw [List.drop_zero]; omega)
   rw [List.drop_zero] at this
   exact this
theorem Znz (rec : Ty → List Part → Option (List (List Part))) (n : Nat) (t : Ty) (b : List Part) (kd : Int) (hb : b.length ≤ 100) (f : TF → List (List Part)) (hl : ∀ q ∈ t.fields, (f q).length ≤ q.2.2.2.1.size) (hfl : t.fields.length ≤ 100000)
  (hr : ∀ q ∈ t.fields, rec q.2.2.2.1 (b ++ [Part.mk kd 0 q.2.1]) = some (f q)) : ∀ (k m i : Nat) (out : List (List Part)), i + k = t.fields.length → k < m → out.length + ((t.fields.drop i).map fun q => q.2.2.2.1.size).sum ≤ 100000 →
  Zcg rec n t b kd m out i = some (out ++ (t.fields.drop i).flatMap f)
 | k, 0, i, _, _, h, _ => absurd h (Nat.not_lt_zero _)
 | 0, m + 1, i, out, hi, _, _ => by
  rw [Zcg, Zao, decide_eq_false (by omega), if_neg (by decide), List.drop_of_length_le (by omega), List.flatMap_nil, List.append_nil, Zey]
 | k + 1, m + 1, i, out, hi, hm, ho => by
  have hlt : i < t.fields.length := by omega
  obtain ⟨q, hqe⟩ : ∃ q, t.fields[i] = q := ⟨_, rfl⟩
  have hmem : q ∈ t.fields := hqe ▸ List.getElem_mem hlt
  rw [List.drop_eq_getElem_cons hlt, hqe] at ho ⊢
  rw [List.map_cons, List.sum_cons] at ho
  have h1 := hr q hmem
  have h2 := hl q hmem
  have ih := Znz rec n t b kd hb f hl hfl hr k m (i + 1) (out ++ f q) (by omega) (by omega) (by rw [List.length_append]; omega)
  rw [Zcg, Zao, decide_eq_true hlt, if_pos rfl, if_pos (by omega), Zap hlt, hqe, Option.bind_some, if_pos (by omega), h1, Option.bind_some, if_pos (by omega), if_pos (Zaq (by omega))]
  rw [show ((i : Int) + 1) = ((i + 1 : Nat) : Int) from by omega, ih, List.flatMap_cons, List.append_assoc]
theorem Zjj : ∀ (n : Nat) (t : Ty) (b : List Part), t.size < n → b.length + t.depth ≤ 100 → t.size ≤ 1000 → t.Good → Zcd n t b = some (lvs n t b)
 | 0, t, b, h, _, _, _ => absurd h (Nat.not_lt_zero _)
 | n + 1, t, b, hn, hb, ht, tg => by
  have hp := t.size_pos
  have hl := t.lens
  have hd := t.depth_eq
  have own := tg.own
  rw [Zcd, Zf9, ZkG n t (by omega) (by omega) (by omega), Option.bind_some, lvs, ← Zfw]
  by_cases h0 : (ZaS t).length = 0
  ·
   rw [decide_eq_true (by omega), if_pos rfl, if_pos h0]
  rw [decide_eq_false (by omega), if_neg (by decide), if_neg h0]
  have ih : ∀ q ∈ ZaS t, Zcd n q.1 (b ++ [q.2]) = some (lvs n q.1 (b ++ [q.2])) := fun q hq => by
   have h1 := Zj7 hq
   have h2 := Zgn hq
   exact Zjj n q.1 (b ++ [q.2]) (by omega) (by simp only [List.length_append, List.length_cons, List.length_nil]; omega) (by omega) (Zhv tg hq)
  have hsum : (t.fields.map fun q => q.2.2.2.1.size).sum < t.size := by
   have := t.size_eq
   have h3 : Zcx t.fields = (t.fields.map fun q => q.2.2.2.1.size).sum := ZjX t.fields
   rw [← h3]
   omega
  by_cases h8 : t.kind = 8
  ·
   obtain ⟨e, he⟩ := own.elem h8
   have hP : ZaS t = [(e, Part.mk 3 0 ⟨#[]⟩)] := by unfold ZaS; rw [if_pos h8, he]; rfl
   have := ih (e, Part.mk 3 0 ⟨#[]⟩) (by rw [hP]; exact List.mem_singleton.2 rfl)
   rw [decide_eq_true h8, if_pos rfl, he, show idx [e] 0 = some e from rfl, Option.bind_some, if_pos (by omega), if_pos (by omega), hP]
   simp only at this
   rw [this]
   simp
  rw [decide_eq_false h8, if_neg (by decide)]
  by_cases h10 : t.kind = 10
  ·
   have hP : ZaS t = t.fields.map fun f => (f.2.2.2.1, Part.mk 4 0 f.2.1) := by unfold ZaS; rw [if_neg h8, if_neg (by omega), if_pos h10]
   rw [decide_eq_true h10, if_pos rfl, ZcW, show (0 : Int) = ((0 : Nat) : Int) from rfl]
   rw [Znz (Zcd n) n t b 4 (by omega) (fun f => lvs n f.2.2.2.1 (b ++ [Part.mk 4 0 f.2.1])) (fun q _ => ZjW n _ _) (by omega) (fun q hq => ih (q.2.2.2.1, Part.mk 4 0 q.2.1) (by rw [hP]; exact List.mem_map.2 ⟨q, hq, rfl⟩)) t.fields.length n 0 [] (by omega) (by omega) (by rw [List.drop_zero, List.length_nil]; omega)]
   rw [hP, List.flatMap_map, List.drop_zero, List.nil_append]
  ·
   have h9 : t.kind = 9 := by
    by_cases h9 : t.kind = 9
    ·
     exact h9
    ·
     exact absurd (by unfold ZaS; rw [if_neg h8, if_neg h9, if_neg h10]; rfl) h0
   have hP : ZaS t = t.fields.map fun f => (f.2.2.2.1, Part.mk 1 0 f.2.1) := by unfold ZaS; rw [if_neg h8, if_pos h9]
   rw [decide_eq_false h10, if_neg (by decide), ZcW, show (0 : Int) = ((0 : Nat) : Int) from rfl]
   rw [Znz (Zcd n) n t b 1 (by omega) (fun f => lvs n f.2.2.2.1 (b ++ [Part.mk 1 0 f.2.1])) (fun q _ => ZjW n _ _) (by omega) (fun q hq => ih (q.2.2.2.1, Part.mk 1 0 q.2.1) (by rw [hP]; exact List.mem_map.2 ⟨q, hq, rfl⟩)) t.fields.length n 0 [] (by omega) (by omega) (by rw [List.drop_zero, List.length_nil]; omega)]
   rw [hP, List.flatMap_map, List.drop_zero, List.nil_append]
theorem Leads.small {t x : Ty} {l : List Part} (h : Leads t l x) : t.small → x.small := by
 induction h with
 | nil => exact id
 | cons h _ ih => exact fun ts => ih (ZiR ts h)
theorem ZuE (n : Nat) (hn : 5000 ≤ n) (t : Ty) (ts : t.small) (tg : t.Good) (hc : ZcM n t = some 0) {l : List Part} {x : Ty} (h : Leads t l x) (hl : l.length ≤ 20) : ∃ r, Zkz n t l = some r ∧ (r.2.2 = 0 → r.1 = x) := by
 obtain ⟨b2, p1⟩ := ZnM n (by omega) l (h.wf tg) hl
 rw [Zkz, hc]
 simp only [Option.bind_some, p1]
 cases b2 with
 | false =>
  refine ⟨(Ty.mk 0 0 0 0 [] [] [], false, 3), ?_, fun q => absurd q (by decide)⟩
  simp
 | true =>
  obtain ⟨b, hb⟩ := Zoh n hn l (by omega) l.length n 0 false t x (by omega) (by omega) ts tg (by rw [List.drop_zero]; exact h)
  refine ⟨(x, b, 0), ?_, fun _ => rfl⟩
  rw [show (0 : Int) = ((0 : Nat) : Int) from rfl] at hb ⊢
  simp only [decide_true, Bool.not_true, Bool.false_eq_true, if_false, if_true, Int.ofNat_zero] at hb ⊢
  first | exact hb | (rw [hb])
theorem ZtB (n : Nat) (ag : Int → Option Bool) (t : Ty) (z : Int) (l p : List Part) (hl : p.length ≤ 1000000) : ∀ (k m i : Nat), i + k = p.length → k < m → Za5 n ag t z l p p m i = ZbL n ag t z l
 | k, 0, i, _, h => absurd h (Nat.not_lt_zero _)
 | 0, m + 1, i, hi, _ => by rw [Za5, Zao, decide_eq_false (by omega), if_neg (by decide)]
 | k + 1, m + 1, i, hi, hm => by
  have hlt : i < p.length := by omega
  rw [Za5, Zao, decide_eq_true hlt, if_pos rfl, Zap hlt, Option.bind_some, Option.bind_some]
  rw [decide_eq_true rfl, decide_eq_true rfl, Zon]
  simp only [Bool.and_self, Bool.not_true, Bool.false_eq_true, if_false]
  rw [if_pos (Zaq (by omega))]
  exact ZtB n ag t z l p hl k m (i + 1) (by omega) (by omega)
theorem Zt7 (n : Nat) (hn : 5000 ≤ n) (t : Ty) (ts : t.small) (tg : t.Good) (hc : ZcM n t = some 0) (ls : List (List Part)) (hls : ls.length ≤ 1000) (h : ∀ l ∈ ls, ∃ x, Leads t l x ∧ ZaS x = [] ∧ l.length ≤ 20) : ∀ (k m i : Nat), i + k = ls.length → k < m → ZaC n t ls ls m i = some true
 | k, 0, i, _, h => absurd h (Nat.not_lt_zero _)
 | 0, m + 1, i, hi, _ => by rw [ZaC, Zao, decide_eq_false (by omega), if_neg (by decide), Zb8]
 | k + 1, m + 1, i, hi, hm => by
  have hlt : i < ls.length := by omega
  obtain ⟨x, h1, h2, h3⟩ := h _ (List.getElem_mem hlt)
  have ih := Zt7 n hn t ts tg hc ls hls h k m (i + 1) (by omega) (by omega)
  obtain ⟨r, r1, r2⟩ := ZuE n hn t ts tg hc h1 h3
  have xs := h1.small ts
  have xl := x.lens
  have x1 := xs.1
  have k36 : Zbj n (ZaC n t ls ls m) i = some true := by
   rw [Zbj, if_pos (Zaq (by omega))]
   exact ih
  rw [ZaC, Zao, decide_eq_true hlt, if_pos rfl, Zap hlt, Option.bind_some, ZqC n _ (by omega) (by omega), Option.bind_some, Option.bind_some, decide_eq_true rfl]
  simp only [Bool.not_true, Bool.false_eq_true, if_false]
  rw [show (0 : Int) = ((0 : Nat) : Int) from rfl, ZtB n _ t _ _ _ (by omega) (ls[i]).length n 0 (by omega) (by omega), ZbL, r1, Option.bind_some]
  by_cases q : r.2.2 = 0
  ·
   rw [decide_eq_true q, if_pos rfl, r2 q, ZkG n x (by omega) (by omega) (by omega), Option.bind_some, ← Zfw, h2]
   rw [if_neg (by simp)]
   exact k36
  ·
   rw [decide_eq_false q, if_neg (by decide)]
   exact k36
theorem ZmA (n : Nat) (hn : 100000 ≤ n) (t : Ty) : ZcU n t = some true := by
 have kn := ZsE n (by omega)
 rw [ZcU, kn]
 simp only [Option.bind_some, Bool.not_true, Bool.false_eq_true, if_false]
 obtain ⟨b, e, hb⟩ := ZrZ n (by omega) t
 rw [e]
 simp only [Option.bind_some]
 cases b with
 | false => rfl
 | true =>
 simp only [Bool.not_true, Bool.false_eq_true, if_false]
 have ht := hb rfl
 have hts := ht.1
 have htd := ht.2.1
 obtain ⟨c, c1, c2, c3⟩ := ZqB n t (by omega) ht
 rw [ZgS, c1, c2]
 simp only [Option.bind_some]
 by_cases h : c = 0
 ·
  subst h
  have tg := c3 rfl
  rw [decide_eq_true (rfl : (0 : Int) = 0)]
  simp only [Bool.not_true, Bool.false_eq_true, if_false, if_true]
  rw [ZjL n t [] [] (by omega) (by simp only [List.length_nil]; omega) (by omega) (by simp only [List.length_nil]; omega), Zjj n t [] (by omega) (by simp only [List.length_nil]; omega) (by omega) tg]
  simp only [Option.bind_some, List.nil_append]
  have hlen := ZjW n t []
  rw [ZbD, decide_eq_true rfl]
  simp only [Bool.not_true, Bool.false_eq_true, if_false]
  refine Zt7 n (by omega) t ht tg c1 (lvs n t []) (by omega) (fun l hl => ?_) (lvs n t []).length n 0 (by omega) (by omega)
  obtain ⟨l', x, h1, h2, h3, h4⟩ := Zl2 n t [] l hl
  rw [List.nil_append] at h1
  subst h1
  exact ⟨x, h2, h3, by omega⟩
 ·
  rw [decide_eq_false h]
  simp only [Bool.not_false, if_true, Option.bind_some, Bool.false_eq_true, if_false]
  obtain ⟨m, rfl⟩ : ∃ m, n = m + 1 := ⟨n - 1, by omega⟩
  rfl
end Go.Proofs.YtgpmlelfkjfbiaaGreatDoor
