/-
  Part 7 of the proof: rules and walks that the claim's last text uses.
-/
import Derived.Test.YtggimoedcamonaaGreatDoorSm6
set_option linter.unusedSimpArgs false
set_option linter.unusedVariables false
set_option maxRecDepth 100000
set_option maxHeartbeats 4000000
namespace Go.Proofs.YtggimoedcamonaaGreatDoor
open Go Go.RowKit Go.Ev
theorem Zji : ∀ a b : List UInt8, Op.bytesLess a b = decide (cbL a b < 0)
 | [], [] => rfl
 | _ :: _, [] => rfl
 | [], _ :: _ => rfl
 | x :: a, y :: b => by
  have ih := Zji a b
  simp only [Op.bytesLess, cbL, Lib.compareBytes] at *
  by_cases h1 : x < y
  ·
   simp [h1]
  ·
   by_cases h2 : y < x
   ·
    have : ¬ x = y := fun e => by rw [e] at h2; exact UInt8.lt_irrefl _ h2
    simp [h1, h2, this]
   ·
    have : x = y := by
     rw [UInt8.lt_iff_toNat_lt] at h1 h2
     exact UInt8.toNat.inj (by omega)
    subst this
    simp [h1, ih]
theorem Zvg (x y : ByteArray) : sLt x y = decide (Zh0 x y < 0) := Zji _ _
theorem Zir (x y : ByteArray) : Zh0 y x = - Zh0 x y := ZkH _ _
theorem ZqC (x : ByteArray) : Zh0 x x = 0 := ZlL _
theorem Zvb {x y z : ByteArray} (h1 : Zh0 x y < 0) (h2 : Zh0 y z < 0) : Zh0 x z < 0 := (ZjF _ _ _ (Int.le_of_lt h1) (Int.le_of_lt h2)).2 (.inl h1)
def SS (l : List (ByteArray × Vl)) : Prop := l.Pairwise fun p q => Zh0 p.1 q.1 < 0
theorem Zmx : ∀ (l m : List (ByteArray × Vl)), l.Perm m → SS l → SS m → l = m
 | [], m, h, _, _ => (List.nil_perm.1 h).symm ▸ rfl
 | p :: l, [], h, _, _ => absurd h.length_eq (by simp)
 | p :: l, q :: m, h, h1, h2 => by
  obtain ⟨a1, a2⟩ := List.pairwise_cons.1 h1
  obtain ⟨b1, b2⟩ := List.pairwise_cons.1 h2
  have e : p = q := by
   have hp : p ∈ q :: m := h.mem_iff.1 (List.mem_cons_self ..)
   have hq : q ∈ p :: l := h.mem_iff.2 (List.mem_cons_self ..)
   rcases List.mem_cons.1 hp with e | hp
   ·
    exact e
   rcases List.mem_cons.1 hq with e | hq
   ·
    exact e.symm
   have x1 := b1 p hp
   have x2 := a1 q hq
   have := Zir p.1 q.1
   omega
  subst e
  rw [Zmx l m ((List.perm_cons _).1 h) a2 b2]
theorem ZkP {α : Type} (d : α) : ∀ xs : List α, (List.range xs.length).map (fun i => xs.getD i d) = xs := fun xs => by
 apply List.ext_getElem
 ·
  simp
 ·
  intro i h1 h2
  simp [List.getD, List.getElem?_eq_getElem h2]
theorem ZeT (l : List (ByteArray × Vl)) : (ZcY l).Perm l := by
 have h := ((Zhx (fun i => (l.getD i Zmi).1) l.length).1).map fun i => l.getD i Zmi
 rw [ZkP] at h
 exact h
theorem Zo8 (l : List (ByteArray × Vl)) (hd : (l.map Prod.fst).Nodup) : SS (ZcY l) := by
 have hp := ZeT l
 have hl := ZgP l
 have hn : ((ZcY l).map Prod.fst).Nodup := (hp.map Prod.fst).nodup_iff.2 hd
 unfold SS
 rw [List.pairwise_iff_getElem]
 intro i j hi hj hij
 have h2 := (Zhx (fun i => (l.getD i Zmi).1) l.length).2 i j hij (by omega)
 have hsl : (ZgF (fun i => (l.getD i Zmi).1) l.length).length = l.length := Zdr _ _
 have g : ∀ k (hk : k < (ZcY l).length), (ZcY l)[k].1 = (l.getD ((ZgF (fun i => (l.getD i Zmi).1) l.length)[k]!) Zmi).1 := fun k hk => by
  have hk2 : k < (ZgF (fun i => (l.getD i Zmi).1) l.length).length := by omega
  rw [getElem!_pos _ k hk2]
  show ((Zi3 Prod.fst Zmi l)[k]'hk).1 = _
  simp only [Zi3, List.getElem_map]
 rw [g i hi, g j hj]
 have ne : (ZcY l)[i].1 ≠ (ZcY l)[j].1 := by
  have := List.pairwise_iff_getElem.1 hn i j (by simpa using hi) (by simpa using hj) hij
  simpa using this
 rw [g i hi, g j hj] at ne
 have sw := Zir (l.getD ((ZgF (fun i => (l.getD i Zmi).1) l.length)[i]!) Zmi).1 (l.getD ((ZgF (fun i => (l.getD i Zmi).1) l.length)[j]!) Zmi).1
 have nz : Zh0 (l.getD ((ZgF (fun i => (l.getD i Zmi).1) l.length)[i]!) Zmi).1 (l.getD ((ZgF (fun i => (l.getD i Zmi).1) l.length)[j]!) Zmi).1 ≠ 0 := fun q => ne ((ZfI _ _).1 q)
 change ¬ Zh0 _ _ < 0 at h2
 omega
theorem ZrA : ∀ (l : List (ByteArray × Vl)), SS l → (∀ p ∈ l, Zcu p.1 = true) → ∀ o : Option ByteArray, (∀ w, o = some w → ∀ p ∈ l, Zh0 w p.1 < 0) → ZlG o (l.map Prod.fst) = 0
 | [], _, _, o, _ => by cases o <;> rfl
 | p :: l, h, hn, o, ho => by
  obtain ⟨a1, a2⟩ := List.pairwise_cons.1 h
  have ih := ZrA l a2 (fun q hq => hn q (List.mem_cons_of_mem _ hq)) (some p.1) (fun w hw q hq => by cases hw; exact a1 q hq)
  have hp := hn p (List.mem_cons_self ..)
  cases o with
  | none => rw [List.map_cons, ZlG, if_pos hp]; exact ih
  | some w =>
   have hw := ho w rfl p (List.mem_cons_self ..)
   have sw := Zir w p.1
   rw [List.map_cons, ZlG, if_pos hp, if_neg, if_neg]
   ·
    exact ih
   ·
    rw [Zvg, decide_eq_true_eq]; omega
   ·
    intro q
    rw [(Zgs _ _).1 q, ZqC] at hw
    exact absurd hw (by decide)
theorem Zru (n : Nat) (l : List (ByteArray × Vl)) (hl : l.length ≤ 1000000) (hn : l.length < n) (hnul : ∀ p ∈ l, ZaI p.2 = false) (hd : (l.map Prod.fst).Nodup) : ∀ (k m i : Nat), i + k = l.length → k < m → Zb2 n l m i (l.take i) = Ze5 n l
 | k, 0, i, _, h => absurd h (Nat.not_lt_zero _)
 | 0, m + 1, i, hi, _ => by
  rw [Zb2, Zap, decide_eq_false (by omega), List.take_of_length_le (by omega)]
  rfl
 | k + 1, m + 1, i, hi, hm => by
  have hlt : i < l.length := by omega
  have hz : ¬ (((l.length : Nat) : Int) < (i : Int) + 1) := by omega
  rw [Zb2, Zap, decide_eq_true hlt]
  rw [if_pos rfl, Zao hlt, Option.bind_some]
  rw [if_pos (Zaq (by omega)), if_pos (by omega)]
  have e1 : ((i : Int) + 1).toNat = i + 1 := by omega
  have hc : Zbi n (l.drop (i + 1)) (fun x0 => some (ZbF x0 l[i])) = some false := by
   rw [Zbi, Zbl]
   have e := ZqV n (l.drop (i + 1)) (fun x0 => some (ZbF x0 l[i])) (fun x0 => ZbF x0 l[i]) (fun _ _ => rfl) (by rw [List.length_drop]; omega) (l.drop (i + 1)).length n 0 (by omega) (by rw [List.length_drop]; omega)
   have e' : ZaQ n (l.drop (i + 1)) (fun x0 => some (ZbF x0 l[i])) n 0 = _ := e
   rw [e', Option.bind_some, Zje]
   congr 1
   rw [List.any_eq_false]
   intro p hp
   rw [ZbF]
   have ne : ¬ sEq p.1 l[i].1 = true := by
    rw [Zgs]
    intro q
    obtain ⟨j, hj, rfl⟩ := List.mem_iff_getElem.1 hp
    rw [List.length_drop] at hj
    have := List.pairwise_iff_getElem.1 hd i (i + 1 + j) (by simpa using hlt) (by simp; omega) (by omega)
    apply this
    simp only [List.getElem_map]
    rw [List.getElem_drop] at q
    exact q.symm
   simp [Bool.eq_false_iff.2 ne]
  rw [e1, hc, Option.bind_some, hnul _ (List.getElem_mem hlt)]
  rw [if_pos (by rfl), if_pos (by rw [List.length_take]; omega), Zez, if_pos (Zaq (by omega))]
  have e : l.take i ++ [l[i]] = l.take (i + 1) := by rw [List.take_succ_eq_append_getElem hlt]
  rw [e]
  exact Zru n l hl hn hnul hd k m (i + 1) (by omega) (by omega)
theorem ZhS {l m : List (ByteArray × Vl)} (h : l.Perm m) : Zbo l = Zbo m := by
 rw [Ziu, Ziu]
 exact (h.map _).sum_nat
theorem Zpt (n : Nat) (l : List (ByteArray × Vl)) (hl : Zbo l + 2 ≤ 1000000) (hn : Zbo l + 2 ≤ n) (hnul : ∀ p ∈ l, ZaI p.2 = false) (hd : (l.map Prod.fst).Nodup) : Zd1 n l = some (Vl.mk 9 0 0 ⟨#[]⟩ [] (ZcY l)) := by
 have h1 := ZeW l
 have e := Zru n l (by omega) (by omega) hnul hd l.length n 0 (by omega) (by omega)
 rw [List.take_zero] at e
 have e' : Zb2 n l n 0 [] = _ := e
 rw [Zd1, e', Ze5, if_pos (by omega)]
 have hs := ZhS (ZeT l)
 rw [ZdD n _ (by simp only [Vl.size, Zb5]; omega) (by simp only [Vl.size, Zb5]; omega)]
 rfl
theorem ZnB (n : Nat) (ag : Int → List (ByteArray × Vl) → Option Vl) (c : Int) (x : ByteArray × Vl) (b : List (ByteArray × Vl)) (hl : b.length ≤ 1000000) (hz : ∀ p ∈ b, p.1.size ≤ maxLen) (hx : x.1.size ≤ maxLen) : ∀ (k m i : Nat), i + k = b.length → k < m → (∀ p ∈ b.take i, Zh0 p.1 x.1 < 0) →
  ∃ j, j ≤ b.length ∧ (∀ p ∈ b.take j, Zh0 p.1 x.1 < 0) ∧ (∀ h : j < b.length, ¬ Zh0 b[j].1 x.1 < 0) ∧ ZbV n ag c x m i b = Zc0 n ag c x (j : Int) b
 | k, 0, i, _, h, _ => absurd h (Nat.not_lt_zero _)
 | 0, m + 1, i, hi, _, hp => by
  rw [ZbV, Zap, decide_eq_false (by omega)]
  exact ⟨i, by omega, hp, fun h => by omega, rfl⟩
 | k + 1, m + 1, i, hi, hm, hp => by
  have hlt : i < b.length := by omega
  rw [ZbV, Zap, decide_eq_true hlt]
  simp only [if_true, Zao hlt, Option.bind_some]
  rw [if_pos (hz _ (List.getElem_mem hlt)), if_pos hx]
  by_cases q : Zh0 b[i].1 x.1 < 0
  ·
   rw [decide_eq_true q, if_pos rfl, if_pos (Zaq (by omega))]
   refine ZnB n ag c x b hl hz hx k m (i + 1) (by omega) (by omega) fun p hp2 => ?_
   rw [List.take_succ_eq_append_getElem hlt] at hp2
   rcases List.mem_append.1 hp2 with h | h
   ·
    exact hp p h
   ·
    rw [List.mem_singleton.1 h]; exact q
  ·
   rw [decide_eq_false q]
   exact ⟨i, by omega, hp, fun _ => q, rfl⟩
theorem ZqP {b : List (ByteArray × Vl)} (hb : SS b) (x : ByteArray × Vl) (hx : ∀ p ∈ b, p.1 ≠ x.1) {j : Nat} (h1 : ∀ p ∈ b.take j, Zh0 p.1 x.1 < 0) (h2 : ∀ h : j < b.length, ¬ Zh0 b[j].1 x.1 < 0) : SS (b.take j ++ [x] ++ b.drop j) := by
 unfold SS at *
 rw [List.append_assoc, List.singleton_append]
 have hsplit := hb
 rw [← List.take_append_drop j b] at hsplit
 obtain ⟨s1, s2, s3⟩ := List.pairwise_append.1 hsplit
 have hd : ∀ q ∈ b.drop j, Zh0 x.1 q.1 < 0 := by
  by_cases hj : j < b.length
  ·
   have e := List.drop_eq_getElem_cons hj
   rw [e] at s2 ⊢
   obtain ⟨t1, t2⟩ := List.pairwise_cons.1 s2
   have g : Zh0 x.1 b[j].1 < 0 := by
    have := h2 hj
    have sw := Zir b[j].1 x.1
    have nz : Zh0 b[j].1 x.1 ≠ 0 := fun q => hx _ (List.getElem_mem hj) ((ZfI _ _).1 q)
    omega
   intro q hq
   rcases List.mem_cons.1 hq with rfl | hq
   ·
    exact g
   ·
    exact Zvb g (t1 q hq)
  ·
   rw [List.drop_eq_nil_of_le (by omega)]; simp
 refine List.pairwise_append.2 ⟨s1, List.pairwise_cons.2 ⟨hd, s2⟩, fun p hp q hq => ?_⟩
 rcases List.mem_cons.1 hq with rfl | hq
 ·
  exact h1 p hp
 ·
  exact s3 p hp q hq
theorem Zoy (n : Nat) (l : List (ByteArray × Vl)) (hl : l.length ≤ 1000000) (hn : l.length < n) (hnul : ∀ p ∈ l, Zcm p.2 = false) (hz : ∀ p ∈ l, p.1.size ≤ maxLen) (hd : (l.map Prod.fst).Nodup) : ∀ (i m : Nat) (b : List (ByteArray × Vl)), i ≤ l.length → i < m → b.Perm (l.drop i) → SS b →
  ∃ b', b'.Perm l ∧ SS b' ∧ Za7 n l m ((i : Int) - 1) b = some (Vl.mk 9 0 0 ⟨#[]⟩ [] b')
 | i, 0, b, _, h, _, _ => absurd h (Nat.not_lt_zero _)
 | 0, m + 1, b, _, _, hp, hs => by
  rw [Za7, decide_eq_false (by omega), if_neg (by decide)]
  exact ⟨b, hp, hs, rfl⟩
 | i + 1, m + 1, b, hi, hm, hp, hs => by
  have hlt : i < l.length := by omega
  have hbl : b.length = l.length - (i + 1) := by rw [hp.length_eq, List.length_drop]
  rw [Za7, decide_eq_true (by omega), if_pos rfl]
  have e1 : (((i + 1 : Nat) : Int) - 1) = (i : Int) := by omega
  have hmem : ∀ p ∈ b, p ∈ l := fun p h => List.mem_of_mem_drop (hp.mem_iff.1 h)
  have hne : ∀ p ∈ b, p.1 ≠ l[i].1 := fun p h q => by
   obtain ⟨j, hj, rfl⟩ := List.mem_iff_getElem.1 (hp.mem_iff.1 h)
   rw [List.length_drop] at hj
   have := List.pairwise_iff_getElem.1 hd i (i + 1 + j) (by simpa using hlt) (by simp; omega) (by omega)
   apply this
   simp only [List.getElem_map]
   rw [List.getElem_drop] at q
   exact q.symm
  rw [e1, Zao hlt, Option.bind_some, hnul _ (List.getElem_mem hlt), if_neg (by decide)]
  rw [ZnJ n _ _ rfl (by show b.length ≤ _; omega) (by show b.length < _; omega), Option.bind_some]
  have hf : ffI (fun x : ByteArray × Vl => sEq x.1 l[i].1) (Vl.mk 9 0 0 ⟨#[]⟩ [] b).fields 0 = -1 := by
   rcases ZfR (fun x : ByteArray × Vl => sEq x.1 l[i].1) b b.length 0 (by omega) with q | ⟨j, hj, q, hp⟩
   ·
    exact q
   ·
    exact absurd ((Zgs _ _).1 hp) (hne _ (List.getElem_mem hj))
  rw [hf, decide_eq_false (by decide), if_neg (by decide)]
  obtain ⟨j, j1, j2, j3, j4⟩ := ZnB n (Za7 n l m) (i : Int) l[i] b (by omega) (fun p h => hz p (hmem p h)) (hz _ (List.getElem_mem hlt)) b.length n 0 (by omega) (by omega) (by simp)
  have j4' : ZbV n (Za7 n l m) (i : Int) l[i] n 0 b = _ := j4
  rw [j4', Zc0]
  have t1 : (b.take (j : Int).toNat).length = j := by rw [List.length_take]; omega
  have t2 : (b.drop (j : Int).toNat).length = b.length - j := by rw [List.length_drop]; omega
  rw [if_pos (by omega), if_pos (by rw [t1]; omega), if_pos (by rw [t1]; omega), if_pos (by omega), if_pos (by rw [t1, t2]; omega), ZcS, if_pos (by unfold I64; omega)]
  refine Zoy n l hl hn hnul hz hd i m _ (by omega) (by omega) ?_ (ZqP hs l[i] hne j2 j3)
  rw [List.drop_eq_getElem_cons hlt]
  have p1 : (b.take j ++ [l[i]] ++ b.drop j).Perm (l[i] :: (b.take j ++ b.drop j)) := by
   rw [List.append_assoc, List.singleton_append]
   exact List.perm_middle
  rw [List.take_append_drop] at p1
  exact p1.trans (hp.cons _)
theorem ZnO (n : Nat) (l : List (ByteArray × Vl)) (hl : l.length ≤ 1000000) (hn : l.length < n) (hnul : ∀ p ∈ l, Zcm p.2 = false) (hz : ∀ p ∈ l, p.1.size ≤ maxLen) (hd : (l.map Prod.fst).Nodup) : Zdf n l = some (Vl.mk 9 0 0 ⟨#[]⟩ [] (ZcY l)) := by
 obtain ⟨b, h1, h2, h3⟩ := Zoy n l hl hn hnul hz hd l.length n [] (Nat.le_refl _) hn (by simp) .nil
 rw [Zdf, if_pos (by unfold I64; omega), h3]
 rw [Zmx b (ZcY l) (h1.trans (ZeT l).symm) h2 (Zo8 l hd)]
instance (k : IntKind) (n : Int) : Decidable (inK k n) := by cases k <;> exact inferInstanceAs (Decidable (_ ∧ _))
@[go_sem] theorem Zrl (n : Int) : Znt (.val (.int .u8 n)) = (0 ≤ n ∧ n ≤ 255) := rfl
def ZjA (k : Nat) : ByteArray := ⟨(List.replicate k (0 : UInt8)).toArray⟩
@[go_sem] theorem Ztc (k : Nat) : ZcU (List.replicate k (.val (.int .u8 0))) = ZjA k := by
 simp [ZcU, ZjA, ZaF]
@[go_sem] theorem Zvr : ZcU [] = (⟨#[]⟩ : ByteArray) := rfl
@[go_sem] theorem ZtV (k : Nat) : (∀ y ∈ List.replicate k (AV.val (.int .u8 0)), Znt y) ↔ True := iff_true_intro fun y hy => by
 rw [List.eq_of_mem_replicate hy, Zrl]; omega
theorem Zpv (k : Nat) : (ZjA k).size = k := by show (List.replicate k (0 : UInt8)).toArray.size = k; simp
def ZzN : Vl := Vl.mk 0 0 0 ⟨#[]⟩ [] []
def Zeo (t : Ty) : Int := if t.min < (if 0 < t.max then 0 else t.max) then (if 0 < t.max then 0 else t.max) else t.min
def aS (k : Nat) : ByteArray := ⟨(List.replicate k (97 : UInt8)).toArray⟩
def ZaP (f : Ty → Vl) (p : TF) : Option (ByteArray × Vl) := if p.2.2.1 = 1 then some (p.2.1, f p.2.2.2.1) else if p.2.2.1 = 3 then p.2.2.2.2.head?.map fun v => (p.2.1, v) else none
def Zag : Nat → Ty → Vl
 | 0, _ => ZzN
 | d + 1, t =>
  if t.kind = 2 ∨ t.kind = 3 ∨ t.kind = 6 ∨ t.kind = 7 then Vl.mk t.kind (Zeo t) t.scale ⟨#[]⟩ [] []
  else if t.kind = 4 then Vl.mk 4 0 0 (t.words.head?.getD (aS t.min.toNat)) [] []
  else if t.kind = 5 then Vl.mk 5 0 0 (ZjA t.min.toNat) [] []
  else if t.kind = 8 then Vl.mk 8 0 0 ⟨#[]⟩ (t.elem.flatMap fun e => List.replicate t.min.toNat (Zag d e)) []
  else if t.kind = 10 then Vl.mk 10 0 0 (t.fields.head?.elim ⟨#[]⟩ fun p => p.2.1) (t.fields.head?.elim [] fun p => [Zag d p.2.2.2.1]) []
  else if t.kind = 9 then Vl.mk 9 0 0 ⟨#[]⟩ [] (ZcY (t.fields.filterMap (ZaP (Zag d))))
  else Vl.mk t.kind 0 0 ⟨#[]⟩ [] []
theorem Zod (d : Nat) (t : Ty) : (Zag (d + 1) t).kind = t.kind := by
 rw [Zag]
 by_cases h1 : t.kind = 2 ∨ t.kind = 3 ∨ t.kind = 6 ∨ t.kind = 7
 ·
  rw [if_pos h1]; rfl
 rw [if_neg h1]
 by_cases h2 : t.kind = 4
 ·
  rw [if_pos h2]; exact h2.symm
 rw [if_neg h2]
 by_cases h3 : t.kind = 5
 ·
  rw [if_pos h3]; exact h3.symm
 rw [if_neg h3]
 by_cases h4 : t.kind = 8
 ·
  rw [if_pos h4]; exact h4.symm
 rw [if_neg h4]
 by_cases h5 : t.kind = 10
 ·
  rw [if_pos h5]; exact h5.symm
 rw [if_neg h5]
 by_cases h6 : t.kind = 9
 ·
  rw [if_pos h6]; exact h6.symm
 rw [if_neg h6]; rfl
theorem Ty.Fine.own {d : Nat} {t : Ty} (h : t.Fine d) : ZnM t = 0 := by cases h with | mk _ _ a _ _ _ => exact a
theorem Ty.Fine.good : ∀ {d : Nat} {t : Ty}, t.Fine d → t.Good
 | 0, t, h => by cases h
 | d + 1, t, h => by
  cases h with
  | mk _ _ own he hf hd => exact .mk t own (fun x hx => (he x hx).good) fun p hp => (hf p hp).good
theorem Ty.Fine.elem {d : Nat} {t x : Ty} (h : t.Fine (d + 1)) (hx : x ∈ t.elem) : x.Fine d := by cases h with | mk _ _ _ a _ _ => exact a x hx
theorem Ty.Fine.field {d : Nat} {t : Ty} {p : TF} (h : t.Fine (d + 1)) (hx : p ∈ t.fields) : p.2.2.2.1.Fine d := by cases h with | mk _ _ _ _ a _ => exact a p hx
theorem Ty.Fine.dfl {d : Nat} {t : Ty} {p : TF} (h : t.Fine (d + 1)) (hx : p ∈ t.fields) : ∀ v ∈ p.2.2.2.2, Zoj v = 0 ∧ ZiX 12 p.2.2.2.1 v = true := by cases h with | mk _ _ _ _ _ a => exact a p hx
theorem Zet {v : Vl} (h : v.kind ≠ 0) : ZaI v = false := by
 rw [ZaI, decide_eq_false h]; simp
theorem ZpV {v : Vl} (h : v.kind ≠ 0) : Zcm v = false := by
 rw [Zcm, decide_eq_false h]; simp
theorem ZkW {v : Vl} (h : v.Good) : 1 ≤ v.kind ∧ v.kind ≤ 10 := by
 have := (ZgX (Zeu h)).1
 omega
theorem Zkk (k : Int) : ∀ (l b : List TF), Zex k b l = 0 → (l.map fun p => p.2.1).Nodup ∧ ∀ p ∈ l, ∀ q ∈ b, q.2.1 ≠ p.2.1
 | [], _, _ => ⟨.nil, by simp⟩
 | x :: r, b, h => by
  rw [Zex] at h
  by_cases q : Zh4 k b x = 0
  rotate_left
  ·
   rw [if_neg q] at h; exact absurd h q
  rw [if_pos q] at h
  obtain ⟨h1, h2⟩ := Zkk k r (b ++ [x]) h
  have hx : ∀ y ∈ b, y.2.1 ≠ x.2.1 := by
   intro y hy e
   unfold Zh4 at q
   by_cases c1 : Zcu x.2.1 = true
   ·
    rw [if_pos c1] at q
    by_cases c2 : ¬ (1 ≤ x.1 ∧ x.1 ≤ 9999)
    ·
     rw [if_pos c2] at q; exact absurd q (by decide)
    rw [if_neg c2, if_pos (List.any_eq_true.2 ⟨y, hy, by rw [ZaU, (Zgs _ _).2 e]; simp⟩)] at q
    exact absurd q (by decide)
   ·
    rw [if_neg c1] at q; exact absurd q (by decide)
  refine ⟨List.nodup_cons.2 ⟨fun hm => ?_, h1⟩, fun p hp y hy => ?_⟩
  ·
   obtain ⟨p, hp, e⟩ := List.mem_map.1 hm
   exact h2 p hp x (by simp) e.symm
  ·
   rcases List.mem_cons.1 hp with rfl | hp
   ·
    exact hx y hy
   ·
    exact h2 p hp y (by simp [hy])
theorem Zf4 {f : Ty → Vl} {p : TF} {q : ByteArray × Vl} (h : ZaP f p = some q) : q.1 = p.2.1 := by
 unfold ZaP at h
 by_cases h1 : p.2.2.1 = 1
 ·
  rw [if_pos h1] at h; exact (congrArg Prod.fst (Option.some.inj h)).symm
 rw [if_neg h1] at h
 by_cases h3 : p.2.2.1 = 3
 ·
  rw [if_pos h3] at h
  obtain ⟨v, _, e⟩ := Option.map_eq_some_iff.1 h
  rw [← e]
 ·
  rw [if_neg h3] at h; cases h
theorem ZlO (f : Ty → Vl) : ∀ l : List TF, ((l.filterMap (ZaP f)).map Prod.fst).Sublist (l.map fun p => p.2.1)
 | [] => .slnil
 | p :: r => by
  have ih := ZlO f r
  cases h : ZaP f p with
  | none => rw [List.filterMap_cons_none h, List.map_cons]; exact ih.cons _
  | some q => rw [List.filterMap_cons_some h, List.map_cons, List.map_cons, Zf4 h]; exact ih.cons_cons _
theorem Zni {t : Ty} (hn : (t.fields.map fun p => p.2.1).Nodup) {p : TF} (hp : p ∈ t.fields) : Zfy t p.2.1 = some p := by
 unfold Zfy
 revert hn hp
 generalize t.fields = l
 intro hn hp
 induction l with
 | nil => simp at hp
 | cons x r ih =>
  rw [List.map_cons] at hn
  obtain ⟨h1, h2⟩ := List.nodup_cons.1 hn
  rw [List.find?_cons]
  rcases List.mem_cons.1 hp with rfl | hp
  ·
   rw [Zel]
  ·
   have : sEq x.2.1 p.2.1 = false := by
    rw [Bool.eq_false_iff]
    intro q
    exact h1 (List.mem_map.2 ⟨p, hp, ((Zgs _ _).1 q).symm⟩)
   rw [this]
   exact ih h2 hp
theorem Zqh (k : Nat) (b : UInt8) (hb : b.toNat < 128) : Lib.validD (List.replicate k b) = true := by
 induction k with
 | zero => exact Lib.validD_nil
 | succ k ih => rw [List.replicate_succ, Lib.validD_cons _ _ hb]; exact ih
theorem ZoU : ∀ (l : List ByteArray) (o : Option ByteArray), ZnL o l = 0 → ∀ w ∈ l, Zpb w = 0
 | [], _, _, w, hw => by simp at hw
 | x :: r, o, h, w, hw => by
  have key : Zpb x = 0 ∧ ZnL (some x) r = 0 := by
   by_cases h0 : Zpb x = 0
   ·
    refine ⟨h0, ?_⟩
    cases o with
    | none => rw [ZnL, if_pos h0] at h; exact h
    | some p =>
     rw [ZnL, if_pos h0] at h
     by_cases h1 : sEq x p = true
     ·
      rw [if_pos h1] at h; exact absurd h (by decide)
     rw [if_neg h1] at h
     by_cases h2 : sLt x p = true
     ·
      rw [if_pos h2] at h; exact absurd h (by decide)
     rw [if_neg h2] at h; exact h
   ·
    cases o with
    | none => rw [ZnL, if_neg h0] at h; exact absurd h h0
    | some p => rw [ZnL, if_neg h0] at h; exact absurd h h0
  rcases List.mem_cons.1 hw with rfl | hw
  ·
   exact key.1
  ·
   exact ZoU r _ key.2 w hw
theorem ZhF {v : Vl} (h : Zeh v = 0) (hp : ZaM v = []) : v.Good := .mk v h fun x hx => by rw [hp] at hx; simp at hx
theorem ZfL {n lo hi : Int} (h1 : lo ≤ n) (h2 : n ≤ hi) : ZaB n lo hi = false := by
 rw [ZaB, decide_eq_false (by omega), decide_eq_false (by omega)]; rfl
theorem Zib : ∀ (d e : Nat) (t : Ty), t.small → t.Fine d → t.depth ≤ e → (Zag d t).Good ∧ ZiX e t (Zag d t) = true
 | 0, e, t, _, h, _ => by cases h
 | d + 1, 0, t, _, _, he => by have := t.depth_eq; omega
 | d + 1, e + 1, t, ts, tf, he => by
  have gt := tf.good
  have own := gt.own
  have hk := own.kind
  have lk := Zod d t
  rw [ZiX]
  have hkk : ¬ (t.kind ≠ (Zag (d + 1) t).kind) := fun q => q lk.symm
  rw [if_neg hkk]
  by_cases n2 : t.kind = 2 ∨ t.kind = 3 ∨ t.kind = 6 ∨ t.kind = 7
  ·
   have ev : Zag (d + 1) t = Vl.mk t.kind (Zeo t) t.scale ⟨#[]⟩ [] [] := by rw [Zag, if_pos n2]
   have hb := own.bounds (by omega) (by omega)
   have hc : t.min ≤ Zeo t ∧ Zeo t ≤ t.max := by
    unfold Zeo
    split <;> split <;> omega
   rw [ev]
   have hs := own.scale
   have lim : Zah t.kind = if t.kind = 2 ∨ t.kind = 3 then (-999999999999999, 999999999999999) else if t.kind = 6 then (-719162, 2932896) else (-62135596800000, 253402300799999) := by
    rcases n2 with k | k | k | k <;> rw [k] <;> rfl
   rw [lim] at hb
   refine ⟨ZhF ?_ ?_, ?_⟩
   ·
    have o1 : ZaI (Vl.mk t.kind (Zeo t) t.scale ⟨#[]⟩ [] []) = false := Zet (by show t.kind ≠ 0; omega)
    have o2 : Zar (Vl.mk t.kind (Zeo t) t.scale ⟨#[]⟩ [] []) = false := by
     rcases n2 with k | k | k | k
     ·
      have := own.noscale (by omega); simp [Zar, Vl.kind, Vl.int, Vl.scale, Vl.text, Vl.list, Vl.fields, k, this, Zel]
     ·
      simp [Zar, Vl.kind, Vl.int, Vl.scale, Vl.text, Vl.list, Vl.fields, k, Zel]
     ·
      have := own.noscale (by omega); simp [Zar, Vl.kind, Vl.int, Vl.scale, Vl.text, Vl.list, Vl.fields, k, this, Zel]
     ·
      have := own.noscale (by omega); simp [Zar, Vl.kind, Vl.int, Vl.scale, Vl.text, Vl.list, Vl.fields, k, this, Zel]
    rw [Zeh, o1, o2]
    simp only [Vl.kind, Vl.int, Vl.scale]
    rcases n2 with k | k | k | k
    ·
     rw [if_pos (.inl k)] at hb
     simp only at hb
     have o3 := ZfL (n := Zeo t) (lo := -999999999999999) (hi := 999999999999999) (by omega) (by omega)
     have o4 := ZfL (n := t.scale) (lo := 0) (hi := 12) (by omega) (by omega)
     simp [k, o3, o4]
    ·
     rw [if_pos (.inr k)] at hb
     simp only at hb
     have o3 := ZfL (n := Zeo t) (lo := -999999999999999) (hi := 999999999999999) (by omega) (by omega)
     have o4 := ZfL (n := t.scale) (lo := 0) (hi := 12) (by omega) (by omega)
     simp [k, o3, o4]
    ·
     rw [if_neg (by omega), if_pos k] at hb
     simp only at hb
     have o3 := ZfL (n := Zeo t) (lo := -719162) (hi := 2932896) (by omega) (by omega)
     simp [k, o3]
    ·
     rw [if_neg (by omega), if_neg (by omega)] at hb
     simp only at hb
     have o3 := ZfL (n := Zeo t) (lo := -62135596800000) (hi := 253402300799999) (by omega) (by omega)
     simp [k, o3]
   ·
    rw [ZaM, if_neg (by show ¬ (t.kind = 8 ∨ t.kind = 10); omega), if_neg (by show ¬ (t.kind = 9); omega)]
   ·
    rcases n2 with k | k | k | k
    ·
     rw [if_pos (.inl k)]; simp [Vl.int, hc.1, hc.2]
    ·
     rw [if_neg (by omega), if_pos k]; simp [Vl.int, Vl.scale, hc.1, hc.2]
    ·
     rw [if_pos (.inr (.inl k))]; simp [Vl.int, hc.1, hc.2]
    ·
     rw [if_pos (.inr (.inr k))]; simp [Vl.int, hc.1, hc.2]
  rw [if_neg (by omega), if_neg (by omega)]
  by_cases n4 : t.kind = 4
  ·
   have ev : Zag (d + 1) t = Vl.mk 4 0 0 (t.words.head?.getD (aS t.min.toNat)) [] [] := by rw [Zag, if_neg n2, if_pos n4]
   rw [ev, if_pos n4]
   match hw : t.words with
   | w :: r =>
    obtain ⟨_, _, _, hwe⟩ := own.words n4 (by rw [hw]; simp)
    have hc : Zpb w = 0 := ZoU _ _ hwe w (by rw [hw]; simp)
    refine ⟨Zd7 hc, ?_⟩
    simp [Vl.text, Zel]
   | [] =>
    have hb := own.bounds (by omega) (by rw [hw]; simp)
    rw [n4, show Zah 4 = (0, 1024) from rfl] at hb
    simp only at hb
    have hsz : (aS t.min.toNat).size = t.min.toNat := by show (List.replicate t.min.toNat (97 : UInt8)).toArray.size = _; simp
    refine ⟨ZhF ?_ ?_, ?_⟩
    ·
     have o1 : ZaI (Vl.mk 4 0 0 (aS t.min.toNat) [] []) = false := Zet (by show (4 : Int) ≠ 0; decide)
     have o2 : Zar (Vl.mk 4 0 0 (aS t.min.toNat) [] []) = false := by simp [Zar, Vl.kind, Vl.int, Vl.scale, Vl.text, Vl.list, Vl.fields]
     have o3 : Lib.validD (aS t.min.toNat).data.toList = true := Zqh _ 97 (by decide)
     show Zeh (Vl.mk 4 0 0 (aS t.min.toNat) [] []) = 0
     rw [Zeh, o1, o2]
     have o4 : ¬ 1024 < (aS t.min.toNat).size := by omega
     simp [Vl.kind, Vl.text, o3, o4]
    ·
     rfl
    ·
     simp only [List.head?_nil, Option.getD_none, List.any_nil, Bool.false_or, List.length_nil]
     simp only [Vl.text, hsz, Zh5, Bool.and_eq_true, decide_eq_true_eq]
     refine ⟨rfl, by omega, by omega⟩
  rw [if_neg n4]
  by_cases n5 : t.kind = 5
  ·
   have ev : Zag (d + 1) t = Vl.mk 5 0 0 (ZjA t.min.toNat) [] [] := by rw [Zag, if_neg n2, if_neg n4, if_pos n5]
   rw [ev, if_pos n5]
   have hb := own.bounds (by omega) (by omega)
   rw [n5, show Zah 5 = (0, 1024) from rfl] at hb
   simp only at hb
   have hsz := Zpv t.min.toNat
   refine ⟨ZhF ?_ rfl, ?_⟩
   ·
    have o1 : ZaI (Vl.mk 5 0 0 (ZjA t.min.toNat) [] []) = false := Zet (by show (5 : Int) ≠ 0; decide)
    have o2 : Zar (Vl.mk 5 0 0 (ZjA t.min.toNat) [] []) = false := by simp [Zar, Vl.kind, Vl.int, Vl.scale, Vl.text, Vl.list, Vl.fields]
    rw [Zeh, o1, o2]
    have o4 : ¬ 1024 < (ZjA t.min.toNat).size := by omega
    simp [Vl.kind, Vl.text, o4]
   ·
    simp only [Vl.text, hsz, Zh5, Bool.and_eq_true, decide_eq_true_eq]
    omega
  rw [if_neg n5]
  by_cases n8 : t.kind = 8
  ·
   have ev : Zag (d + 1) t = Vl.mk 8 0 0 ⟨#[]⟩ (t.elem.flatMap fun e => List.replicate t.min.toNat (Zag d e)) [] := by rw [Zag, if_neg n2, if_neg n4, if_neg n5, if_pos n8]
   obtain ⟨x, hx⟩ := own.elem n8
   have hxm : x ∈ t.elem := by rw [hx]; simp
   have hb := own.bounds (by omega) (by omega)
   rw [n8, Zwl] at hb
   simp only at hb
   obtain ⟨g1, g2⟩ := Zib d e x (Ty.small_elem ts hxm) (tf.elem hxm) (by have := Ty.depth_elem hxm; omega)
   rw [ev, if_pos n8]
   have el : (t.elem.flatMap fun e => List.replicate t.min.toNat (Zag d e)) = List.replicate t.min.toNat (Zag d x) := by rw [hx]; simp
   rw [el]
   refine ⟨.mk _ ?_ fun y hy => ?_, ?_⟩
   ·
    have o1 : ZaI (Vl.mk 8 0 0 ⟨#[]⟩ (List.replicate t.min.toNat (Zag d x)) []) = false := Zet (by show (8 : Int) ≠ 0; decide)
    have o2 : Zar (Vl.mk 8 0 0 ⟨#[]⟩ (List.replicate t.min.toNat (Zag d x)) []) = false := by simp [Zar, Vl.kind, Vl.int, Vl.scale, Vl.text, Vl.list, Vl.fields, Zel]
    rw [Zeh, o1, o2]
    simp only [Vl.kind, Vl.list, List.length_replicate]
    simp; omega
   ·
    rw [ZaM, if_pos (.inl rfl)] at hy
    rw [List.eq_of_mem_replicate hy]; exact g1
   ·
    simp only [Vl.list, List.length_replicate, Zh5, Bool.and_eq_true, decide_eq_true_eq]
    refine ⟨List.all_eq_true.2 fun y hy => ?_, by omega, by omega⟩
    rw [List.eq_of_mem_replicate hy, hx]
    simp [g2]
  rw [if_neg n8]
  by_cases n10 : t.kind = 10
  ·
   have ev : Zag (d + 1) t = Vl.mk 10 0 0 (t.fields.head?.elim ⟨#[]⟩ fun p => p.2.1) (t.fields.head?.elim [] fun p => [Zag d p.2.2.2.1]) [] := by rw [Zag, if_neg n2, if_neg n4, if_neg n5, if_neg n8, if_pos n10]
   rw [ev, if_pos n10]
   match hf : t.fields with
   | [] => have := own.cases n10; rw [hf] at this; simp at this
   | p :: r =>
    have hpm : p ∈ t.fields := by rw [hf]; simp
    obtain ⟨g1, g2⟩ := Zib d e p.2.2.2.1 (Ty.small_field ts hpm) (tf.field hpm) (by have := Ty.depth_field hpm; omega)
    have hn := (own.each p hpm).1
    refine ⟨.mk _ ?_ fun y hy => ?_, ?_⟩
    ·
     have o1 : ZaI (Vl.mk 10 0 0 p.2.1 [Zag d p.2.2.2.1] []) = false := Zet (by show (10 : Int) ≠ 0; decide)
     have o2 : Zar (Vl.mk 10 0 0 p.2.1 [Zag d p.2.2.2.1] []) = false := by simp [Zar, Vl.kind, Vl.int, Vl.scale, Vl.text, Vl.list, Vl.fields]
     show Zeh (Vl.mk 10 0 0 p.2.1 [Zag d p.2.2.2.1] []) = 0
     rw [Zeh, o1, o2]
     simp [Vl.kind, Vl.text, Vl.list, hn]
    ·
     have hy2 : y ∈ [Zag d p.2.2.2.1] := by
      rw [ZaM, if_pos (.inr rfl)] at hy
      exact hy
     rw [List.mem_singleton.1 hy2]; exact g1
    ·
     have hfirst : Zfy t p.2.1 = some p := by unfold Zfy; rw [hf, List.find?_cons, Zel]
     show (match Zfy t p.2.1 with
      | some p => [Zag d _].all fun x => ZiX e p.2.2.2.1 x
      | none => false) = true
     rw [hfirst]
     simp [g2]
  rw [if_neg n10]
  by_cases n9 : t.kind = 9
  ·
   have ev : Zag (d + 1) t = Vl.mk 9 0 0 ⟨#[]⟩ [] (ZcY (t.fields.filterMap (ZaP (Zag d)))) := by rw [Zag, if_neg n2, if_neg n4, if_neg n5, if_neg n8, if_neg n10, if_pos n9]
   rw [ev, if_pos n9]
   obtain ⟨hnd, _⟩ := Zkk _ _ _ own.apart
   have hd2 : ((t.fields.filterMap (ZaP (Zag d))).map Prod.fst).Nodup := hnd.sublist (ZlO _ _)
   have hperm := ZeT (t.fields.filterMap (ZaP (Zag d)))
   have hss := Zo8 _ hd2
   have hmem : ∀ q, q ∈ ZcY (t.fields.filterMap (ZaP (Zag d))) → ∃ p ∈ t.fields, q.1 = p.2.1 ∧ q.2.Good ∧ ZiX e p.2.2.2.1 q.2 = true := by
    intro q hq
    obtain ⟨p, hp, e1⟩ := List.mem_filterMap.1 (hperm.mem_iff.1 hq)
    refine ⟨p, hp, Zf4 e1, ?_⟩
    have hdp := Ty.depth_field hp
    unfold ZaP at e1
    by_cases h1 : p.2.2.1 = 1
    ·
     rw [if_pos h1] at e1
     rw [← Option.some.inj e1]
     exact Zib d e _ (Ty.small_field ts hp) (tf.field hp) (by omega)
    rw [if_neg h1] at e1
    by_cases h3 : p.2.2.1 = 3
    ·
     rw [if_pos h3] at e1
     obtain ⟨v, hv, e2⟩ := Option.map_eq_some_iff.1 e1
     have hvm : v ∈ p.2.2.2.2 := List.mem_of_mem_head? hv
     obtain ⟨d1, d2⟩ := tf.dfl hp v hvm
     rw [← e2]
     have gv := Zd7 d1
     refine ⟨gv, ?_⟩
     have sm := Ty.small_field ts hp
     have hz := ((t.ok_eq.1 ts.2.2).2.2.2 p hp).2.2.2 v hvm
     have q1 := sm.1
     have q2 := hz.1
     have a1 := Zhp 3000 12 p.2.2.2.1 v (by omega) (by omega) (by omega) sm (Zbw gt hp) gv sm.2.1
     have a2 := Zhp 3000 e p.2.2.2.1 v (by omega) (by omega) (by omega) sm (Zbw gt hp) gv (by omega)
     rw [a1] at a2
     rw [← Option.some.inj a2]; exact d2
    ·
     rw [if_neg h3] at e1; cases e1
   refine ⟨.mk _ ?_ fun y hy => ?_, ?_⟩
   ·
    have o1 : ZaI (Vl.mk 9 0 0 ⟨#[]⟩ [] (ZcY (t.fields.filterMap (ZaP (Zag d))))) = false := Zet (by show (9 : Int) ≠ 0; decide)
    have o2 : Zar (Vl.mk 9 0 0 ⟨#[]⟩ [] (ZcY (t.fields.filterMap (ZaP (Zag d))))) = false := by simp [Zar, Vl.kind, Vl.int, Vl.scale, Vl.text, Vl.list, Vl.fields, Zel]
    have hlen : (ZcY (t.fields.filterMap (ZaP (Zag d)))).length ≤ 64 := by
     rw [hperm.length_eq]
     have := List.length_filterMap_le (ZaP (Zag d)) t.fields
     have := own.fields
     omega
    have hfe := ZrA _ hss (fun q hq => by obtain ⟨p, hp, e1, _⟩ := hmem q hq; rw [e1]; exact (own.each p hp).1) none (fun w hw => by cases hw)
    rw [Zeh, o1, o2]
    simp only [Vl.kind, Vl.fields, hfe]
    simp; omega
   ·
    rw [ZaM, if_neg (by show ¬ ((9 : Int) = 8 ∨ (9 : Int) = 10); decide), if_pos (by rfl)] at hy
    obtain ⟨q, hq, rfl⟩ := List.mem_map.1 hy
    obtain ⟨p, hp, _, g, _⟩ := hmem q hq
    exact g
   ·
    rw [Bool.and_eq_true]
    refine ⟨List.all_eq_true.2 fun q hq => ?_, ?_⟩
    ·
     obtain ⟨p, hp, e1, _, hh⟩ := hmem q hq
     rw [e1, Zni hnd hp]
     exact hh
    ·
     rw [Bool.not_eq_true', List.any_eq_false]
     intro p hp hl
     unfold Zm8 Zvj at hl
     rw [Bool.and_eq_true, Bool.not_eq_true', Bool.not_eq_true', decide_eq_false_iff_not] at hl
     have oe := own.each p hp
     have hex : ∃ q, ZaP (Zag d) p = some q := by
      unfold ZaP
      by_cases h1 : p.2.2.1 = 1
      ·
       rw [if_pos h1]; exact ⟨_, rfl⟩
      rw [if_neg h1]
      have h3 : p.2.2.1 = 3 := by omega
      rw [if_pos h3]
      obtain ⟨v, hv⟩ := List.length_eq_one_iff.1 (oe.2.2.2.2.1 h3)
      rw [hv]; exact ⟨_, rfl⟩
     obtain ⟨q, hq⟩ := hex
     have hm : q ∈ ZcY (t.fields.filterMap (ZaP (Zag d))) := hperm.mem_iff.2 (List.mem_filterMap.2 ⟨p, hp, hq⟩)
     have := List.any_eq_false.1 hl.1 q hm
     rw [Zf4 hq, Zel] at this
     exact this rfl
  ·
   rw [if_neg n9]
   have ev : Zag (d + 1) t = Vl.mk t.kind 0 0 ⟨#[]⟩ [] [] := by rw [Zag, if_neg n2, if_neg n4, if_neg n5, if_neg n8, if_neg n10, if_neg n9]
   have k1 : t.kind = 1 := by omega
   rw [ev, k1]
   exact ⟨ZhF (by decide) (by decide), rfl⟩
def Zcd (rec : Ty → Option Vl) (n : Nat) (again_l68 : (List (ByteArray × Vl)) → Int → Option Vl) (x7_l68 : Int) (x6_k73 : List (ByteArray × Vl)) : Option Vl :=
 if I64 (x7_l68 + 1) then
  again_l68 x6_k73 (x7_l68 + 1)
 else none
def Zfu (rec : Ty → Option Vl) (n : Nat)  (x6_k65 : List (ByteArray × Vl)) : Option Vl :=
 (Zdf n x6_k65).bind fun y94 =>
 some (y94)
def ZaL (rec : Ty → Option Vl) (n : Nat) (a0 : Ty) (b2_k4_1 : Int) (b2_k4_3 : ByteArray) (b2_k4_4 : List Vl) : Option Vl :=
 some (Vl.mk a0.kind b2_k4_1 a0.scale b2_k4_3 b2_k4_4 ([]))
def Zcc (rec : Ty → Option Vl) (n : Nat) (a0 : Ty) : Nat → Int → ByteArray → Option Vl
 | 0, _, _ => none
 | m + 1, x4_l25, b2_l25_3 =>
  if decide (x4_l25 < a0.min) then
   if b2_l25_3.size + ((⟨#[97]⟩ : ByteArray)).size ≤ 9223372036854775807 then
    if I64 (x4_l25 + 1) then
     (Zcc rec n a0 m) (x4_l25 + 1) (b2_l25_3 ++ ((⟨#[97]⟩ : ByteArray)))
    else none
   else none
  else
   ZaL rec n a0 0 b2_l25_3 ([])
def Zb8 (rec : Ty → Option Vl) (n : Nat) (a0 : Ty) : Nat → Int → (List Vl) → Option Vl
 | 0, _, _ => none
 | m + 1, x5_l44, b2_l44_4 =>
  if decide (x5_l44 < a0.min) then
   (idx a0.elem 0).bind fun x49 =>
   (rec x49).bind fun y50 =>
   if (b2_l44_4.length + 1) * 88 ≤ 140737488355328 ∧ b2_l44_4.length + 1 ≤ 4611686018427387904 then
    if I64 (x5_l44 + 1) then
     (Zb8 rec n a0 m) (x5_l44 + 1) (b2_l44_4 ++ ([y50]))
    else none
   else none
  else
   ZaL rec n a0 0 ((⟨#[]⟩ : ByteArray)) b2_l44_4
def Zbu (rec : Ty → Option Vl) (n : Nat) (a0 : Ty) : Nat → (List (ByteArray × Vl)) → Int → Option Vl
 | 0, _, _ => none
 | m + 1, x6_l68, x7_l68 =>
  if decide (x7_l68 < ((a0.fields.length : Int))) then
   (idx a0.fields x7_l68).bind fun x76 =>
   if decide (x76.2.2.1 = 1) then
    (rec x76.2.2.2.1).bind fun y80 =>
    if (x6_l68.length + 1) * 104 ≤ 140737488355328 ∧ x6_l68.length + 1 ≤ 4611686018427387904 then
     Zcd rec n (Zbu rec n a0 m) x7_l68 (x6_l68 ++ ([(x76.2.1, y80)]))
    else none
   else
    if decide (x76.2.2.1 = 3) then
     (idx x76.2.2.2.2 0).bind fun x87 =>
     if (x6_l68.length + 1) * 104 ≤ 140737488355328 ∧ x6_l68.length + 1 ≤ 4611686018427387904 then
      Zcd rec n (Zbu rec n a0 m) x7_l68 (x6_l68 ++ ([(x76.2.1, x87)]))
     else none
    else
     Zcd rec n (Zbu rec n a0 m) x7_l68 x6_l68
  else
   Zfu rec n x6_l68
def Zcj (rec : Ty → Option Vl) (n : Nat) (a0 : Ty) (x16_k8 : Bool) : Option Vl :=
 if x16_k8 then
  ZaL rec n a0 ((if a0.min < (if a0.max < 0 then a0.max else 0) then (if a0.max < 0 then a0.max else 0) else a0.min)) ((⟨#[]⟩ : ByteArray)) ([])
 else
  if decide (a0.kind = 4) then
   if decide (0 < ((a0.words.length : Int))) then
    (idx a0.words 0).bind fun x23 =>
    ZaL rec n a0 0 x23 ([])
   else
    Zcc rec n a0 n 0 ((⟨#[]⟩ : ByteArray))
  else
   if decide (a0.kind = 5) then
    if decide (a0.min = 0) then
     if 0 ≤ 0 ∧ 0 * 1 ≤ 140737488355328 ∧ 0 ≤ 4611686018427387904 then
      ZaL rec n a0 0 ((⟨#[]⟩ : ByteArray)) ([])
     else none
    else
     if 0 ≤ a0.min ∧ a0.min ≤ 140737488355328 then
      if a0.min.toNat ≤ 9223372036854775807 then
       ZaL rec n a0 0 (ZjA a0.min.toNat) ([])
      else none
     else none
   else
    if decide (a0.kind = 8) then
     Zb8 rec n a0 n 0 ([])
    else
     if decide (a0.kind = 10) then
      (idx a0.fields 0).bind fun x59 =>
      (rec x59.2.2.2.1).bind fun y60 =>
      ZaL rec n a0 0 x59.2.1 ([y60])
     else
      if decide (a0.kind = 9) then
       Zbu rec n a0 n ([]) 0
      else
       ZaL rec n a0 0 ((⟨#[]⟩ : ByteArray)) ([])
def ZhE (rec : Ty → Option Vl) (n : Nat) (a0 : Ty) : Option Vl :=
 if decide (a0.kind = 2) then
  Zcj rec n a0 true
 else
  if decide (a0.kind = 3) then
   Zcj rec n a0 true
  else
   if decide (a0.kind = 6) then
    Zcj rec n a0 true
   else
    Zcj rec n a0 (decide (a0.kind = 7))
def ZbG : Nat → Ty → Option Vl
 | 0, _ => none
 | n + 1, a0 => ZhE (ZbG n) n a0
def Zi7 (w0 : World) (F : Ty → Option Vl) : Prop := ∀ (B : List (List AV)) (Rw : List RowA) (L : List LoopA) (a0 : Ty) (r : Vl), F a0 = some r → ACalls Tryz.prog w0 25 [.agg (a0.cs)] ⟨B, Rw, L⟩ fun x st => x = .agg (r.cs) ∧ st = ⟨B, Rw, L⟩
theorem ZlW (w0 : World) (rec : Ty → Option Vl) (ih : Zi7 w0 rec) (n : Nat) : Zi7 w0 (ZhE rec n) := by
 intro B Rw L a0 r h
 rw [ZhE] at h
 refine hd [.cell 2 34] Tryz.func25 Tryz.ntmps25 fun M0 W0 hN hNR hNL hcalm hu hO hs => ?_
 simp only [Zat]
 refine rg [1, 2] hs ?_
 apply Zab; intro K2 hK2
 apply Zae 1 [1, 2, 3]
 rw [Zaa]; simp +decide only [go_sem, Nat.reduceAdd, Za2, ZaC, Zaw]
 (repeat' apply And.intro) <;> first | refine hK2 _ _ ?_ | exact cl
 clear hK2
 refine Zaj (fun e st => ∃ (b2_k4_1 : Int) (b2_k4_3 : ByteArray) (b2_k4_4 : List Vl) (ob2_k4_4 : Ev.Own), Ck e st B Rw L [(2, true, .box (B.length + 1) 0), (3, true, .box (B.length + 2) 0)] [a0.cs, [.val (.int .i64 0), .val (.int .i64 0), .val (.int .i64 0), .val (.string ((⟨#[]⟩ : ByteArray))), .list ([]) .full, .list ([]) .full], [.val (.int .i64 a0.kind), .val (.int .i64 b2_k4_1), .val (.int .i64 a0.scale), .val (.string b2_k4_3), .list (b2_k4_4.map avV) ob2_k4_4, .list ([]) .full]] [(6, b2_k4_4.length, ob2_k4_4)] (ZaL rec n a0 b2_k4_1 b2_k4_3 b2_k4_4 = some r)) ?_ ?_
 ·
  intro K5 hK5
  refine rg [1, 2, 3, 15] hs ?_
  apply Zad
  refine Zaj (fun e st => ∃ (x16_k8 : Bool), Ck e st B Rw L [(1, true, .box B.length 0), (2, true, .box (B.length + 1) 0), (3, true, .box (B.length + 2) 0), (15, true, .val (.int .i64 a0.kind)), (16, true, .val (.bool x16_k8))] [a0.cs, [.val (.int .i64 0), .val (.int .i64 0), .val (.int .i64 0), .val (.string ((⟨#[]⟩ : ByteArray))), .list ([]) .full, .list ([]) .full], [.val (.int .i64 a0.kind), .val (.int .i64 0), .val (.int .i64 a0.scale), .val (.string ((⟨#[]⟩ : ByteArray))), .list ([]) .full, .list ([]) .full]] [] (Zcj rec n a0 x16_k8 = some r)) ?_ ?_
  ·
   intro K9 hK9
   refine rg [1, 2, 3, 15, 16] hs ?_
   refine cnd h hs (fun hs h => ?_) (fun hs h => ?_)
   ·
    refine sk [1, 2, 3, 15, 16] hs hK9 ?_
    exact ⟨true, ([]), Rw, ef hs, ef hs, hO, h⟩
   refine rg [1, 2, 3, 15, 16] hs ?_
   refine cnd h hs (fun hs h => ?_) (fun hs h => ?_)
   ·
    refine sk [1, 2, 3, 15, 16] hs hK9 ?_
    exact ⟨true, ([]), Rw, ef hs, ef hs, hO, h⟩
   refine rg [1, 2, 3, 15, 16] hs ?_
   refine cnd h hs (fun hs h => ?_) (fun hs h => ?_)
   ·
    refine sk [1, 2, 3, 15, 16] hs hK9 ?_
    exact ⟨true, ([]), Rw, ef hs, ef hs, hO, h⟩
   refine rl [1, 2, 3, 15, 16] hs hK9 ?_
   exact ⟨(decide (a0.kind = 7)), ([]), Rw, ef hs, ef hs, hO, h⟩
  ·
   clear h; rintro e st ⟨x16_k8, Xk8, Rk8, rfl, rfl, hO, h⟩
   rw [Zcj] at h
   refine td hN hNR hNL hcalm hO ?_
   refine cnd h hs (fun hs h => ?_) (fun hs h => ?_)
   ·
    have hb16 := hs.1
    refine rl [2, 3] hs hK5 ?_
    exact ⟨((if a0.min < (if a0.max < 0 then a0.max else 0) then (if a0.max < 0 then a0.max else 0) else a0.min)), ((⟨#[]⟩ : ByteArray)), ([]), .full, ([]), Rk8, ef hs, ef hs, Owns.of_eq ((hO).full 6 0) (by first | rfl | simp only [List.length_append, List.length_cons, List.length_nil, List.length_map, Nat.zero_add, Nat.add_zero]), h⟩
   have hb16 := hs.1
   refine rg [1, 2, 3, 15, 28] hs ?_
   refine cnd h hs (fun hs h => ?_) (fun hs h => ?_)
   ·
    have hb18 := hs.1
    apply Zab; intro K19 hK19
    refine rg [1, 2, 3, 33] hs ?_
    refine cnd h hs (fun hs h => ?_) (fun hs h => ?_)
    ·
     obtain ⟨x23, hx23, h⟩ := bind_some h
     obtain ⟨hx23a, hx23b, hx23c⟩ := Zaz hx23
     have hx23d := ZaD (f := avS) hx23c
     have hx23e : (a0.words.map avS).getD 0 .junk = _ := hx23d
     have hs := And.intro hx23d hs
     have hs := And.intro hx23e hs
     refine rg [2, 3] hs ?_
     refine sx [2, 3] hs hK5 ?_
     exact ⟨0, x23, ([]), .full, ([]), Rk8, ef hs, ef hs, Owns.of_eq ((hO).full 6 0) (by first | rfl | simp only [List.length_append, List.length_cons, List.length_nil, List.length_map, Nat.zero_add, Nat.add_zero]), h⟩
    refine sk [1, 2, 3] hs hK19 ?_
    clear hK19
    refine rg [1, 2, 3, 4] hs ?_
    apply Zad
    refine Zam (fun m e st => ∃ (x4_l25 : Int) (b2_l25_3 : ByteArray), Ck e st B Rw L [(1, true, .box B.length 0), (2, true, .box (B.length + 1) 0), (3, true, .box (B.length + 2) 0), (4, true, .val (.int .i64 x4_l25))] [a0.cs, [.val (.int .i64 0), .val (.int .i64 0), .val (.int .i64 0), .val (.string ((⟨#[]⟩ : ByteArray))), .list ([]) .full, .list ([]) .full], [.val (.int .i64 a0.kind), .val (.int .i64 0), .val (.int .i64 a0.scale), .val (.string b2_l25_3), .list ([]) .full, .list ([]) .full]] [] (Zcc rec n a0 m x4_l25 b2_l25_3 = some r)) n ⟨0, ((⟨#[]⟩ : ByteArray)), ([]), Rk8, ef hs, ef hs, hO, h⟩ ?_
    rintro ml25 e st ⟨x4_l25, b2_l25_3, Xl25, Rl25, rfl, rfl, hO, h⟩ Ul25 Vl25
    cases ml25 with
    | zero => cases h
    | succ ml25 =>
    rw [Zcc] at h
    refine td hN hNR hNL hcalm hO ?_
    apply Zab; intro K26 hK26
    refine rg [1, 2, 3, 4, 42] hs ?_
    refine cnd h hs (fun hs h => ?_) (fun hs h => ?_)
    rotate_left
    ·
     refine sx [2, 3] hs hK5 ?_
     exact ⟨0, b2_l25_3, ([]), .full, ([]), Rl25, ef hs, ef hs, Owns.of_eq ((hO).full 6 0) (by first | rfl | simp only [List.length_append, List.length_cons, List.length_nil, List.length_map, Nat.zero_add, Nat.add_zero]), h⟩
    refine sk [1, 2, 3, 4] hs hK26 ?_
    clear hK26
    apply Zab; intro K29 hK29
    apply Zad
    obtain ⟨hg30, h⟩ := Zac h
    have hg30s := hg30
    try simp +decide only [go_sem] at hg30s
    refine rl [1, 2, 3, 4] hs hK29 ?_
    clear hK29
    obtain ⟨hg31, h⟩ := Zac h
    refine rl [1, 2, 3, 4] hs (fun e s => Vl25 ml25 e s (Nat.lt_succ_self _)) ?_
    exact ⟨(x4_l25 + 1), (b2_l25_3 ++ ((⟨#[97]⟩ : ByteArray))), ([]), Rl25, ef hs, ef hs, hO, h⟩
   have hb18 := hs.1
   refine rg [1, 2, 3, 15, 49] hs ?_
   refine cnd h hs (fun hs h => ?_) (fun hs h => ?_)
   ·
    have hb33 := hs.1
    rcases Bool.eq_false_or_eq_true (decide (a0.min = 0)) with hf34 | hf34
    ·
     replace h := ZaX h hf34
     have hk35 : a0.min = 0 := of_decide_eq_true hf34
     obtain ⟨hg36, h⟩ := Zac h
     have hO := hO.make 1 0
     have hs := And.intro hf34 hs
     have hs := And.intro hk35 hs
     refine rl [2, 3] hs hK5 ?_
     exact ⟨0, ((⟨#[]⟩ : ByteArray)), ([]), .full, ([]), ((Rk8 ++ [.grow 0 1])), ef hs, ef hs, Owns.of_eq (((hO).full 6 0).sub (List.sublist_append_left [(6, 0, Own.full)] [(1, 0, (Own.row Rk8.length))])) (by first | rfl | simp only [List.length_append, List.length_cons, List.length_nil, List.length_map, Nat.zero_add, Nat.add_zero]), h⟩
    ·
     replace h := ZaW h hf34
     have hk38 : ¬ a0.min = 0 := of_decide_eq_false hf34
     obtain ⟨hg39, h⟩ := Zac h
     obtain ⟨hg40, h⟩ := Zac h
     have hs := And.intro hf34 hs
     have hs := And.intro hk38 hs
     refine rl [2, 3] hs hK5 ?_
     exact ⟨0, (ZjA a0.min.toNat), ([]), .full, ([]), Rk8, ef hs, ef hs, Owns.of_eq ((hO).full 6 0) (by first | rfl | simp only [List.length_append, List.length_cons, List.length_nil, List.length_map, Nat.zero_add, Nat.add_zero]), h⟩
   have hb33 := hs.1
   refine rg [1, 2, 3, 15, 56] hs ?_
   refine cnd h hs (fun hs h => ?_) (fun hs h => ?_)
   ·
    have hb42 := hs.1
    refine rg [1, 2, 3, 5] hs ?_
    apply Zad
    refine Zam (fun m e st => ∃ (x5_l44 : Int) (b2_l44_4 : List Vl) (ob2_l44_4 : Ev.Own), Ck e st B Rw L [(1, true, .box B.length 0), (2, true, .box (B.length + 1) 0), (3, true, .box (B.length + 2) 0), (5, true, .val (.int .i64 x5_l44))] [a0.cs, [.val (.int .i64 0), .val (.int .i64 0), .val (.int .i64 0), .val (.string ((⟨#[]⟩ : ByteArray))), .list ([]) .full, .list ([]) .full], [.val (.int .i64 a0.kind), .val (.int .i64 0), .val (.int .i64 a0.scale), .val (.string ((⟨#[]⟩ : ByteArray))), .list (b2_l44_4.map avV) ob2_l44_4, .list ([]) .full]] [(6, b2_l44_4.length, ob2_l44_4)] (Zb8 rec n a0 m x5_l44 b2_l44_4 = some r)) n ⟨0, ([]), .full, ([]), Rk8, ef hs, ef hs, Owns.of_eq ((hO).full 6 0) (by first | rfl | simp only [List.length_append, List.length_cons, List.length_nil, List.length_map, Nat.zero_add, Nat.add_zero]), h⟩ ?_
    rintro ml44 e st ⟨x5_l44, b2_l44_4, ob2_l44_4, Xl44, Rl44, rfl, rfl, hO, h⟩ Ul44 Vl44
    cases ml44 with
    | zero => cases h
    | succ ml44 =>
    rw [Zb8] at h
    have hU := hO.unders
    simp only [List.mem_cons, List.not_mem_nil, or_false, forall_eq_or_imp, forall_eq] at hU
    refine td hN hNR hNL hcalm hO ?_
    apply Zab; intro K45 hK45
    refine rg [1, 2, 3, 5, 61] hs ?_
    refine cnd h hs (fun hs h => ?_) (fun hs h => ?_)
    rotate_left
    ·
     have hb47 := hs.1
     refine sx [2, 3] hs hK5 ?_
     exact ⟨0, ((⟨#[]⟩ : ByteArray)), b2_l44_4, ob2_l44_4, ([]), Rl44, ef hs, ef hs, Owns.of_eq (hO) (by first | rfl | simp only [List.length_append, List.length_cons, List.length_nil, List.length_map, Nat.zero_add, Nat.add_zero]), h⟩
    have hb47 := hs.1
    refine sk [1, 2, 3, 5] hs hK45 ?_
    clear hK45
    apply Zab; intro K48 hK48
    apply Zad
    obtain ⟨x49, hx49a, hx49b, hx49d, h⟩ := ix avT h
    have hx49e : (a0.elem.map avT).getD 0 .junk = _ := hx49d
    obtain ⟨y50, hy50, h⟩ := bind_some h
    obtain ⟨hg51, h⟩ := Zac h
    obtain ⟨o52, rows53, hO, hap54⟩ := hO.append (P := Tryz.prog) Zj5 (by rw [Zf7]; rfl) (by decide) 1 hg51.1 hg51.2
    replace hap54 := fun (ys : List AV) B L o2 => hap54 (b2_l44_4.map avV) ys B L o2 (by first | rfl | simp only [List.length_map, List.length_nil, List.length_append, List.length_cons, Nat.zero_add])
    replace hap54 := fun (y : AV) B L o2 => hap54 [y] B L o2 (by first | rfl | simp only [List.length_map, List.length_nil, List.length_cons]) ev
    try simp only [List.mem_singleton, List.mem_cons, List.not_mem_nil, or_false, forall_eq_or_imp, forall_eq, List.map_append, List.map_cons, List.map_nil, Zdu, ZdH, ZdO, ZdC, ZdU, Zdp, Zck, Zcg, ZdL, Zbz, Zbx, Zcf] at hap54
    apply Zal mix 8 2 1 [1, 2, 3, 5] (by kernel_rfl)
    rw [Zaa]; simp +decide only [go_sem, Nat.reduceAdd, hb16, hb18, hb33, hb42, hb47, hx49d, hx49e, hap54]
    have hs := And.intro hx49d hs
    have hs := And.intro hx49e hs
    have hs := And.intro hap54 hs
    (repeat' apply And.intro) <;> first | refine Zaf _ (ih _ _ _ x49 _ hy50) (hv hs) ?_ | exact cl
    rw [Zaa]; simp +decide only [go_sem, Nat.reduceAdd, hb16, hb18, hb33, hb42, hb47, hx49d, hx49e, hap54]
    (repeat' with_reducible apply And.intro) <;> first | (rw [Zaa]; simp +decide only [go_sem, Nat.reduceAdd, hb16, hb18, hb33, hb42, hb47, hx49d, hx49e, hap54]) | exact cl
    (repeat' apply And.intro) <;> first | refine hK48 _ _ ?_ | exact cl
    clear hK48
    obtain ⟨hg55, h⟩ := Zac h
    refine rl [1, 2, 3, 5] hs (fun e s => Vl44 ml44 e s (Nat.lt_succ_self _)) ?_
    exact ⟨(x5_l44 + 1), (b2_l44_4 ++ ([y50])), o52, ([]), rows53, ef hs, ef hs, Owns.of_eq (hO) (by first | rfl | simp only [List.length_append, List.length_cons, List.length_nil, List.length_map, Nat.zero_add, Nat.add_zero]), h⟩
   have hb42 := hs.1
   refine rg [1, 2, 3, 15, 74] hs ?_
   refine cnd h hs (fun hs h => ?_) (fun hs h => ?_)
   ·
    have hb57 := hs.1
    obtain ⟨x59, hx59, h⟩ := bind_some h
    obtain ⟨hx59a, hx59b, hx59c⟩ := Zaz hx59
    have hx59d := ZaD (f := ZeI) hx59c
    have hx59e : (a0.fields.map ZeI).getD 0 .junk = _ := hx59d
    have hs := And.intro hx59d hs
    have hs := And.intro hx59e hs
    refine rg [1, 2, 3] hs ?_
    obtain ⟨y60, hy60, h⟩ := bind_some h
    refine rk 2 [2, 3] hs ?_
    refine Zaf _ (ih _ _ _ x59.2.2.2.1 _ hy60) (hv hs) ?_
    refine ne hs hK5 ?_
    exact ⟨0, x59.2.1, ([y60]), .full, ([]), Rk8, ef hs, ef hs, Owns.of_eq ((hO).full 6 (([y60]).length)) (by first | rfl | simp only [List.length_append, List.length_cons, List.length_nil, List.length_map, Nat.zero_add, Nat.add_zero]), h⟩
   have hb57 := hs.1
   refine rg [1, 2, 3, 90] hs ?_
   refine cnd h hs (fun hs h => ?_) (fun hs h => ?_)
   ·
    have hb62 := hs.1
    refine rg [1, 2, 6] hs ?_
    refine Zaj (fun e st => ∃ (x6_k65 : List (ByteArray × Vl)) (ox6_k65 : Ev.Own), Ck e st B Rw L [(2, true, .box (B.length + 1) 0), (6, true, .list (x6_k65.map avF) ox6_k65)] [a0.cs, [.val (.int .i64 0), .val (.int .i64 0), .val (.int .i64 0), .val (.string ((⟨#[]⟩ : ByteArray))), .list ([]) .full, .list ([]) .full], [.val (.int .i64 a0.kind), .val (.int .i64 0), .val (.int .i64 a0.scale), .val (.string ((⟨#[]⟩ : ByteArray))), .list ([]) .full, .list ([]) .full]] [(7, x6_k65.length, ox6_k65)] (Zfu rec n x6_k65 = some r)) ?_ ?_
    ·
     intro K66 hK66
     refine rg [1, 2, 6, 7] hs ?_
     apply Zad
     refine Zam (fun m e st => ∃ (x6_l68 : List (ByteArray × Vl)) (x7_l68 : Int) (ox6_l68 : Ev.Own), Ck e st B Rw L [(1, true, .box B.length 0), (2, true, .box (B.length + 1) 0), (6, true, .list (x6_l68.map avF) ox6_l68), (7, true, .val (.int .i64 x7_l68))] [a0.cs, [.val (.int .i64 0), .val (.int .i64 0), .val (.int .i64 0), .val (.string ((⟨#[]⟩ : ByteArray))), .list ([]) .full, .list ([]) .full], [.val (.int .i64 a0.kind), .val (.int .i64 0), .val (.int .i64 a0.scale), .val (.string ((⟨#[]⟩ : ByteArray))), .list ([]) .full, .list ([]) .full]] [(7, x6_l68.length, ox6_l68)] (Zbu rec n a0 m x6_l68 x7_l68 = some r)) n ⟨([]), 0, .full, ([]), Rk8, ef hs, ef hs, Owns.of_eq ((hO).full 7 0) (by first | rfl | simp only [List.length_append, List.length_cons, List.length_nil, List.length_map, Nat.zero_add, Nat.add_zero]), h⟩ ?_
     rintro ml68 e st ⟨x6_l68, x7_l68, ox6_l68, Xl68, Rl68, rfl, rfl, hO, h⟩ Ul68 Vl68
     cases ml68 with
     | zero => cases h
     | succ ml68 =>
     rw [Zbu] at h
     have hU := hO.unders
     simp only [List.mem_cons, List.not_mem_nil, or_false, forall_eq_or_imp, forall_eq] at hU
     refine td hN hNR hNL hcalm hO ?_
     apply Zab; intro K69 hK69
     refine rg [1, 2, 6, 7, 96] hs ?_
     refine cnd h hs (fun hs h => ?_) (fun hs h => ?_)
     rotate_left
     ·
      have hb71 := hs.1
      refine sx [2, 6] hs hK66 ?_
      exact ⟨x6_l68, ox6_l68, ([]), Rl68, ef hs, ef hs, Owns.of_eq (hO) (by first | rfl | simp only [List.length_append, List.length_cons, List.length_nil, List.length_map, Nat.zero_add, Nat.add_zero]), h⟩
     have hb71 := hs.1
     refine sk [1, 2, 6, 7] hs hK69 ?_
     clear hK69
     refine Zaj (fun e st => ∃ (x6_k73 : List (ByteArray × Vl)) (ox6_k73 : Ev.Own), Ck e st B Rw L [(1, true, .box B.length 0), (2, true, .box (B.length + 1) 0), (6, true, .list (x6_k73.map avF) ox6_k73), (7, true, .val (.int .i64 x7_l68))] [a0.cs, [.val (.int .i64 0), .val (.int .i64 0), .val (.int .i64 0), .val (.string ((⟨#[]⟩ : ByteArray))), .list ([]) .full, .list ([]) .full], [.val (.int .i64 a0.kind), .val (.int .i64 0), .val (.int .i64 a0.scale), .val (.string ((⟨#[]⟩ : ByteArray))), .list ([]) .full, .list ([]) .full]] [(7, x6_k73.length, ox6_k73)] (Zcd rec n (Zbu rec n a0 ml68) x7_l68 x6_k73 = some r)) ?_ ?_
     ·
      intro K74 hK74
      apply Zad
      obtain ⟨x76, hx76, h⟩ := bind_some h
      obtain ⟨hx76a, hx76b, hx76c⟩ := Zaz hx76
      have hx76d := ZaD (f := ZeI) hx76c
      have hs := And.intro hx76d hs
      refine rg [1, 2, 6, 7, 8] hs ?_
      refine rg [1, 2, 6, 7, 8, 105] hs ?_
      apply Zad
      refine rg [1, 2, 6, 7, 8, 105, 106] hs ?_
      refine cnd h hs (fun hs h => ?_) (fun hs h => ?_)
      ·
       have hb79 := hs.1
       obtain ⟨y80, hy80, h⟩ := bind_some h
       obtain ⟨hg81, h⟩ := Zac h
       obtain ⟨o82, rows83, hO, hap84⟩ := hO.append (P := Tryz.prog) Zio (by rw [ZeM]; rfl) (by decide) 1 hg81.1 hg81.2
       replace hap84 := fun (ys : List AV) B L o2 => hap84 (x6_l68.map avF) ys B L o2 (by first | rfl | simp only [List.length_map, List.length_nil, List.length_append, List.length_cons, Nat.zero_add])
       replace hap84 := fun (y : AV) B L o2 => hap84 [y] B L o2 (by first | rfl | simp only [List.length_map, List.length_nil, List.length_cons]) ev
       try simp only [List.mem_singleton, List.mem_cons, List.not_mem_nil, or_false, forall_eq_or_imp, forall_eq, List.map_append, List.map_cons, List.map_nil, Zdu, ZdH, ZdO, ZdC, ZdU, Zdp, Zck, Zcg, ZdL, Zbz, Zbx, Zcf] at hap84
       apply Zal mix 8 2 1 [1, 2, 6, 7] (by kernel_rfl)
       rw [Zaa]; simp +decide only [go_sem, Nat.reduceAdd, hb16, hb18, hb33, hb42, hb57, hb62, hb71, hx76d, hb79, hap84, Za2, ZaC, Zaw]
       (repeat' apply And.intro) <;> first | refine Zaf _ (ih _ _ _ x76.2.2.2.1 _ hy80) (by first | rfl | (simp +decide only [go_sem, Nat.reduceAdd, hb16, hb18, hb33, hb42, hb57, hb62, hb71, hx76d, hb79, hap84, Za2, ZaC, Zaw]; done) | (simp +decide only [go_sem, Nat.reduceAdd, Vl.cs, Ty.cs, hb16, hb18, hb33, hb42, hb57, hb62, hb71, hx76d, hb79, hap84, Za2, ZaC, Zaw]; done)) ?_ | exact cl
       rw [Zaa]; simp +decide only [go_sem, Nat.reduceAdd, hb16, hb18, hb33, hb42, hb57, hb62, hb71, hx76d, hb79, hap84, Za2, ZaC, Zaw]
       (repeat' with_reducible apply And.intro) <;> first | (rw [Zaa]; simp +decide only [go_sem, Nat.reduceAdd, hb16, hb18, hb33, hb42, hb57, hb62, hb71, hx76d, hb79, hap84, Za2, ZaC, Zaw]) | exact cl
       have hs := And.intro hap84 hs
       (repeat' apply And.intro) <;> first | refine hK74 _ _ ⟨(x6_l68 ++ ([(x76.2.1, y80)])), o82, ([.val (.int .i64 x76.1) :: (.val (.string x76.2.1) :: (.val (.int .i64 x76.2.2.1) :: ((x76.2.2.2.1.cs) ++ ([.list (x76.2.2.2.2.map avV) .none]))))]), rows83, ef hs, ef hs, Owns.of_eq (hO) (by first | rfl | simp only [List.length_append, List.length_cons, List.length_nil, List.length_map, Nat.zero_add, Nat.add_zero]), h⟩ | exact cl
      have hb79 := hs.1
      refine rg [1, 2, 6, 7, 8, 117] hs ?_
      refine cnd h hs (fun hs h => ?_) (fun hs h => ?_)
      ·
       have hb86 := hs.1
       obtain ⟨x87, hx87a, hx87b, hx87d, h⟩ := ix avV h
       have hx87e : (x76.2.2.2.2.map avV).getD 0 .junk = _ := hx87d
       obtain ⟨hg88, h⟩ := Zac h
       obtain ⟨o89, rows90, hO, hap91⟩ := hO.append (P := Tryz.prog) Zio (by rw [ZeM]; rfl) (by decide) 1 hg88.1 hg88.2
       replace hap91 := fun (ys : List AV) B L o2 => hap91 (x6_l68.map avF) ys B L o2 (by first | rfl | simp only [List.length_map, List.length_nil, List.length_append, List.length_cons, Nat.zero_add])
       replace hap91 := fun (y : AV) B L o2 => hap91 [y] B L o2 (by first | rfl | simp only [List.length_map, List.length_nil, List.length_cons]) ev
       try simp only [List.mem_singleton, List.mem_cons, List.not_mem_nil, or_false, forall_eq_or_imp, forall_eq, List.map_append, List.map_cons, List.map_nil, Zdu, ZdH, ZdO, ZdC, ZdU, Zdp, Zck, Zcg, ZdL, Zbz, Zbx, Zcf] at hap91
       apply Zal mix 9 1 1 [1, 2, 6, 7] (by kernel_rfl)
       rw [Zaa]; simp +decide only [go_sem, Nat.reduceAdd, hb16, hb18, hb33, hb42, hb57, hb62, hb71, hx76d, hb79, hb86, hx87d, hx87e, hap91, Za2, ZaC, Zaw]
       (repeat' with_reducible apply And.intro) <;> first | (rw [Zaa]; simp +decide only [go_sem, Nat.reduceAdd, hb16, hb18, hb33, hb42, hb57, hb62, hb71, hx76d, hb79, hb86, hx87d, hx87e, hap91, Za2, ZaC, Zaw]) | exact cl
       have hs := And.intro hx87d hs
       have hs := And.intro hx87e hs
       have hs := And.intro hap91 hs
       (repeat' apply And.intro) <;> first | refine hK74 _ _ ⟨(x6_l68 ++ ([(x76.2.1, x87)])), o89, ([.val (.int .i64 x76.1) :: (.val (.string x76.2.1) :: (.val (.int .i64 x76.2.2.1) :: ((x76.2.2.2.1.cs) ++ ([.list (x76.2.2.2.2.map avV) .none]))))]), rows90, ef hs, ef hs, Owns.of_eq (hO) (by first | rfl | simp only [List.length_append, List.length_cons, List.length_nil, List.length_map, Nat.zero_add, Nat.add_zero]), h⟩ | exact cl
      have hb86 := hs.1
      refine sk [1, 2, 6, 7] hs hK74 ?_
      exact ⟨x6_l68, ox6_l68, ([.val (.int .i64 x76.1) :: (.val (.string x76.2.1) :: (.val (.int .i64 x76.2.2.1) :: ((x76.2.2.2.1.cs) ++ ([.list (x76.2.2.2.2.map avV) .none]))))]), Rl68, ef hs, ef hs, Owns.of_eq (hO) (by first | rfl | simp only [List.length_append, List.length_cons, List.length_nil, List.length_map, Nat.zero_add, Nat.add_zero]), h⟩
     ·
      clear h; rintro e st ⟨x6_k73, ox6_k73, Xk73, Rk73, rfl, rfl, hO, h⟩
      rw [Zcd] at h
      have hU := hO.unders
      simp only [List.mem_cons, List.not_mem_nil, or_false, forall_eq_or_imp, forall_eq] at hU
      refine td hN hNR hNL hcalm hO ?_
      obtain ⟨hg92, h⟩ := Zac h
      refine rl [1, 2, 6, 7] hs (fun e s => Vl68 ml68 e s (Nat.lt_succ_self _)) ?_
      exact ⟨x6_k73, (x7_l68 + 1), ox6_k73, ([]), Rk73, ef hs, ef hs, Owns.of_eq (hO) (by first | rfl | simp only [List.length_append, List.length_cons, List.length_nil, List.length_map, Nat.zero_add, Nat.add_zero]), h⟩
    ·
     clear h; rintro e st ⟨x6_k65, ox6_k65, Xk65, Rk65, rfl, rfl, hO, h⟩
     rw [Zfu] at h
     have hU := hO.unders
     simp only [List.mem_cons, List.not_mem_nil, or_false, forall_eq_or_imp, forall_eq] at hU
     refine td hN hNR hNL hcalm hO ?_
     obtain ⟨y94, hy94, h⟩ := bind_some h
     refine rc 2 [2] hs ?_; intro K93 hK93
     refine Zaf _ (Zm2 w0 n _ _ _ x6_k65 _ hy94) (hv hs) ?_
     refine ne hs hK93 ?_
     clear hK93
     exact rt h hs hcalm hO
   have hb62 := hs.1
   refine sk [2, 3] hs hK5 ?_
   exact ⟨0, ((⟨#[]⟩ : ByteArray)), ([]), .full, ([]), Rk8, ef hs, ef hs, Owns.of_eq ((hO).full 6 0) (by first | rfl | simp only [List.length_append, List.length_cons, List.length_nil, List.length_map, Nat.zero_add, Nat.add_zero]), h⟩
 ·
  clear h; rintro e st ⟨b2_k4_1, b2_k4_3, b2_k4_4, ob2_k4_4, Xk4, Rk4, rfl, rfl, hO, h⟩
  rw [ZaL] at h
  have hU := hO.unders
  simp only [List.mem_cons, List.not_mem_nil, or_false, forall_eq_or_imp, forall_eq] at hU
  refine td hN hNR hNL hcalm hO ?_
  refine rg [2] hs ?_
  exact rt h hs hcalm hO
theorem Zgy (w0 : World) : ∀ n : Nat, Zi7 w0 (ZbG n)
 | 0 => fun _ _ _ _ _ h => (nomatch h)
 | n + 1 => ZlW w0 (ZbG n) (Zgy w0 n) n
def Zfr (rec : Ty → Option Int) (n : Nat)  (x3_k26 : Int) : Option Int :=
 some ((if 5000 < x3_k26 then 5000 else x3_k26))
def Zcx (rec : Ty → Option Int) (n : Nat) (a0 : Ty) : Nat → Int → Int → Option Int
 | 0, _, _ => none
 | m + 1, x3_l29, x4_l29 =>
  if decide (x4_l29 < ((a0.fields.length : Int))) then
   (idx a0.fields x4_l29).bind fun x34 =>
   (rec x34.2.2.2.1).bind fun y35 =>
   if I64 (x3_l29 + y35) then
    if I64 (x4_l29 + 1) then
     (Zcx rec n a0 m) (x3_l29 + y35) (x4_l29 + 1)
    else none
   else none
  else
   Zfr rec n x3_l29
def Zdj (rec : Ty → Option Int) (n : Nat) (a0 : Ty) (x3_k6 : Int) : Option Int :=
 Zcx rec n a0 n x3_k6 0
def ZbT (rec : Ty → Option Int) (n : Nat) (a0 : Ty) (x22_k16 : Bool) : Option Int :=
 if x22_k16 then
  Zdj rec n a0 1
 else
  Zdj rec n a0 (1 + (a0.min.tdiv 64))
def Zhs (rec : Ty → Option Int) (n : Nat) (a0 : Ty) : Option Int :=
 if I64 (a0.min.tdiv 64) then
  if I64 (1 + (a0.min.tdiv 64)) then
   if decide (a0.kind = 8) then
    (idx a0.elem 0).bind fun x11 =>
    (rec x11).bind fun y12 =>
    if I64 (a0.min * y12) then
     if I64 (1 + (a0.min * y12)) then
      Zdj rec n a0 (1 + (a0.min * y12))
     else none
    else none
   else
    if decide (a0.kind = 2) then
     ZbT rec n a0 true
    else
     if decide (a0.kind = 3) then
      ZbT rec n a0 true
     else
      if decide (a0.kind = 6) then
       ZbT rec n a0 true
      else
       ZbT rec n a0 (decide (a0.kind = 7))
  else none
 else none
def ZcT : Nat → Ty → Option Int
 | 0, _ => none
 | n + 1, a0 => Zhs (ZcT n) n a0
def Zi9 (w0 : World) (F : Ty → Option Int) : Prop := ∀ (B : List (List AV)) (Rw : List RowA) (L : List LoopA) (a0 : Ty) (r : Int), F a0 = some r → ACalls Tryz.prog w0 23 [.agg (a0.cs)] ⟨B, Rw, L⟩ fun x st => x = .val (.int .i64 r) ∧ st = ⟨B, Rw, L⟩
theorem ZlP (w0 : World) (rec : Ty → Option Int) (ih : Zi9 w0 rec) (n : Nat) : Zi9 w0 (Zhs rec n) := by
 intro B Rw L a0 r h
 rw [Zhs] at h
 refine hd [.tmp 2] Tryz.func23 Tryz.ntmps23 fun M0 W0 hN hNR hNL hcalm hu hO hs => ?_
 simp only [Zat]
 refine rg [1] hs ?_
 obtain ⟨hg3, h⟩ := Zac h
 obtain ⟨hg4, h⟩ := Zac h
 refine rg [1, 3] hs ?_
 refine Zaj (fun e st => ∃ (x3_k6 : Int), Ck e st B Rw L [(1, true, .box B.length 0), (3, true, .val (.int .i64 x3_k6))] [a0.cs] [] (Zdj rec n a0 x3_k6 = some r)) ?_ ?_
 ·
  intro K7 hK7
  refine rg [1, 3, 10] hs ?_
  apply Zad
  refine rg [1, 3, 10, 11] hs ?_
  refine cnd h hs (fun hs h => ?_) (fun hs h => ?_)
  ·
   have hb10 := hs.1
   obtain ⟨x11, hx11a, hx11b, hx11d, h⟩ := ix avT h
   have hx11e : (a0.elem.map avT).getD 0 .junk = _ := hx11d
   obtain ⟨y12, hy12, h⟩ := bind_some h
   obtain ⟨hg13, h⟩ := Zac h
   obtain ⟨hg14, h⟩ := Zac h
   apply Zal mix 10 2 1 [1, 3] (by kernel_rfl)
   rw [Zaa]; simp +decide only [go_sem, Nat.reduceAdd, hb10, hx11d, hx11e]
   have hs := And.intro hx11d hs
   have hs := And.intro hx11e hs
   (repeat' apply And.intro) <;> first | refine Zaf _ (ih _ _ _ x11 _ hy12) (hv hs) ?_ | exact cl
   rw [Zaa]; simp +decide only [go_sem, Nat.reduceAdd, hb10, hx11d, hx11e]
   (repeat' with_reducible apply And.intro) <;> first | (rw [Zaa]; simp +decide only [go_sem, Nat.reduceAdd, hb10, hx11d, hx11e]) | exact cl
   (repeat' apply And.intro) <;> first | refine hK7 _ _ ⟨(1 + (a0.min * y12)), ([]), Rw, ef hs, ef hs, hO, h⟩ | exact cl
  have hb10 := hs.1
  refine Zaj (fun e st => ∃ (x22_k16 : Bool), Ck e st B Rw L [(1, true, .box B.length 0), (3, true, .val (.int .i64 (1 + (a0.min.tdiv 64)))), (22, true, .val (.bool x22_k16))] [a0.cs] [] (ZbT rec n a0 x22_k16 = some r)) ?_ ?_
  ·
   intro K17 hK17
   refine rg [1, 3, 10, 22] hs ?_
   refine cnd h hs (fun hs h => ?_) (fun hs h => ?_)
   ·
    refine sk [1, 3, 22] hs hK17 ?_
    exact ⟨true, ([]), Rw, ef hs, ef hs, hO, h⟩
   refine rg [1, 3, 10, 22] hs ?_
   refine cnd h hs (fun hs h => ?_) (fun hs h => ?_)
   ·
    refine sk [1, 3, 22] hs hK17 ?_
    exact ⟨true, ([]), Rw, ef hs, ef hs, hO, h⟩
   refine rg [1, 3, 10, 22] hs ?_
   refine cnd h hs (fun hs h => ?_) (fun hs h => ?_)
   ·
    refine sk [1, 3, 22] hs hK17 ?_
    exact ⟨true, ([]), Rw, ef hs, ef hs, hO, h⟩
   refine rl [1, 3, 22] hs hK17 ?_
   exact ⟨(decide (a0.kind = 7)), ([]), Rw, ef hs, ef hs, hO, h⟩
  ·
   clear h; rintro e st ⟨x22_k16, Xk16, Rk16, rfl, rfl, hO, h⟩
   rw [ZbT] at h
   refine td hN hNR hNL hcalm hO ?_
   refine cnd h hs (fun hs h => ?_) (fun hs h => ?_)
   ·
    refine rl [1, 3] hs hK7 ?_
    exact ⟨1, ([]), Rk16, ef hs, ef hs, hO, h⟩
   refine sk [1, 3] hs hK7 ?_
   exact ⟨(1 + (a0.min.tdiv 64)), ([]), Rk16, ef hs, ef hs, hO, h⟩
 ·
  clear h; rintro e st ⟨x3_k6, Xk6, Rk6, rfl, rfl, hO, h⟩
  rw [Zdj] at h
  refine td hN hNR hNL hcalm hO ?_
  refine Zaj (fun e st => ∃ (x3_k26 : Int), Ck e st B Rw L [(3, true, .val (.int .i64 x3_k26))] [a0.cs] [] (Zfr rec n x3_k26 = some r)) ?_ ?_
  ·
   intro K27 hK27
   refine rg [1, 3, 4] hs ?_
   apply Zad
   refine Zam (fun m e st => ∃ (x3_l29 : Int) (x4_l29 : Int), Ck e st B Rw L [(1, true, .box B.length 0), (3, true, .val (.int .i64 x3_l29)), (4, true, .val (.int .i64 x4_l29))] [a0.cs] [] (Zcx rec n a0 m x3_l29 x4_l29 = some r)) n ⟨x3_k6, 0, ([]), Rk6, ef hs, ef hs, hO, h⟩ ?_
   rintro ml29 e st ⟨x3_l29, x4_l29, Xl29, Rl29, rfl, rfl, hO, h⟩ Ul29 Vl29
   cases ml29 with
   | zero => cases h
   | succ ml29 =>
   rw [Zcx] at h
   refine td hN hNR hNL hcalm hO ?_
   apply Zab; intro K30 hK30
   refine rg [1, 3, 4, 31] hs ?_
   refine cnd h hs (fun hs h => ?_) (fun hs h => ?_)
   rotate_left
   ·
    refine sx [3] hs hK27 ?_
    exact ⟨x3_l29, ([]), Rl29, ef hs, ef hs, hO, h⟩
   refine sk [1, 3, 4] hs hK30 ?_
   clear hK30
   apply Zab; intro K33 hK33
   apply Zad
   obtain ⟨x34, hx34a, hx34b, hx34d, h⟩ := ix ZeI h
   obtain ⟨y35, hy35, h⟩ := bind_some h
   obtain ⟨hg36, h⟩ := Zac h
   have hs := And.intro hx34d hs
   refine rk 2 [1, 3, 4] hs ?_
   refine Zaf _ (ih _ _ _ x34.2.2.2.1 _ hy35) (hv hs) ?_
   refine ne hs hK33 ?_
   clear hK33
   obtain ⟨hg37, h⟩ := Zac h
   refine rl [1, 3, 4] hs (fun e s => Vl29 ml29 e s (Nat.lt_succ_self _)) ?_
   exact ⟨(x3_l29 + y35), (x4_l29 + 1), ([]), Rl29, ef hs, ef hs, hO, h⟩
  ·
   clear h; rintro e st ⟨x3_k26, Xk26, Rk26, rfl, rfl, hO, h⟩
   rw [Zfr] at h
   refine td hN hNR hNL hcalm hO ?_
   refine rg [2] hs ?_
   exact rt h hs hcalm hO
theorem Zke (w0 : World) : ∀ n : Nat, Zi9 w0 (ZcT n)
 | 0 => fun _ _ _ _ _ h => (nomatch h)
 | n + 1 => ZlP w0 (ZcT n) (Zke w0 n) n
theorem Zk4 : ∀ (l : List ByteArray) (o : Option ByteArray), ZlG o l = 0 → ∀ w ∈ l, Zcu w = true
 | [], _, _, w, hw => by simp at hw
 | x :: r, o, h, w, hw => by
  have key : Zcu x = true ∧ ZlG (some x) r = 0 := by
   by_cases h0 : Zcu x = true
   ·
    refine ⟨h0, ?_⟩
    cases o with
    | none => rw [ZlG, if_pos h0] at h; exact h
    | some p =>
     rw [ZlG, if_pos h0] at h
     by_cases h1 : sEq x p = true
     ·
      rw [if_pos h1] at h; exact absurd h (by decide)
     rw [if_neg h1] at h
     by_cases h2 : sLt x p = true
     ·
      rw [if_pos h2] at h; exact absurd h (by decide)
     rw [if_neg h2] at h; exact h
   ·
    cases o with
    | none => rw [ZlG, if_neg h0] at h; exact absurd h (by decide)
    | some p => rw [ZlG, if_neg h0] at h; exact absurd h (by decide)
  rcases List.mem_cons.1 hw with rfl | hw
  ·
   exact key.1
  ·
   exact Zk4 r _ key.2 w hw
structure Vl.Own (v : Vl) : Prop where
 kind : 1 ≤ v.kind ∧ v.kind ≤ 10
 nolist : v.kind ≠ 8 → v.kind ≠ 10 → v.list = []
 nofields : v.kind ≠ 9 → v.fields = []
 text : v.text.size ≤ 1024
 names : ∀ p ∈ v.fields, p.1.size ≤ 32
theorem Vl.own_of {v : Vl} (h : Zeh v = 0) : v.Own := by
 obtain ⟨k1, k2⟩ := ZgX h
 have hn : ZaI v = false := Zet (by omega)
 have nl : v.kind ≠ 8 → v.kind ≠ 10 → v.list = [] := fun q q' => by
  rcases Nat.eq_zero_or_pos v.list.length with e | e
  ·
   exact List.length_eq_zero_iff.1 e
  ·
   exfalso; apply k2; rw [Zar]; simp [q, q']; omega
 have nf : v.kind ≠ 9 → v.fields = [] := fun q => by
  rcases Nat.eq_zero_or_pos v.fields.length with e | e
  ·
   exact List.length_eq_zero_iff.1 e
  ·
   exfalso; apply k2; rw [Zar]; simp [q]; omega
 have nt : v.kind ≠ 4 → v.kind ≠ 5 → v.kind ≠ 10 → v.text.size = 0 := fun q1 q2 q3 => by
  cases hs : sEq v.text ⟨#[]⟩ with
  | true => exact ZrL hs
  | false => exfalso; apply k2; rw [Zar]; simp [q1, q2, q3, hs]
 rw [Zeh, hn, if_neg (by decide), if_neg k1, if_neg k2] at h
 have nm : v.kind = 9 → ∀ p ∈ v.fields, p.1.size ≤ 32 := fun k9 p hp => by
  rw [if_neg (by omega), if_neg (by omega), if_neg (by omega), if_neg (by omega), if_neg (by omega), if_neg (by omega), if_neg (by omega), if_neg (by omega), if_pos k9] at h
  by_cases q : 64 < v.fields.length
  ·
   rw [if_pos q] at h; exact absurd h (by decide)
  rw [if_neg q] at h
  exact ZlJ (Zk4 _ _ h p.1 (List.mem_map_of_mem hp))
 refine ⟨by omega, nl, nf, ?_, fun p hp => ?_⟩
 ·
  by_cases k4 : v.kind = 4
  ·
   rw [if_neg (by omega), if_neg (by omega), if_neg (by omega), if_pos k4] at h
   by_cases q : 1024 < v.text.size
   ·
    rw [if_pos q] at h; exact absurd h (by decide)
   ·
    omega
  by_cases k5 : v.kind = 5
  ·
   rw [if_neg (by omega), if_neg (by omega), if_neg (by omega), if_neg (by omega), if_pos k5] at h
   by_cases q : 1024 < v.text.size
   ·
    rw [if_pos q] at h; exact absurd h (by decide)
   ·
    omega
  by_cases k10 : v.kind = 10
  ·
   rw [if_neg (by omega), if_neg (by omega), if_neg (by omega), if_neg (by omega), if_neg (by omega), if_neg (by omega), if_neg (by omega), if_neg (by omega), if_neg (by omega)] at h
   by_cases q : Zcu v.text = true
   ·
    have := ZlJ q; omega
   ·
    rw [if_neg q] at h; exact absurd h (by decide)
  ·
   have := nt k4 k5 k10; omega
 ·
  by_cases k9 : v.kind = 9
  ·
   exact nm k9 p hp
  ·
   rw [nf k9] at hp; simp at hp
theorem Vl.Good.own {v : Vl} (h : v.Good) : v.Own := Vl.own_of (Zeu h)
theorem ZpK {v x : Vl} (h : v.Good) (hx : x ∈ v.list) : x.Good := by
 refine ZbJ h ?_
 by_cases k : v.kind = 8 ∨ v.kind = 10
 ·
  rw [ZaM, if_pos k]; exact hx
 ·
  rw [h.own.nolist (by omega) (by omega)] at hx; simp at hx
theorem Zon {v : Vl} {p : ByteArray × Vl} (h : v.Good) (hp : p ∈ v.fields) : p.2.Good := by
 refine ZbJ h ?_
 by_cases k : v.kind = 9
 ·
  rw [ZaM, if_neg (by omega), if_pos k]; exact List.mem_map_of_mem hp
 ·
  rw [h.own.nofields k] at hp; simp at hp
theorem Zn5 : ∀ (k : Nat) (v : Vl), v.size ≤ k → v.Good → v.ok
 | 0, v, h, _ => absurd h (by have := v.size_eq; omega)
 | k + 1, v, h, g => v.ok_eq.2 ⟨by have := g.own.text; omega, fun x hx => Zn5 k x (by have := v.list_size x hx; omega) (ZpK g hx), fun p hp => ⟨by have := g.own.names p hp; omega, Zn5 k p.2 (by have := v.field_size p hp; omega) (Zon g hp)⟩⟩
theorem Zj9 : ∀ (k : Nat) (v : Vl) (lv : Nat), v.size ≤ k → v.Good → (ZfX lv v).length = v.size
 | 0, v, lv, h, _ => absurd h (by have := v.size_eq; omega)
 | k + 1, v, lv, h, g => by
  have own := g.own
  rw [Zgl, List.length_cons, List.length_flatMap]
  have e1 : ((ZaM v).map fun x => (ZfX (lv + 1) x).length) = (ZaM v).map Vl.size := List.map_congr_left fun x hx => Zj9 k x (lv + 1) (by have := Zdl hx; omega) (ZbJ g hx)
  rw [e1]
  have c := v.size_eq
  by_cases k8 : v.kind = 8 ∨ v.kind = 10
  ·
   rw [ZaM, if_pos k8, ← ZjD]
   rw [own.nofields (by omega)] at c
   simp only [Zbo] at c
   omega
  by_cases k9 : v.kind = 9
  ·
   rw [ZaM, if_neg k8, if_pos k9, List.map_map]
   have := Ziu v.fields
   have e : (v.fields.map (Vl.size ∘ fun x => x.2)).sum = Zbo v.fields := this.symm
   rw [own.nolist (by omega) (by omega)] at c
   simp only [Zb5] at c
   omega
  ·
   rw [ZaM, if_neg k8, if_neg k9]
   rw [own.nolist (by omega) (by omega), own.nofields k9] at c
   simp only [Zb5, Zbo] at c
   simp; omega
theorem Vl.depth_part {v x : Vl} (h : x ∈ ZaM v) : x.depth < v.depth := by
 have e := v.depth_eq
 rcases ZjP h with hx | ⟨p, hp, rfl⟩
 ·
  have := (ZfY v.list (Zgm v.list)).1 (Nat.le_refl _) x hx; omega
 ·
  have := (Zhh v.fields (ZfD v.fields)).1 (Nat.le_refl _) p hp; omega
theorem Zrt : ∀ (k : Nat) (v : Vl) (lv : Nat), v.size ≤ k → v.Good → ∀ p ∈ ZfX lv v, Zeh p.2 = 0 ∧ p.1 + 1 ≤ lv + v.depth
 | 0, v, lv, h, _ => absurd h (by have := v.size_eq; omega)
 | k + 1, v, lv, h, g => by
  intro p hp
  rw [Zgl] at hp
  rcases List.mem_cons.1 hp with rfl | hp
  ·
   have := v.depth_eq; exact ⟨Zeu g, by simp only; omega⟩
  ·
   obtain ⟨x, hx, hp⟩ := List.mem_flatMap.1 hp
   have := Zrt k x (lv + 1) (by have := Zdl hx; omega) (ZbJ g hx) p hp
   have := Vl.depth_part hx
   exact ⟨by omega, by omega⟩
theorem Zml : ∀ (l : List (Nat × Vl)) (c : Int), (∀ p ∈ l, Zeh p.2 = 0 ∧ p.1 ≤ 8) → c + l.length ≤ 4096 → ZkK l c = 0
 | [], _, _, _ => rfl
 | p :: r, c, h, hc => by
  have h1 := h p (List.mem_cons_self ..)
  rw [List.length_cons] at hc
  rw [ZkK, if_neg (by omega), if_neg (by omega), if_pos h1.1]
  exact Zml r (c + 1) (fun q hq => h q (List.mem_cons_of_mem _ hq)) (by omega)
theorem ZnQ {v : Vl} (g : v.Good) (hd : v.depth ≤ 8) (hs : v.size ≤ 4096) : Zoj v = 0 := by
 refine Zml _ 0 (fun p hp => ?_) ?_
 ·
  have := Zrt v.size v 1 (Nat.le_refl _) g p hp
  exact ⟨this.1, by omega⟩
 ·
  rw [Zj9 v.size v 1 (Nat.le_refl _) g]; omega
theorem Zlx (k : Nat) (v : Vl) : Zb5 (List.replicate k v) = k * v.size := by
 rw [ZjD, List.map_replicate, List.sum_replicate_nat]
theorem ZjK (r : Ty → Option Int) (n d : Nat) (t : Ty) (hn : t.size + 2000 ≤ n) (ts : t.small) (tf : t.Fine (d + 1))
  (hr : ∀ p ∈ t.fields, ∀ b, r p.2.2.2.1 = some b → 1 ≤ b ∧ b ≤ 4097 ∧ (b ≤ 4096 → ((Zag d p.2.2.2.1).size : Int) = b)) : ∀ (k m i : Nat) (c b : Int), i + k = t.fields.length → k < m → 1 ≤ c → ZaK r n t m c i = some b →
  1 ≤ b ∧ b ≤ 4097 ∧ (b ≤ 4096 → b = c + (Zbo ((t.fields.drop i).filterMap (ZaP (Zag d))) : Int))
 | k, 0, i, _, _, _, h, _, _ => absurd h (Nat.not_lt_zero _)
 | 0, m + 1, i, c, b, hi, _, hc, h => by
  rw [ZaK, Zap, decide_eq_false (by omega), if_neg (by decide), Za1] at h
  have := Option.some.inj h
  rw [List.drop_eq_nil_of_le (by omega)]
  simp only [List.filterMap_nil, Zbo]
  split at this <;> omega
 | k + 1, m + 1, i, c, b, hi, hm, hc, h => by
  have hlt : i < t.fields.length := by omega
  have hmem := List.getElem_mem hlt
  have hts := ts.1
  rw [ZaK, Zap, decide_eq_true hlt, if_pos rfl, Zao hlt, Option.bind_some] at h
  rw [List.drop_eq_getElem_cons hlt]
  by_cases n1 : t.fields[i].2.2.1 = 1
  ·
   rw [decide_eq_true n1, if_pos rfl] at h
   obtain ⟨y, hy, h⟩ := bind_some h
   obtain ⟨_, h⟩ := Zac h
   rw [Zbb] at h
   obtain ⟨_, h⟩ := Zac h
   obtain ⟨y1, y2, y3⟩ := hr _ hmem y hy
   obtain ⟨b1, b2, b3⟩ := ZjK r n d t hn ts tf hr k m (i + 1) (c + y) b (by omega) (by omega) (by omega) h
   refine ⟨b1, b2, fun q => ?_⟩
   have e := b3 q
   have hl : ZaP (Zag d) t.fields[i] = some (t.fields[i].2.1, Zag d t.fields[i].2.2.2.1) := by unfold ZaP; rw [if_pos n1]
   rw [List.filterMap_cons_some hl]
   simp only [Zbo]
   have := y3 (by omega)
   omega
  rw [decide_eq_false n1, if_neg (by decide)] at h
  by_cases n3 : t.fields[i].2.2.1 = 3
  ·
   obtain ⟨v, hv⟩ := List.length_eq_one_iff.1 ((tf.good.own.each _ hmem).2.2.2.2.1 n3)
   have hvm : v ∈ t.fields[i].2.2.2.2 := by rw [hv]; simp
   have gv := Zd7 (tf.dfl hmem v hvm).1
   have hz := (((t.ok_eq.1 ts.2.2).2.2.2 _ hmem).2.2.2 v hvm).1
   rw [decide_eq_true n3, if_pos rfl, hv, show idx [v] 0 = some v from rfl, Option.bind_some, Zpe v (by omega), Option.bind_some, Zj9 v.size v 1 (Nat.le_refl _) gv] at h
   obtain ⟨_, h⟩ := Zac h
   rw [Zbb] at h
   obtain ⟨_, h⟩ := Zac h
   obtain ⟨b1, b2, b3⟩ := ZjK r n d t hn ts tf hr k m (i + 1) (c + v.size) b (by omega) (by omega) (by omega) h
   refine ⟨b1, b2, fun q => ?_⟩
   have e := b3 q
   have hl : ZaP (Zag d) t.fields[i] = some (t.fields[i].2.1, v) := by unfold ZaP; rw [if_neg n1, if_pos n3, hv]; rfl
   rw [List.filterMap_cons_some hl]
   simp only [Zbo]
   omega
  ·
   rw [decide_eq_false n3, if_neg (by decide), Zbb] at h
   obtain ⟨_, h⟩ := Zac h
   have hl : ZaP (Zag d) t.fields[i] = none := by unfold ZaP; rw [if_neg n1, if_neg n3]
   rw [List.filterMap_cons_none hl]
   exact ZjK r n d t hn ts tf hr k m (i + 1) c b (by omega) (by omega) hc h
theorem Zpl : ∀ (n d : Nat) (t : Ty) (b : Int), t.size + 2001 ≤ n → t.small → t.Fine d → Zbq n t = some b → 1 ≤ b ∧ b ≤ 4097 ∧ (b ≤ 4096 → ((Zag d t).size : Int) = b)
 | 0, d, t, b, h, _, _, _ => by omega
 | n + 1, 0, t, b, _, _, h, _ => by cases h
 | n + 1, d + 1, t, b, hn, ts, tf, h => by
  have own := tf.good.own
  have hts := ts.1
  rw [Zbq, ZdV] at h
  have sm : ∀ (k i s : Int) (x : ByteArray), ((Vl.mk k i s x [] []).size : Int) = 1 := fun _ _ _ _ => by simp [Vl.size, Zb5, Zbo]
  by_cases k8 : t.kind = 8
  ·
   obtain ⟨x, hx⟩ := own.elem k8
   have hxm : x ∈ t.elem := by rw [hx]; simp
   have hb := own.bounds (by omega) (by omega)
   rw [k8, Zwl] at hb
   simp only at hb
   have hxs := t.elem_size x hxm
   have ev : Zag (d + 1) t = Vl.mk 8 0 0 ⟨#[]⟩ (List.replicate t.min.toNat (Zag d x)) [] := by
    rw [Zag, if_neg (by omega), if_neg (by omega), if_neg (by omega), if_pos k8, hx]; simp
   have es : ((Zag (d + 1) t).size : Int) = 1 + t.min * (Zag d x).size := by
    rw [ev]
    simp only [Vl.size, Zbo, Zlx]
    push_cast
    rw [Int.toNat_of_nonneg hb.1]
    omega
   rw [decide_eq_true k8, if_pos rfl] at h
   by_cases hm : 0 < t.min
   ·
    rw [decide_eq_true hm, if_pos rfl, hx, show idx [x] 0 = some x from rfl, Option.bind_some] at h
    obtain ⟨y, hy, h⟩ := bind_some h
    obtain ⟨_, h⟩ := Zac h
    obtain ⟨_, h⟩ := Zac h
    obtain ⟨y1, y2, y3⟩ := Zpl n d x y (by omega) (Ty.small_elem ts hxm) (tf.elem hxm) hy
    rw [Za1] at h
    have hbb := Option.some.inj h
    have p1 : 1 * y ≤ t.min * y := Int.mul_le_mul_of_nonneg_right (by omega) (by omega)
    refine ⟨by split at hbb <;> omega, by split at hbb <;> omega, fun q => ?_⟩
    split at hbb
    ·
     omega
    ·
     rw [es, y3 (by omega)]; exact hbb
   ·
    rw [decide_eq_false hm, if_neg (by decide), Za1] at h
    have hbb := Option.some.inj h
    rw [if_neg (by decide)] at hbb
    have : t.min = 0 := by omega
    rw [this] at es
    refine ⟨by omega, by omega, fun _ => by rw [es]; omega⟩
  rw [decide_eq_false k8, if_neg (by decide)] at h
  by_cases k10 : t.kind = 10
  ·
   have hf := own.cases k10
   have hm := List.getElem_mem hf
   have hi : idx t.fields 0 = some t.fields[0] := Zao (k := 0) hf
   have hh : t.fields.head? = some t.fields[0] := by rw [List.head?_eq_getElem?, List.getElem?_eq_getElem hf]
   have ev : Zag (d + 1) t = Vl.mk 10 0 0 t.fields[0].2.1 [Zag d t.fields[0].2.2.2.1] [] := by
    rw [Zag, if_neg (by omega), if_neg (by omega), if_neg (by omega), if_neg k8, if_pos k10, hh]; rfl
   have es : ((Zag (d + 1) t).size : Int) = 1 + (Zag d t.fields[0].2.2.2.1).size := by
    rw [ev]; simp only [Vl.size, Zb5, Zbo]; omega
   rw [decide_eq_true k10, if_pos rfl, hi, Option.bind_some] at h
   obtain ⟨y, hy, h⟩ := bind_some h
   obtain ⟨_, h⟩ := Zac h
   have := t.field_size _ hm
   obtain ⟨y1, y2, y3⟩ := Zpl n d _ y (by omega) (Ty.small_field ts hm) (tf.field hm) hy
   rw [Za1] at h
   have hbb := Option.some.inj h
   refine ⟨by split at hbb <;> omega, by split at hbb <;> omega, fun q => ?_⟩
   split at hbb
   ·
    omega
   ·
    rw [es, y3 (by omega)]; exact hbb
  rw [decide_eq_false k10, if_neg (by decide)] at h
  by_cases k9 : t.kind = 9
  ·
   rw [decide_eq_true k9, if_pos rfl] at h
   obtain ⟨b1, b2, b3⟩ := ZjK (Zbq n) n d t (by omega) ts tf (fun p hp b hb => by
    have := t.field_size p hp
    exact Zpl n d _ b (by omega) (Ty.small_field ts hp) (tf.field hp) hb) t.fields.length n 0 1 b (by omega) (by have := t.lens; omega) (by decide) h
   refine ⟨b1, b2, fun q => ?_⟩
   have ev : Zag (d + 1) t = Vl.mk 9 0 0 ⟨#[]⟩ [] (ZcY (t.fields.filterMap (ZaP (Zag d)))) := by
    rw [Zag, if_neg (by omega), if_neg (by omega), if_neg (by omega), if_neg k8, if_neg k10, if_pos k9]
   rw [ev]
   simp only [Vl.size, Zb5]
   rw [ZhS (ZeT _)]
   have := b3 q
   rw [List.drop_zero] at this
   omega
  ·
   rw [decide_eq_false k9, if_neg (by decide), Za1] at h
   have hbb := Option.some.inj h
   rw [if_neg (by decide)] at hbb
   refine ⟨by omega, by omega, fun _ => ?_⟩
   rw [← hbb, Zag]
   by_cases n2 : t.kind = 2 ∨ t.kind = 3 ∨ t.kind = 6 ∨ t.kind = 7
   ·
    rw [if_pos n2]; exact sm _ _ _ _
   rw [if_neg n2]
   by_cases n4 : t.kind = 4
   ·
    rw [if_pos n4]; exact sm _ _ _ _
   rw [if_neg n4]
   by_cases n5 : t.kind = 5
   ·
    rw [if_pos n5]; exact sm _ _ _ _
   rw [if_neg n5, if_neg k8, if_neg k10, if_neg k9]; exact sm _ _ _ _
theorem Zmt (r : Ty → Option Int) (n : Nat) (t : Ty) : ∀ (m : Nat) (c i b : Int), ZaV r n t m c i = some b → c ≤ b
 | 0, c, i, b, h => by cases h
 | m + 1, c, i, b, h => by
  rw [ZaV] at h
  split at h
  ·
   obtain ⟨_, _, h⟩ := bind_some h
   obtain ⟨y, _, h⟩ := bind_some h
   obtain ⟨_, h⟩ := Zac h
   have := Zmt r n t m _ _ b h
   split at this <;> omega
  ·
   have := Option.some.inj h; omega
theorem Zo9 (r : Ty → Option Int) (n : Nat) (t : Ty) : ∀ (m : Nat) (c i b : Int), Za3 r n t m c i = some b → c ≤ b
 | 0, c, i, b, h => by cases h
 | m + 1, c, i, b, h => by
  rw [Za3] at h
  split at h
  ·
   obtain ⟨_, _, h⟩ := bind_some h
   obtain ⟨y, _, h⟩ := bind_some h
   obtain ⟨_, h⟩ := Zac h
   have := Zo9 r n t m _ _ b h
   split at this <;> omega
  ·
   exact Zmt r n t _ _ _ b h
theorem ZnZ (n : Nat) (t : Ty) (hn : 3000 ≤ n) (ts : t.small) (tf : t.Fine 8) (h : Zc4 n t = some 0) : (Zag 8 t).size ≤ 4096 := by
 have hts := ts.1
 rw [Zc4] at h
 obtain ⟨y, hy, h⟩ := bind_some h
 by_cases h0 : y.1 = 0
 rotate_left
 ·
  rw [decide_eq_false h0, if_pos (by rfl)] at h
  exact absurd (Option.some.inj h) h0
 rw [decide_eq_true h0, if_neg (by decide)] at h
 obtain ⟨a, ha, h⟩ := bind_some h
 by_cases q : 4096 < a
 ·
  rw [decide_eq_true q, if_pos rfl] at h
  exact absurd (Option.some.inj h) (by decide)
 obtain ⟨n', rfl⟩ : ∃ k, n = k + 1 := ⟨n - 1, by omega⟩
 rw [Zbm, Zcq] at ha
 obtain ⟨b, hb, ha⟩ := bind_some ha
 have := Zo9 _ _ _ _ _ _ _ ha
 have := (Zpl n' 8 t b (by omega) ts tf hb).2.2 (by omega)
 omega
def Zda (n : Nat) (a0 : Ty) : Option Bool :=
 (ZdY n ).bind fun y4 =>
 if !y4 then
  (ZdY n ).bind fun y8 =>
  some (y8)
 else
  (Zf1 n a0).bind fun y9 =>
  if !y9 then
   (ZdY n ).bind fun y12 =>
   some (y12)
  else
   (Zee n a0).bind fun y15 =>
   if !(decide (y15 = 0)) then
    (Zey n a0).bind fun y19 =>
    some ((decide (y19.2 = y15)) && (Zcm y19.1))
   else
    (ZcT n a0).bind fun y23 =>
    if decide (1000 < y23) then
     some (true)
    else
     (Zey n a0).bind fun y27 =>
     if decide (y27.2 = 0) then
      (ZbG n a0).bind fun y30 =>
      (ZfU n y27.1 y30).bind fun y31 =>
      if y31 then
       (ZdZ n a0 y27.1).bind fun y33 =>
       if y33 then
        (ZbX n a0 y27.1).bind fun y35 =>
        some (y35)
       else
        some (false)
      else
       some (false)
     else
      some (false)
theorem ZiR (w0 : World) (hP : Pow10 w0) (hT : Lib.Utf8Tabs 0 1 w0) (n : Nat) (B : List (List AV)) (Rw : List RowA) (L : List LoopA) (a0 : Ty) (r : Bool) (h : Zda n a0 = some r) :
  ACalls Tryz.prog w0 5 [.agg (a0.cs)] ⟨B, Rw, L⟩ fun x st => x = .val (.bool r) ∧ st = ⟨B, Rw, L⟩ := by
 rw [Zda] at h
 refine hd [.tmp 2] Tryz.func5 Tryz.ntmps5 fun M0 W0 hN hNR hNL hcalm hu hO hs => ?_
 simp only [Zat]
 refine rg [1] hs ?_
 apply Zab; intro K2 hK2
 apply Zab; intro K3 hK3
 obtain ⟨y4, hy4, h⟩ := bind_some h
 rcases Bool.eq_false_or_eq_true (!y4) with hf5 | hf5
 ·
  replace h := ZaX h hf5
  apply Zae 3 [1, 14]
  rw [Zaa]; simp +decide only [go_sem, Nat.reduceAdd, hf5]
  have hs := And.intro hf5 hs
  (repeat' apply And.intro) <;> first | refine Zaf _ (Zgh w0 hP hT n _ _ _  _ hy4) (hv hs) ?_ | exact cl
  rw [Zaa]; simp +decide only [go_sem, Nat.reduceAdd, hf5]
  (repeat' apply And.intro) <;> first | refine Zax ?_ | exact cl
  rw [Zaa]; simp +decide only [go_sem, Nat.reduceAdd, hf5]
  (repeat' apply And.intro) <;> first | refine hK3 _ _ ?_ | exact cl
  clear hK3
  refine Zau true ev (ef hs) (fun hb6 => ?_) (fun hb6 => by cases hb6)
  obtain ⟨y8, hy8, h⟩ := bind_some h
  refine rc 2 [2] hs ?_; intro K7 hK7
  refine Zaf _ (Zgh w0 hP hT n _ _ _  _ hy8) (hv hs) ?_
  refine ne hs hK7 ?_
  clear hK7
  exact rt h hs hcalm hO
 ·
  replace h := ZaW h hf5
  obtain ⟨y9, hy9, h⟩ := bind_some h
  have hs := And.intro hf5 hs
  refine rk 3 [1, 14] hs ?_
  refine Zaf _ (Zgh w0 hP hT n _ _ _  _ hy4) (hv hs) ?_
  refine nc hs ?_
  refine Zaf _ (Zoo w0 n _ _ _ a0 _ hy9) (hv hs) ?_
  refine ne hs hK3 ?_
  clear hK3
  refine cnd h hs (fun hs h => ?_) (fun hs h => ?_)
  ·
   have hb10 := hs.1
   obtain ⟨y12, hy12, h⟩ := bind_some h
   refine rc 2 [2] hs ?_; intro K11 hK11
   refine Zaf _ (Zgh w0 hP hT n _ _ _  _ hy12) (hv hs) ?_
   refine ne hs hK11 ?_
   clear hK11
   exact rt h hs hcalm hO
  have hb10 := hs.1
  refine sk [1] hs hK2 ?_
  clear hK2
  apply Zab; intro K13 hK13
  obtain ⟨y15, hy15, h⟩ := bind_some h
  refine rc 2 [1, 3] hs ?_; intro K14 hK14
  refine Zaf _ (Zos w0 hT n _ _ _ a0 _ hy15) (hv hs) ?_
  refine ne hs hK14 ?_
  clear hK14
  refine rg [1, 3, 19] hs ?_
  refine cnd h hs (fun hs h => ?_) (fun hs h => ?_)
  ·
   have hb17 := hs.1
   obtain ⟨y19, hy19, h⟩ := bind_some h
   refine rc 2 [3, 4, 5] hs ?_; intro K18 hK18
   refine Zaf _ (ZiQ w0 hT n _ _ _ a0 _ hy19) (hv hs) ?_
   refine ne hs hK18 ?_
   clear hK18
   refine rc 2 [2] hs ?_; intro K20 hK20
   refine Zdx _ (fun _ => ZgE w0 _ _ _ y19.1) (hv hs) ?_
   refine ne hs hK20 ?_
   clear hK20
   exact rt h hs hcalm hO
  have hb17 := hs.1
  refine sk [1] hs hK13 ?_
  clear hK13
  apply Zab; intro K21 hK21
  obtain ⟨y23, hy23, h⟩ := bind_some h
  refine rc 2 [1, 34] hs ?_; intro K22 hK22
  refine Zaf _ (Zke w0 n _ _ _ a0 _ hy23) (hv hs) ?_
  refine ne hs hK22 ?_
  clear hK22
  refine cnd h hs (fun hs h => ?_) (fun hs h => ?_)
  ·
   have hb24 := hs.1
   refine rg [2] hs ?_
   exact rt h hs hcalm hO
  have hb24 := hs.1
  refine sk [1] hs hK21 ?_
  clear hK21
  obtain ⟨y27, hy27, h⟩ := bind_some h
  refine rc 2 [1, 6, 7] hs ?_; intro K26 hK26
  refine Zaf _ (ZiQ w0 hT n _ _ _ a0 _ hy27) (hv hs) ?_
  refine ne hs hK26 ?_
  clear hK26
  apply Zab; intro K28 hK28
  rcases Bool.eq_false_or_eq_true (decide (y27.2 = 0)) with hf29 | hf29
  ·
   replace h := ZaX h hf29
   obtain ⟨y30, hy30, h⟩ := bind_some h
   obtain ⟨y31, hy31, h⟩ := bind_some h
   rcases Bool.eq_false_or_eq_true (y31) with hf32 | hf32
   ·
    replace h := ZaX h hf32
    obtain ⟨y33, hy33, h⟩ := bind_some h
    rcases Bool.eq_false_or_eq_true (y33) with hf34 | hf34
    ·
     replace h := ZaX h hf34
     obtain ⟨y35, hy35, h⟩ := bind_some h
     apply Zal mix 19 5 1 [2] (by kernel_rfl)
     rw [Zaa]; simp +decide only [go_sem, Nat.reduceAdd, hf5, hb10, hb17, hb24, hf29, hf32, hf34]
     have hs := And.intro hf29 hs
     have hs := And.intro hf32 hs
     have hs := And.intro hf34 hs
     (repeat' apply And.intro) <;> first | refine Zaf _ (Zgy w0 n _ _ _ a0 _ hy30) (hv hs) ?_ | exact cl
     rw [Zaa]; simp +decide only [go_sem, Nat.reduceAdd, hf5, hb10, hb17, hb24, hf29, hf32, hf34]
     (repeat' apply And.intro) <;> first | refine Zaf _ (ZhP w0 n _ _ _ y27.1 y30 _ hy31) (hv hs) ?_ | exact cl
     rw [Zaa]; simp +decide only [go_sem, Nat.reduceAdd, hf5, hb10, hb17, hb24, hf29, hf32, hf34]
     (repeat' apply And.intro) <;> first | refine Zaf _ (ZgO w0 hT n _ _ _ a0 y27.1 _ hy33) (hv hs) ?_ | exact cl
     rw [Zaa]; simp +decide only [go_sem, Nat.reduceAdd, hf5, hb10, hb17, hb24, hf29, hf32, hf34]
     (repeat' apply And.intro) <;> first | refine Zaf _ (ZiA w0 hT n _ _ _ a0 y27.1 _ hy35) (hv hs) ?_ | exact cl
     rw [Zaa]; simp +decide only [go_sem, Nat.reduceAdd, hf5, hb10, hb17, hb24, hf29, hf32, hf34]
     (repeat' with_reducible apply And.intro) <;> first | (rw [Zaa]; simp +decide only [go_sem, Nat.reduceAdd, hf5, hb10, hb17, hb24, hf29, hf32, hf34]) | exact cl
     (repeat' apply And.intro) <;> first | refine hK28 _ _ ?_ | exact cl
     clear hK28
     exact rt h hs hcalm hO
    ·
     replace h := ZaW h hf34
     apply Zal mix 19 5 1 [2] (by kernel_rfl)
     rw [Zaa]; simp +decide only [go_sem, Nat.reduceAdd, hf5, hb10, hb17, hb24, hf29, hf32, hf34]
     have hs := And.intro hf29 hs
     have hs := And.intro hf32 hs
     have hs := And.intro hf34 hs
     (repeat' apply And.intro) <;> first | refine Zaf _ (Zgy w0 n _ _ _ a0 _ hy30) (hv hs) ?_ | exact cl
     rw [Zaa]; simp +decide only [go_sem, Nat.reduceAdd, hf5, hb10, hb17, hb24, hf29, hf32, hf34]
     (repeat' apply And.intro) <;> first | refine Zaf _ (ZhP w0 n _ _ _ y27.1 y30 _ hy31) (hv hs) ?_ | exact cl
     rw [Zaa]; simp +decide only [go_sem, Nat.reduceAdd, hf5, hb10, hb17, hb24, hf29, hf32, hf34]
     (repeat' apply And.intro) <;> first | refine Zaf _ (ZgO w0 hT n _ _ _ a0 y27.1 _ hy33) (hv hs) ?_ | exact cl
     rw [Zaa]; simp +decide only [go_sem, Nat.reduceAdd, hf5, hb10, hb17, hb24, hf29, hf32, hf34]
     (repeat' apply And.intro) <;> first | refine Zax ?_ | exact cl
     rw [Zaa]; simp +decide only [go_sem, Nat.reduceAdd, hf5, hb10, hb17, hb24, hf29, hf32, hf34]
     (repeat' with_reducible apply And.intro) <;> first | (rw [Zaa]; simp +decide only [go_sem, Nat.reduceAdd, hf5, hb10, hb17, hb24, hf29, hf32, hf34]) | exact cl
     (repeat' apply And.intro) <;> first | refine hK28 _ _ ?_ | exact cl
     clear hK28
     exact rt h hs hcalm hO
   ·
    replace h := ZaW h hf32
    apply Zal mix 19 5 1 [2] (by kernel_rfl)
    rw [Zaa]; simp +decide only [go_sem, Nat.reduceAdd, hf5, hb10, hb17, hb24, hf29, hf32]
    have hs := And.intro hf29 hs
    have hs := And.intro hf32 hs
    (repeat' apply And.intro) <;> first | refine Zaf _ (Zgy w0 n _ _ _ a0 _ hy30) (hv hs) ?_ | exact cl
    rw [Zaa]; simp +decide only [go_sem, Nat.reduceAdd, hf5, hb10, hb17, hb24, hf29, hf32]
    (repeat' apply And.intro) <;> first | refine Zaf _ (ZhP w0 n _ _ _ y27.1 y30 _ hy31) (hv hs) ?_ | exact cl
    rw [Zaa]; simp +decide only [go_sem, Nat.reduceAdd, hf5, hb10, hb17, hb24, hf29, hf32]
    (repeat' apply And.intro) <;> first | refine Zax ?_ | exact cl
    rw [Zaa]; simp +decide only [go_sem, Nat.reduceAdd, hf5, hb10, hb17, hb24, hf29, hf32]
    (repeat' apply And.intro) <;> first | refine Zax ?_ | exact cl
    rw [Zaa]; simp +decide only [go_sem, Nat.reduceAdd, hf5, hb10, hb17, hb24, hf29, hf32]
    (repeat' with_reducible apply And.intro) <;> first | (rw [Zaa]; simp +decide only [go_sem, Nat.reduceAdd, hf5, hb10, hb17, hb24, hf29, hf32]) | exact cl
    (repeat' apply And.intro) <;> first | refine hK28 _ _ ?_ | exact cl
    clear hK28
    exact rt h hs hcalm hO
  ·
   replace h := ZaW h hf29
   apply Zal mix 19 5 1 [2] (by kernel_rfl)
   rw [Zaa]; simp +decide only [go_sem, Nat.reduceAdd, hf5, hb10, hb17, hb24, hf29]
   (repeat' apply And.intro) <;> first | refine Zax ?_ | exact cl
   rw [Zaa]; simp +decide only [go_sem, Nat.reduceAdd, hf5, hb10, hb17, hb24, hf29]
   (repeat' apply And.intro) <;> first | refine Zax ?_ | exact cl
   rw [Zaa]; simp +decide only [go_sem, Nat.reduceAdd, hf5, hb10, hb17, hb24, hf29]
   (repeat' apply And.intro) <;> first | refine Zax ?_ | exact cl
   rw [Zaa]; simp +decide only [go_sem, Nat.reduceAdd, hf5, hb10, hb17, hb24, hf29]
   (repeat' apply And.intro) <;> first | refine Zax ?_ | exact cl
   rw [Zaa]; simp +decide only [go_sem, Nat.reduceAdd, hf5, hb10, hb17, hb24, hf29]
   (repeat' with_reducible apply And.intro) <;> first | (rw [Zaa]; simp +decide only [go_sem, Nat.reduceAdd, hf5, hb10, hb17, hb24, hf29]) | exact cl
   (repeat' apply And.intro) <;> first | refine hK28 _ _ ?_ | exact cl
   clear hK28
   have hs := And.intro hf29 hs
   exact rt h hs hcalm hO
theorem ZhU (b : UInt8) : ∀ k, Lib.repeatL [b] k = List.replicate k b
 | 0 => rfl
 | k + 1 => by rw [Lib.repeatL, ZhU b k, List.replicate_succ]; rfl
theorem Zxn (k : Nat) : aS k ++ ⟨#[97]⟩ = aS (k + 1) := by
 apply ByteArray.ext
 show (aS k ++ (⟨#[97]⟩ : ByteArray)).data = _
 rw [ByteArray.data_append]
 show (List.replicate k (97 : UInt8)).toArray ++ #[97] = (List.replicate (k + 1) (97 : UInt8)).toArray
 rw [List.replicate_succ', ← List.append_toArray]
theorem Zra {α β : Type} (f : α → Option β) (l : List α) (i : Nat) (h : i < l.length) : (l.take (i + 1)).filterMap f = (l.take i).filterMap f ++ (match f l[i] with | some y => [y] | none => []) := by
 rw [List.take_succ_eq_append_getElem h, List.filterMap_append]
 cases hf : f l[i] with
 | none => rw [List.filterMap_cons_none hf]; rfl
 | some y => rw [List.filterMap_cons_some hf]; rfl
theorem Zlp {d : Nat} {t : Ty} (tf : t.Fine (d + 1)) (k9 : t.kind = 9) (hs : (Zag (d + 1) t).size ≤ 4096) : Zbo (t.fields.filterMap (ZaP (Zag d))) + 1 ≤ 4096 ∧ ∀ p ∈ t.fields, p.2.2.1 = 1 → (Zag d p.2.2.2.1).size ≤ 4095 := by
 have ev : Zag (d + 1) t = Vl.mk 9 0 0 ⟨#[]⟩ [] (ZcY (t.fields.filterMap (ZaP (Zag d)))) := by
  rw [Zag, if_neg (by omega), if_neg (by omega), if_neg (by omega), if_neg (by omega), if_neg (by omega), if_pos k9]
 rw [ev] at hs
 simp only [Vl.size, Zb5] at hs
 rw [ZhS (ZeT _)] at hs
 refine ⟨by omega, fun p hp n1 => ?_⟩
 have hm : (p.2.1, Zag d p.2.2.2.1) ∈ t.fields.filterMap (ZaP (Zag d)) := List.mem_filterMap.2 ⟨p, hp, by unfold ZaP; rw [if_pos n1]⟩
 have := Zhi _ _ hm
 simp only at this
 omega
theorem Zo0 {d : Nat} {t : Ty} (tf : t.Fine (d + 1)) : ((t.fields.filterMap (ZaP (Zag d))).map Prod.fst).Nodup := (Zkk _ _ _ tf.good.own.apart).1.sublist (ZlO _ _)
theorem ZnT {d : Nat} {t : Ty} (ts : t.small) (tf : t.Fine (d + 1)) : ∀ q ∈ t.fields.filterMap (ZaP (Zag d)), q.2.Good ∧ q.1.size ≤ 32 := fun q hq => by
 obtain ⟨p, hp, e1⟩ := List.mem_filterMap.1 hq
 refine ⟨?_, by rw [Zf4 e1]; exact ZlJ (tf.good.own.each p hp).1⟩
 unfold ZaP at e1
 by_cases h1 : p.2.2.1 = 1
 ·
  rw [if_pos h1] at e1
  rw [← Option.some.inj e1]
  exact (Zib d 12 _ (Ty.small_field ts hp) (tf.field hp) (Ty.small_field ts hp).2.1).1
 rw [if_neg h1] at e1
 by_cases h3 : p.2.2.1 = 3
 ·
  rw [if_pos h3] at e1
  obtain ⟨v, hv, e2⟩ := Option.map_eq_some_iff.1 e1
  rw [← e2]
  exact Zd7 (tf.dfl hp v (List.mem_of_mem_head? hv)).1
 ·
  rw [if_neg h3] at e1; cases e1
theorem ZhJ {d : Nat} (l : List TF) (i : Nat) : ((l.take i).filterMap (ZaP (Zag d))).length ≤ l.length := Nat.le_trans (List.length_filterMap_le _ _) (by rw [List.length_take]; omega)
theorem Zuu (r : Ty → Option Vl) (n : Nat) (t x : Ty) (v : Vl) (hx : idx t.elem 0 = some x) (hr : r x = some v) (k : Nat) (hk : t.min = k) (hk2 : k ≤ 1000) : ∀ (j m i : Nat), i + j = k → j < m → ZcN r n t m (List.replicate i v) i = Zft n (List.replicate k v)
 | j, 0, i, _, h => absurd h (Nat.not_lt_zero _)
 | 0, m + 1, i, hi, _ => by
  rw [ZcN, hk, Zap, decide_eq_false (by omega), if_neg (by decide), Zff, show i = k by omega]
  cases Zft n (List.replicate k v) <;> rfl
 | j + 1, m + 1, i, hi, hm => by
  rw [ZcN, hk, Zap, decide_eq_true (by omega), if_pos rfl, hx, Option.bind_some, hr, Option.bind_some, if_pos (by rw [List.length_replicate]; omega), if_pos (Zaq (by omega)), ← List.replicate_succ']
  exact Zuu r n t x v hx hr k hk hk2 j m (i + 1) (by omega) (by omega)
theorem Zt0 (r : Ty → Option Vl) (n d : Nat) (t : Ty) (hn : t.size + 5000 ≤ n) (ts : t.small) (tf : t.Fine (d + 1)) (hr : ∀ p ∈ t.fields, p.2.2.1 = 1 → r p.2.2.2.1 = some (Zag d p.2.2.2.1)) : ∀ (k m i : Nat), i + k = t.fields.length → k < m →
  ZbL r n t m ((t.fields.take i).filterMap (ZaP (Zag d))) i = Zd1 n (t.fields.filterMap (ZaP (Zag d)))
 | k, 0, i, _, h => absurd h (Nat.not_lt_zero _)
 | 0, m + 1, i, hi, _ => by
  rw [ZbL, Zap, decide_eq_false (by omega), if_neg (by decide), Zgn, List.take_of_length_le (by omega)]
  cases Zd1 n (t.fields.filterMap (ZaP (Zag d))) <;> rfl
 | k + 1, m + 1, i, hi, hm => by
  have hlt : i < t.fields.length := by omega
  have hts := ts.1
  have hl := t.lens
  have hmem := List.getElem_mem hlt
  have hlen := ZhJ (d := d) t.fields i
  have ih := Zt0 r n d t hn ts tf hr k m (i + 1) (by omega) (by omega)
  rw [Zra _ _ _ hlt] at ih
  rw [ZbL, Zap, decide_eq_true hlt, if_pos rfl, Zao hlt, Option.bind_some]
  by_cases n1 : t.fields[i].2.2.1 = 1
  ·
   have hlf : ZaP (Zag d) t.fields[i] = some (t.fields[i].2.1, Zag d t.fields[i].2.2.2.1) := by unfold ZaP; rw [if_pos n1]
   rw [hlf] at ih
   rw [decide_eq_true n1, if_pos rfl, hr _ hmem n1, Option.bind_some, if_pos (by omega), ZcJ, if_pos (Zaq (by omega))]
   exact ih
  rw [decide_eq_false n1, if_neg (by decide)]
  by_cases n3 : t.fields[i].2.2.1 = 3
  ·
   obtain ⟨v, hv⟩ := List.length_eq_one_iff.1 ((tf.good.own.each _ hmem).2.2.2.2.1 n3)
   have hlf : ZaP (Zag d) t.fields[i] = some (t.fields[i].2.1, v) := by unfold ZaP; rw [if_neg n1, if_pos n3, hv]; rfl
   have hz := (((t.ok_eq.1 ts.2.2).2.2.2 _ hmem).2.2.2 v (by rw [hv]; simp)).1
   rw [hlf] at ih
   rw [decide_eq_true n3, if_pos rfl, hv, show idx [v] 0 = some v from rfl, Option.bind_some, ZdD n v (by omega) (by omega), Option.bind_some, if_pos (by omega), ZcJ, if_pos (Zaq (by omega))]
   exact ih
  ·
   have hlf : ZaP (Zag d) t.fields[i] = none := by unfold ZaP; rw [if_neg n1, if_neg n3]
   rw [hlf] at ih
   rw [decide_eq_false n3, if_neg (by decide), ZcJ, if_pos (Zaq (by omega))]
   simp only [List.append_nil] at ih
   exact ih
theorem ZiI : ∀ (n d : Nat) (t : Ty), t.size + 6000 ≤ n → t.small → t.Fine d → (Zag d t).size ≤ 4096 → Zc7 n t = some (Zag d t)
 | 0, d, t, h, _, _, _ => by omega
 | n + 1, 0, t, _, _, h, _ => by cases h
 | n + 1, d + 1, t, hn, ts, tf, hs => by
  have own := tf.good.own
  have hts := ts.1
  have hl := t.lens
  have hk := own.kind
  rw [Zc7, ZiB]
  have e0 : Zdv (Zc7 n) n t true = some (Vl.mk t.kind (Zeo t) t.scale ⟨#[]⟩ [] []) := rfl
  by_cases n2 : t.kind = 2 ∨ t.kind = 3 ∨ t.kind = 6 ∨ t.kind = 7
  ·
   have ev : Zag (d + 1) t = Vl.mk t.kind (Zeo t) t.scale ⟨#[]⟩ [] [] := by rw [Zag, if_pos n2]
   rw [ev]
   rcases n2 with k | k | k | k
   ·
    rw [decide_eq_true k, if_pos rfl]; exact e0
   ·
    rw [decide_eq_false (show ¬ t.kind = 2 by omega), if_neg (by decide), decide_eq_true k, if_pos rfl]; exact e0
   ·
    rw [decide_eq_false (show ¬ t.kind = 2 by omega), if_neg (by decide), decide_eq_false (show ¬ t.kind = 3 by omega), if_neg (by decide), decide_eq_true k, if_pos rfl]; exact e0
   ·
    rw [decide_eq_false (show ¬ t.kind = 2 by omega), if_neg (by decide), decide_eq_false (show ¬ t.kind = 3 by omega), if_neg (by decide), decide_eq_false (show ¬ t.kind = 6 by omega), if_neg (by decide), decide_eq_true k]; exact e0
  rw [decide_eq_false (show ¬ t.kind = 2 by omega), if_neg (by decide), decide_eq_false (show ¬ t.kind = 3 by omega), if_neg (by decide), decide_eq_false (show ¬ t.kind = 6 by omega), if_neg (by decide), decide_eq_false (show ¬ t.kind = 7 by omega), Zdv, if_neg (by decide)]
  by_cases n4 : t.kind = 4
  ·
   have ev : Zag (d + 1) t = Vl.mk 4 0 0 (t.words.head?.getD (aS t.min.toNat)) [] [] := by rw [Zag, if_neg n2, if_pos n4]
   rw [ev, decide_eq_true n4, if_pos rfl]
   match hw : t.words with
   | w :: r => rw [if_pos (by simp), show idx (w :: r) 0 = some w from rfl]; rfl
   | [] =>
    have hb := own.bounds (by omega) (by rw [hw]; simp)
    rw [n4, show Zah 4 = (0, 1024) from rfl] at hb
    simp only at hb
    have hz : (⟨#[97]⟩ : ByteArray).size = 1 := rfl
    rw [if_neg (by simp), if_pos (by rw [hz]; omega), show (⟨#[97]⟩ : ByteArray).data.toList = [97] from rfl, ZhU]
    rfl
  rw [decide_eq_false n4, if_neg (by decide)]
  by_cases n5 : t.kind = 5
  ·
   have ev : Zag (d + 1) t = Vl.mk 5 0 0 (ZjA t.min.toNat) [] [] := by rw [Zag, if_neg n2, if_neg n4, if_pos n5]
   have hb := own.bounds (by omega) (by omega)
   rw [n5, show Zah 5 = (0, 1024) from rfl] at hb
   simp only at hb
   have hz : (⟨#[0]⟩ : ByteArray).size = 1 := rfl
   rw [ev, decide_eq_true n5, if_pos rfl, if_pos (by rw [hz]; omega), show (⟨#[0]⟩ : ByteArray).data.toList = [0] from rfl, ZhU]
   rfl
  rw [decide_eq_false n5, if_neg (by decide)]
  by_cases n8 : t.kind = 8
  ·
   obtain ⟨x, hx⟩ := own.elem n8
   have hxm : x ∈ t.elem := by rw [hx]; simp
   have hb := own.bounds (by omega) (by omega)
   rw [n8, Zwl] at hb
   simp only at hb
   have ev : Zag (d + 1) t = Vl.mk 8 0 0 ⟨#[]⟩ (List.replicate t.min.toNat (Zag d x)) [] := by
    rw [Zag, if_neg n2, if_neg n4, if_neg n5, if_pos n8, hx]; simp
   rw [ev] at hs ⊢
   rw [decide_eq_true n8, if_pos rfl]
   have fin : Zft n (List.replicate t.min.toNat (Zag d x)) = some (Vl.mk 8 0 0 ⟨#[]⟩ (List.replicate t.min.toNat (Zag d x)) []) := by
    rw [Zft, ZdD n _ (by omega) (by omega)]; rfl
   by_cases hm : t.min = 0
   ·
    obtain ⟨n', rfl⟩ : ∃ k, n = k + 1 := ⟨n - 1, by omega⟩
    rw [ZcN, hm, if_neg (by decide), Zff]
    rw [hm] at fin
    have fin' : Zft (n' + 1) [] = _ := fin
    rw [fin']; rfl
   ·
    have hxs := t.elem_size x hxm
    have hsx : (Zag d x).size ≤ 4096 := by
     simp only [Vl.size, Zbo, Zlx] at hs
     have : 1 * (Zag d x).size ≤ t.min.toNat * (Zag d x).size := Nat.mul_le_mul_right _ (by omega)
     omega
    have e := Zuu (Zc7 n) n t x (Zag d x) (by rw [hx]; rfl) (ZiI n d x (by omega) (Ty.small_elem ts hxm) (tf.elem hxm) hsx) t.min.toNat (by omega) (by omega) t.min.toNat n 0 (by omega) (by omega)
    rw [List.replicate_zero] at e
    exact e.trans fin
  rw [decide_eq_false n8, if_neg (by decide)]
  by_cases n10 : t.kind = 10
  ·
   have hf := own.cases n10
   have hm := List.getElem_mem hf
   have hi : idx t.fields 0 = some t.fields[0] := Zao (k := 0) hf
   have hh : t.fields.head? = some t.fields[0] := by rw [List.head?_eq_getElem?, List.getElem?_eq_getElem hf]
   have ev : Zag (d + 1) t = Vl.mk 10 0 0 t.fields[0].2.1 [Zag d t.fields[0].2.2.2.1] [] := by
    rw [Zag, if_neg n2, if_neg n4, if_neg n5, if_neg n8, if_pos n10, hh]; rfl
   have hfs := t.field_size _ hm
   rw [ev] at hs ⊢
   have hs2 := hs
   simp only [Vl.size, Zb5, Zbo] at hs2
   rw [decide_eq_true n10, if_pos rfl, hi, Option.bind_some, ZiI n d _ (by omega) (Ty.small_field ts hm) (tf.field hm) (by omega), Option.bind_some, Zgk, ZdD n _ (by omega) (by omega)]
   rfl
  rw [decide_eq_false n10, if_neg (by decide)]
  by_cases n9 : t.kind = 9
  ·
   have ev : Zag (d + 1) t = Vl.mk 9 0 0 ⟨#[]⟩ [] (ZcY (t.fields.filterMap (ZaP (Zag d)))) := by
    rw [Zag, if_neg n2, if_neg n4, if_neg n5, if_neg n8, if_neg n10, if_pos n9]
   obtain ⟨q1, q2⟩ := Zlp tf n9 hs
   have e := Zt0 (Zc7 n) n d t (by omega) ts tf (fun p hp n1 => by
    have := t.field_size p hp
    exact ZiI n d _ (by omega) (Ty.small_field ts hp) (tf.field hp) (by have := q2 p hp n1; omega)) t.fields.length n 0 (by omega) (by omega)
   rw [List.take_zero, List.filterMap_nil] at e
   have e' : ZbL (Zc7 n) n t n [] 0 = _ := e
   rw [decide_eq_true n9, if_pos rfl, e', ev]
   exact Zpt n _ (by omega) (by omega) (fun q hq => Zet (by have := ZkW (ZnT ts tf q hq).1; omega)) (Zo0 tf)
  ·
   rw [decide_eq_false n9, if_neg (by decide), Zhl, Zag, if_neg n2, if_neg n4, if_neg n5, if_neg n8, if_neg n10, if_neg n9]
theorem ZtW (r : Ty → Option Vl) (n : Nat) (t : Ty) (k : Nat) (hk : t.min = k) (hk2 : k ≤ 2000) : ∀ (j m i : Nat), i + j = k → j < m → Zcc r n t m i (aS i) = ZaL r n t 0 (aS k) []
 | j, 0, i, _, h => absurd h (Nat.not_lt_zero _)
 | 0, m + 1, i, hi, _ => by
  rw [Zcc, hk, Zap, decide_eq_false (by omega), if_neg (by decide), show i = k by omega]
 | j + 1, m + 1, i, hi, hm => by
  have hz : (⟨#[97]⟩ : ByteArray).size = 1 := rfl
  have hz2 : (aS i).size = i := by show (List.replicate i (97 : UInt8)).toArray.size = _; simp
  rw [Zcc, hk, Zap, decide_eq_true (by omega), if_pos rfl, if_pos (by rw [hz, hz2]; omega), if_pos (Zaq (by omega)), Zxn]
  exact ZtW r n t k hk hk2 j m (i + 1) (by omega) (by omega)
theorem ZuF (r : Ty → Option Vl) (n : Nat) (t x : Ty) (v : Vl) (hx : idx t.elem 0 = some x) (hr : r x = some v) (k : Nat) (hk : t.min = k) (hk2 : k ≤ 1000) : ∀ (j m i : Nat), i + j = k → j < m → Zb8 r n t m i (List.replicate i v) = ZaL r n t 0 ⟨#[]⟩ (List.replicate k v)
 | j, 0, i, _, h => absurd h (Nat.not_lt_zero _)
 | 0, m + 1, i, hi, _ => by
  rw [Zb8, hk, Zap, decide_eq_false (by omega), if_neg (by decide), show i = k by omega]
 | j + 1, m + 1, i, hi, hm => by
  rw [Zb8, hk, Zap, decide_eq_true (by omega), if_pos rfl, hx, Option.bind_some, hr, Option.bind_some, if_pos (by rw [List.length_replicate]; omega), if_pos (Zaq (by omega)), ← List.replicate_succ']
  exact ZuF r n t x v hx hr k hk hk2 j m (i + 1) (by omega) (by omega)
theorem Zuf (r : Ty → Option Vl) (n d : Nat) (t : Ty) (hn : t.size + 5000 ≤ n) (ts : t.small) (tf : t.Fine (d + 1)) (hr : ∀ p ∈ t.fields, p.2.2.1 = 1 → r p.2.2.2.1 = some (Zag d p.2.2.2.1)) : ∀ (k m i : Nat), i + k = t.fields.length → k < m →
  Zbu r n t m ((t.fields.take i).filterMap (ZaP (Zag d))) i = Zdf n (t.fields.filterMap (ZaP (Zag d)))
 | k, 0, i, _, h => absurd h (Nat.not_lt_zero _)
 | 0, m + 1, i, hi, _ => by
  rw [Zbu, Zap, decide_eq_false (by omega), if_neg (by decide), Zfu, List.take_of_length_le (by omega)]
  cases Zdf n (t.fields.filterMap (ZaP (Zag d))) <;> rfl
 | k + 1, m + 1, i, hi, hm => by
  have hlt : i < t.fields.length := by omega
  have hts := ts.1
  have hl := t.lens
  have hmem := List.getElem_mem hlt
  have hlen := ZhJ (d := d) t.fields i
  have ih := Zuf r n d t hn ts tf hr k m (i + 1) (by omega) (by omega)
  rw [Zra _ _ _ hlt] at ih
  rw [Zbu, Zap, decide_eq_true hlt, if_pos rfl, Zao hlt, Option.bind_some]
  by_cases n1 : t.fields[i].2.2.1 = 1
  ·
   have hlf : ZaP (Zag d) t.fields[i] = some (t.fields[i].2.1, Zag d t.fields[i].2.2.2.1) := by unfold ZaP; rw [if_pos n1]
   rw [hlf] at ih
   rw [decide_eq_true n1, if_pos rfl, hr _ hmem n1, Option.bind_some, if_pos (by omega), Zcd, if_pos (Zaq (by omega))]
   exact ih
  rw [decide_eq_false n1, if_neg (by decide)]
  by_cases n3 : t.fields[i].2.2.1 = 3
  ·
   obtain ⟨v, hv⟩ := List.length_eq_one_iff.1 ((tf.good.own.each _ hmem).2.2.2.2.1 n3)
   have hlf : ZaP (Zag d) t.fields[i] = some (t.fields[i].2.1, v) := by unfold ZaP; rw [if_neg n1, if_pos n3, hv]; rfl
   rw [hlf] at ih
   rw [decide_eq_true n3, if_pos rfl, hv, show idx [v] 0 = some v from rfl, Option.bind_some, if_pos (by omega), Zcd, if_pos (Zaq (by omega))]
   exact ih
  ·
   have hlf : ZaP (Zag d) t.fields[i] = none := by unfold ZaP; rw [if_neg n1, if_neg n3]
   rw [hlf] at ih
   rw [decide_eq_false n3, if_neg (by decide), Zcd, if_pos (Zaq (by omega))]
   simp only [List.append_nil] at ih
   exact ih
theorem Zsq (t : Ty) (h : t.min ≤ t.max) : (if t.min < (if t.max < 0 then t.max else 0) then (if t.max < 0 then t.max else 0) else t.min) = Zeo t := by
 unfold Zeo
 (repeat' split) <;> omega
theorem Zim : ∀ (n d : Nat) (t : Ty), t.size + 6000 ≤ n → t.small → t.Fine d → (Zag d t).size ≤ 4096 → ZbG n t = some (Zag d t)
 | 0, d, t, h, _, _, _ => by omega
 | n + 1, 0, t, _, _, h, _ => by cases h
 | n + 1, d + 1, t, hn, ts, tf, hs => by
  have own := tf.good.own
  have hts := ts.1
  have hl := t.lens
  have hk := own.kind
  rw [ZbG, ZhE]
  by_cases n2 : t.kind = 2 ∨ t.kind = 3 ∨ t.kind = 6 ∨ t.kind = 7
  ·
   have ev : Zag (d + 1) t = Vl.mk t.kind (Zeo t) t.scale ⟨#[]⟩ [] [] := by rw [Zag, if_pos n2]
   have hb := own.bounds (by omega) (by omega)
   have e0 : Zcj (ZbG n) n t true = some (Vl.mk t.kind (Zeo t) t.scale ⟨#[]⟩ [] []) := by
    rw [Zcj, if_pos rfl, ZaL, Zsq t (by omega)]
   rw [ev]
   rcases n2 with k | k | k | k
   ·
    rw [decide_eq_true k, if_pos rfl]; exact e0
   ·
    rw [decide_eq_false (show ¬ t.kind = 2 by omega), if_neg (by decide), decide_eq_true k, if_pos rfl]; exact e0
   ·
    rw [decide_eq_false (show ¬ t.kind = 2 by omega), if_neg (by decide), decide_eq_false (show ¬ t.kind = 3 by omega), if_neg (by decide), decide_eq_true k, if_pos rfl]; exact e0
   ·
    rw [decide_eq_false (show ¬ t.kind = 2 by omega), if_neg (by decide), decide_eq_false (show ¬ t.kind = 3 by omega), if_neg (by decide), decide_eq_false (show ¬ t.kind = 6 by omega), if_neg (by decide), decide_eq_true k]; exact e0
  have hsc := own.noscale (by omega)
  rw [decide_eq_false (show ¬ t.kind = 2 by omega), if_neg (by decide), decide_eq_false (show ¬ t.kind = 3 by omega), if_neg (by decide), decide_eq_false (show ¬ t.kind = 6 by omega), if_neg (by decide), decide_eq_false (show ¬ t.kind = 7 by omega), Zcj, if_neg (by decide)]
  by_cases n4 : t.kind = 4
  ·
   have ev : Zag (d + 1) t = Vl.mk 4 0 0 (t.words.head?.getD (aS t.min.toNat)) [] [] := by rw [Zag, if_neg n2, if_pos n4]
   rw [ev, decide_eq_true n4, if_pos rfl]
   match hw : t.words with
   | w :: r => rw [if_pos (by simp), show idx (w :: r) 0 = some w from rfl, Option.bind_some, ZaL, hsc, n4]; rfl
   | [] =>
    have hb := own.bounds (by omega) (by rw [hw]; simp)
    rw [n4, show Zah 4 = (0, 1024) from rfl] at hb
    simp only at hb
    have e := ZtW (ZbG n) n t t.min.toNat (by omega) (by omega) t.min.toNat n 0 (by omega) (by omega)
    have e' : Zcc (ZbG n) n t n 0 ⟨#[]⟩ = _ := e
    rw [if_neg (by simp), e', ZaL, hsc, n4]; rfl
  rw [decide_eq_false n4, if_neg (by decide)]
  by_cases n5 : t.kind = 5
  ·
   have ev : Zag (d + 1) t = Vl.mk 5 0 0 (ZjA t.min.toNat) [] [] := by rw [Zag, if_neg n2, if_neg n4, if_pos n5]
   have hb := own.bounds (by omega) (by omega)
   rw [n5, show Zah 5 = (0, 1024) from rfl] at hb
   simp only at hb
   rw [ev, decide_eq_true n5, if_pos rfl]
   by_cases hm : t.min = 0
   ·
    rw [decide_eq_true hm, if_pos rfl, if_pos (by decide), ZaL, hsc, n5, hm]; rfl
   ·
    rw [decide_eq_false hm, if_neg (by decide), if_pos (by omega), if_pos (by omega), ZaL, hsc, n5]
  rw [decide_eq_false n5, if_neg (by decide)]
  by_cases n8 : t.kind = 8
  ·
   obtain ⟨x, hx⟩ := own.elem n8
   have hxm : x ∈ t.elem := by rw [hx]; simp
   have hb := own.bounds (by omega) (by omega)
   rw [n8, Zwl] at hb
   simp only at hb
   have ev : Zag (d + 1) t = Vl.mk 8 0 0 ⟨#[]⟩ (List.replicate t.min.toNat (Zag d x)) [] := by
    rw [Zag, if_neg n2, if_neg n4, if_neg n5, if_pos n8, hx]; simp
   rw [ev] at hs ⊢
   rw [decide_eq_true n8, if_pos rfl]
   have fin : ZaL (ZbG n) n t 0 ⟨#[]⟩ (List.replicate t.min.toNat (Zag d x)) = some (Vl.mk 8 0 0 ⟨#[]⟩ (List.replicate t.min.toNat (Zag d x)) []) := by
    rw [ZaL, hsc, n8]
   by_cases hm : t.min = 0
   ·
    obtain ⟨n', rfl⟩ : ∃ k, n = k + 1 := ⟨n - 1, by omega⟩
    rw [Zb8, hm, if_neg (by decide)]
    rw [hm] at fin
    exact fin
   ·
    have hxs := t.elem_size x hxm
    have hsx : (Zag d x).size ≤ 4096 := by
     simp only [Vl.size, Zbo, Zlx] at hs
     have : 1 * (Zag d x).size ≤ t.min.toNat * (Zag d x).size := Nat.mul_le_mul_right _ (by omega)
     omega
    have e := ZuF (ZbG n) n t x (Zag d x) (by rw [hx]; rfl) (Zim n d x (by omega) (Ty.small_elem ts hxm) (tf.elem hxm) hsx) t.min.toNat (by omega) (by omega) t.min.toNat n 0 (by omega) (by omega)
    rw [List.replicate_zero] at e
    exact e.trans fin
  rw [decide_eq_false n8, if_neg (by decide)]
  by_cases n10 : t.kind = 10
  ·
   have hf := own.cases n10
   have hm := List.getElem_mem hf
   have hi : idx t.fields 0 = some t.fields[0] := Zao (k := 0) hf
   have hh : t.fields.head? = some t.fields[0] := by rw [List.head?_eq_getElem?, List.getElem?_eq_getElem hf]
   have ev : Zag (d + 1) t = Vl.mk 10 0 0 t.fields[0].2.1 [Zag d t.fields[0].2.2.2.1] [] := by
    rw [Zag, if_neg n2, if_neg n4, if_neg n5, if_neg n8, if_pos n10, hh]; rfl
   have hfs := t.field_size _ hm
   rw [ev] at hs ⊢
   have hs2 := hs
   simp only [Vl.size, Zb5, Zbo] at hs2
   rw [decide_eq_true n10, if_pos rfl, hi, Option.bind_some, Zim n d _ (by omega) (Ty.small_field ts hm) (tf.field hm) (by omega), Option.bind_some, ZaL, hsc, n10]
  rw [decide_eq_false n10, if_neg (by decide)]
  by_cases n9 : t.kind = 9
  ·
   have ev : Zag (d + 1) t = Vl.mk 9 0 0 ⟨#[]⟩ [] (ZcY (t.fields.filterMap (ZaP (Zag d)))) := by
    rw [Zag, if_neg n2, if_neg n4, if_neg n5, if_neg n8, if_neg n10, if_pos n9]
   obtain ⟨q1, q2⟩ := Zlp tf n9 hs
   have e := Zuf (ZbG n) n d t (by omega) ts tf (fun p hp n1 => by
    have := t.field_size p hp
    exact Zim n d _ (by omega) (Ty.small_field ts hp) (tf.field hp) (by have := q2 p hp n1; omega)) t.fields.length n 0 (by omega) (by omega)
   rw [List.take_zero, List.filterMap_nil] at e
   have e' : Zbu (ZbG n) n t n [] 0 = _ := e
   have hln := ZeW (t.fields.filterMap (ZaP (Zag d)))
   rw [decide_eq_true n9, if_pos rfl, e', ev]
   exact ZnO n _ (by omega) (by omega) (fun q hq => ZpV (by have := ZkW (ZnT ts tf q hq).1; omega)) (fun q hq => Zg2 (by have := (ZnT ts tf q hq).2; omega)) (Zo0 tf)
  ·
   rw [decide_eq_false n9, if_neg (by decide), ZaL, hsc, Zag, if_neg n2, if_neg n4, if_neg n5, if_neg n8, if_neg n10, if_neg n9]
theorem ZuJ (r : Ty → Option Int) (n : Nat) (t : Ty) (hl : t.fields.length ≤ 64) (hr : ∀ p ∈ t.fields, ∃ b, r p.2.2.2.1 = some b ∧ 1 ≤ b ∧ b ≤ 5000) : ∀ (k m i : Nat) (c : Int), i + k = t.fields.length → k < m → 1 ≤ c → c ≤ 2000000 + 5000 * i → ∃ b, Zcx r n t m c i = some b ∧ 1 ≤ b ∧ b ≤ 5000
 | k, 0, i, _, _, h, _, _ => absurd h (Nat.not_lt_zero _)
 | 0, m + 1, i, c, hi, _, h1, h2 => by
  rw [Zcx, Zap, decide_eq_false (by omega), if_neg (by decide), Zfr]
  refine ⟨_, rfl, ?_, ?_⟩ <;> split <;> omega
 | k + 1, m + 1, i, c, hi, hm, h1, h2 => by
  have hlt : i < t.fields.length := by omega
  obtain ⟨b, e, b1, b2⟩ := hr _ (List.getElem_mem hlt)
  rw [Zcx, Zap, decide_eq_true hlt, if_pos rfl, Zao hlt, Option.bind_some, e, Option.bind_some, if_pos (by unfold I64; omega), if_pos (Zaq (by omega))]
  exact ZuJ r n t hl hr k m (i + 1) (c + b) (by omega) (by omega) (by omega) (by omega)
theorem Zjg : ∀ (n : Nat) (t : Ty), t.size + 2000 ≤ n → t.small → t.Good → ∃ b, ZcT n t = some b ∧ 1 ≤ b ∧ b ≤ 5000
 | 0, t, h, _, _ => by omega
 | n + 1, t, hn, ts, gt => by
  have own := gt.own
  have hts := ts.1
  have hl := t.lens
  have hk := own.kind
  have hfl := own.fields
  have k6 : ∀ c, 1 ≤ c → c ≤ 2000000 → ∃ b, Zdj (ZcT n) n t c = some b ∧ 1 ≤ b ∧ b ≤ 5000 := fun c h1 h2 => by
   rw [Zdj]
   exact ZuJ (ZcT n) n t own.fields (fun p hp => by
    have := t.field_size p hp
    exact Zjg n _ (by omega) (Ty.small_field ts hp) (Zbw gt hp)) t.fields.length n 0 c (by omega) (by omega) h1 (by omega)
  have hmin : -62135596800000 ≤ t.min ∧ t.min ≤ 999999999999999 ∧ (t.kind ≠ 2 → t.kind ≠ 3 → t.kind ≠ 6 → t.kind ≠ 7 → 0 ≤ t.min ∧ t.min ≤ 1024) ∨ (t.kind = 2 ∨ t.kind = 3) ∧ -999999999999999 ≤ t.min ∧ t.min ≤ 999999999999999 := by
   by_cases q : 2 ≤ t.kind ∧ t.kind ≤ 8
   ·
    by_cases w : t.kind = 4 ∧ 0 < t.words.length
    ·
     have := own.words w.1 w.2; omega
    ·
     have hb := own.bounds q w
     have cs : t.kind = 2 ∨ t.kind = 3 ∨ t.kind = 4 ∨ t.kind = 5 ∨ t.kind = 6 ∨ t.kind = 7 ∨ t.kind = 8 := by omega
     rcases cs with k | k | k | k | k | k | k <;> rw [k] at hb
     ·
      rw [show Zah 2 = (-999999999999999, 999999999999999) from rfl] at hb; simp only at hb; omega
     ·
      rw [show Zah 3 = (-999999999999999, 999999999999999) from rfl] at hb; simp only at hb; omega
     ·
      rw [show Zah 4 = (0, 1024) from rfl] at hb; simp only at hb; omega
     ·
      rw [show Zah 5 = (0, 1024) from rfl] at hb; simp only at hb; omega
     ·
      rw [show Zah 6 = (-719162, 2932896) from rfl] at hb; simp only at hb; omega
     ·
      rw [show Zah 7 = (-62135596800000, 253402300799999) from rfl] at hb; simp only at hb; omega
     ·
      rw [Zwl] at hb; simp only at hb; omega
   ·
    have := own.nobounds q; omega
  have hq : -999999999999999 ≤ t.min.tdiv 64 ∧ t.min.tdiv 64 ≤ 999999999999999 := by
   rcases Int.lt_or_le t.min 0 with s | s
   ·
    have e : t.min.tdiv 64 = - ((-t.min).tdiv 64) := by rw [Int.neg_tdiv, Int.neg_neg]
    rw [e, Int.tdiv_eq_ediv_of_nonneg (show 0 ≤ -t.min by omega)]
    omega
   ·
    rw [Int.tdiv_eq_ediv_of_nonneg s]; omega
  rw [ZcT, Zhs, if_pos (by unfold I64; omega), if_pos (by unfold I64; omega)]
  by_cases k8 : t.kind = 8
  ·
   obtain ⟨x, hx⟩ := own.elem k8
   have hxm : x ∈ t.elem := by rw [hx]; simp
   have hxs := t.elem_size x hxm
   obtain ⟨b, e, b1, b2⟩ := Zjg n x (by omega) (Ty.small_elem ts hxm) (ZeX gt hxm)
   have hb := own.bounds (by omega) (by omega)
   rw [k8, Zwl] at hb
   simp only at hb
   have p1 : 0 ≤ t.min * b := Int.mul_nonneg (by omega) (by omega)
   have p2 : t.min * b ≤ 256 * 5000 := Int.mul_le_mul (by omega) b2 (by omega) (by decide)
   rw [decide_eq_true k8, if_pos rfl, hx, show idx [x] 0 = some x from rfl, Option.bind_some, e, Option.bind_some, if_pos (by unfold I64; omega), if_pos (by unfold I64; omega)]
   exact k6 _ (by omega) (by omega)
  rw [decide_eq_false k8, if_neg (by decide)]
  have e0 : ∃ b, ZbT (ZcT n) n t true = some b ∧ 1 ≤ b ∧ b ≤ 5000 := by
   rw [ZbT, if_pos rfl]; exact k6 1 (by decide) (by decide)
  by_cases n2 : t.kind = 2
  ·
   rw [decide_eq_true n2, if_pos rfl]; exact e0
  rw [decide_eq_false n2, if_neg (by decide)]
  by_cases n3 : t.kind = 3
  ·
   rw [decide_eq_true n3, if_pos rfl]; exact e0
  rw [decide_eq_false n3, if_neg (by decide)]
  by_cases n6 : t.kind = 6
  ·
   rw [decide_eq_true n6, if_pos rfl]; exact e0
  rw [decide_eq_false n6, if_neg (by decide)]
  by_cases n7 : t.kind = 7
  ·
   rw [decide_eq_true n7]; exact e0
  ·
   rw [decide_eq_false n7, ZbT, if_neg (by decide)]
   have h0 : 0 ≤ t.min ∧ t.min ≤ 1024 := by omega
   rw [Int.tdiv_eq_ediv_of_nonneg h0.1]
   exact k6 _ (by omega) (by omega)
theorem Zn3 (n : Nat) (hn : 100000 ≤ n) (t : Ty) : Zda n t = some true := by
 have kn := ZtM n (by omega)
 rw [Zda, kn]
 simp only [Option.bind_some, Bool.not_true, Bool.false_eq_true, if_false]
 obtain ⟨b, e, hb⟩ := ZsZ n (by omega) t
 rw [e]
 simp only [Option.bind_some]
 cases b with
 | false => rfl
 | true =>
 have ts := hb rfl
 have hts := ts.1
 obtain ⟨c, c1, c2, _⟩ := ZmT n t (by omega) ts
 simp only [Bool.not_true, Bool.false_eq_true, if_false]
 rw [c2, Option.bind_some]
 by_cases h : c = 0
 rotate_left
 ·
  rw [decide_eq_false h, if_pos (by rfl), Zey, c1, Option.bind_some, decide_eq_false h, if_pos (by rfl), Option.bind_some]
  simp only [decide_true, Bool.true_and]
  rfl
 subst h
 obtain ⟨gt, tf, _⟩ := ZpW n t (by omega) ts c2
 have hs := ZnZ n t (by omega) ts tf c1
 obtain ⟨w, w1, _, _⟩ := Zjg n t (by omega) ts gt
 rw [decide_eq_true (rfl : (0 : Int) = 0), if_neg (by decide), w1, Option.bind_some]
 by_cases hh : 1000 < w
 ·
  rw [if_pos (decide_eq_true hh)]
 rw [if_neg (by rw [decide_eq_true_eq]; exact hh)]
 have eS : Zey n t = some (Zag 8 t, 0) := by
  rw [Zey, c1, Option.bind_some, decide_eq_true (rfl : (0 : Int) = 0), if_neg (by decide), ZiI n 8 t (by omega) ts tf hs]; rfl
 obtain ⟨g, hh2⟩ := Zib 8 12 t ts tf ts.2.1
 have hok := Zn5 _ _ (Nat.le_refl _) g
 have hdep := Zhn 12 t _ gt g hh2
 have hd8 := tf.depth
 have hchk := ZnQ g (by omega) hs
 obtain ⟨q, q1, q2⟩ := Zp1 n (Zag 8 t) (Zag 8 t) (by omega) (by omega) hok hok
 have eA : ZbX n t (Zag 8 t) = some true := by
  rw [Zlm (by omega) (by omega) (by omega) ts hok gt, hchk, hh2]; rfl
 obtain ⟨y, y1, y2⟩ := ZtZ n t (Zag 8 t) (by omega) (by omega) (by omega) ts hok gt
 rw [eA] at y2
 have eB : ZdZ n t (Zag 8 t) = some true := by
  rw [ZdZ, c1, Option.bind_some, decide_eq_true (rfl : (0 : Int) = 0), if_pos rfl, y1, ← y2]; rfl
 rw [eS, Option.bind_some, Zim n 8 t (by omega) ts tf hs]
 simp only [decide_true, if_true, Option.bind_some]
 rw [q1, Option.bind_some, q2.2 rfl, if_pos rfl, eB, Option.bind_some, if_pos rfl, eA]
 rfl
end Go.Proofs.YtggimoedcamonaaGreatDoor
