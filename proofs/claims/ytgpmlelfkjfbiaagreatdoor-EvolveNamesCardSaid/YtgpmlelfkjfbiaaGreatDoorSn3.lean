/-
  Part 3 of the proof: rules and walks that the claim's last text uses.
-/
import Derived.Lib.AppendZeros
import Derived.Lib.Bytealg
import Derived.Shelf.SlSortCmp.NoneTotal
import Derived.Shelf.SlSortCmp.WholeK
import Derived.Shelf.SlicesE.Clone
import Derived.Sort.Lot0
import Derived.Test.YtgpmlelfkjfbiaaGreatDoorProg
import Derived.Test.YtgpmlelfkjfbiaaGreatDoorRows
import Derived.Test.YtgpmlelfkjfbiaaGreatDoorSn2
set_option linter.unusedSimpArgs false
set_option linter.unusedVariables false
set_option maxRecDepth 100000
set_option maxHeartbeats 4000000
namespace Go.Proofs.YtgpmlelfkjfbiaaGreatDoor
open Go Go.RowKit Go.Ev
def Zlw : List AV := [.val .nilFunc, .clo 108 [], .clo 110 [], .clo 111 [], .clo 113 [], .clo 116 [], .clo 117 [], .clo 118 [], .clo 119 [], .clo 120 [], .clo 121 []]
theorem ZpV (w0 : World) (B : List (List AV)) (Rw : List RowA) (L : List LoopA)  :
  ACalls Tryz.prog w0 60 [] ⟨B, Rw, L⟩ fun r st => r = .agg Zlw ∧ st = ⟨B, Rw, L⟩ := by
 refine ACalls.finP (Zb4 (rs := [.cell 0 92]) Tryz.func60 rfl rfl Tryz.ntmps60 (Zax Tryz.func60 rfl (by decide)) (Nat.le_of_ble_eq_true rfl) ?_)
 intro M0 W0 hN hNR hNL hcalm hu
 simp only [Zal]
 apply Zac; intro K1 hK1
 apply Zab 1 [0]
 rw [Zaa]; simp +decide only [go_sem, ZaW, Zat, Zar, ZbZ, List.getElem?_cons_zero, List.getElem?_cons_succ, List.nil_append, List.cons_append]
 (repeat' apply And.intro) <;> first | refine hK1 _ _ ?_ | (intros; omega) | (intros; simp_all; done) | (intros; simp only [Bool.or_eq_false_iff, Bool.or_eq_true, Bool.and_eq_true, Bool.and_eq_false_iff, decide_eq_true_eq, decide_eq_false_iff_not, bne_iff_ne] at *; omega)
 clear hK1
 apply Zac; intro K2 hK2
 apply Zab 1 [0]
 rw [Zaa]; simp +decide only [go_sem, ZaW, Zat, Zar, ZbZ, List.getElem?_cons_zero, List.getElem?_cons_succ, List.nil_append, List.cons_append]
 (repeat' apply And.intro) <;> first | refine hK2 _ _ ?_ | (intros; omega) | (intros; simp_all; done) | (intros; simp only [Bool.or_eq_false_iff, Bool.or_eq_true, Bool.and_eq_true, Bool.and_eq_false_iff, decide_eq_true_eq, decide_eq_false_iff_not, bne_iff_ne] at *; omega)
 clear hK2
 apply Zaj; simp +decide only [go_sem]
 refine Zh6 hcalm (by first | exact List.prefix_append _ _ | exact List.prefix_refl _ | (rw [List.append_assoc]; exact List.prefix_append _ _)) (by first | exact List.prefix_append _ _ | exact List.prefix_refl _ | (rw [List.append_assoc]; exact List.prefix_append _ _)) (by first | exact List.prefix_append _ _ | exact List.prefix_refl _ | (rw [List.append_assoc]; exact List.prefix_append _ _)) (by simp +decide only [go_sem]) ⟨?_, rfl⟩
 rfl
end Go.Proofs.YtgpmlelfkjfbiaaGreatDoor
namespace Go.Ev
open Go Go.RowKit
section
universe u v
variable {α : Type u} {β : Type v} {r : β}
theorem Zae {c : Prop} [Decidable c] {x : Option β} (h : (if c then x else none) = some r) : c ∧ x = some r := by
 by_cases q : c
 ·
  rw [if_pos q] at h; exact ⟨q, h⟩
 ·
  rw [if_neg q] at h; cases h
theorem bind_some {o : Option α} {f : α → Option β} (h : o.bind f = some r) : ∃ x, o = some x ∧ f x = some r := by
 cases o with
 | none => cases h
 | some x => exact ⟨x, rfl, h⟩
theorem ZaC {b : Bool} {x y : β} (h : (if b = true then x else y) = r) (hb : b = true) : x = r := by rwa [if_pos hb] at h
theorem ZaD {b : Bool} {x y : β} (h : (if b = true then x else y) = r) (hb : b = false) : y = r := by rwa [if_neg (by simp [hb])] at h
def idx (xs : List α) (i : Int) : Option α := if 0 ≤ i then xs[i.toNat]? else none
theorem Zam {xs : List α} {i : Int} {x : α} (h : idx xs i = some x) : 0 ≤ i ∧ i < xs.length ∧ xs[i.toNat]? = some x := by
 unfold idx at h
 obtain ⟨h1, h2⟩ := Zae h
 have := (List.getElem?_eq_some_iff.1 h2).1
 exact ⟨h1, by omega, h2⟩
theorem Zao {f : α → AV} {xs : List α} {i : Nat} {x : α} (h : xs[i]? = some x) : (xs.map f).getD i .junk = f x := by simp [List.getD, h]
end
abbrev I64 (n : Int) : Prop := -9223372036854775808 ≤ n ∧ n ≤ 9223372036854775807
theorem Zbf {nb nr nl nb' nr' nl' : Nat} {x : AV} (h1 : nb ≤ nb') (h2 : nr ≤ nr') (h3 : nl ≤ nl') (h : Under nb nr nl x) : Under nb' nr' nl' x := by
 induction h with
 | val v => exact .val v
 | list h ho ih => exact .list ih (by rename_i o; cases o <;> first | trivial | exact Nat.lt_of_lt_of_le ho h2)
 | elem h ih => exact .elem ih
 | box h => exact .box (by omega)
 | clo h ih => exact .clo ih
 | agg h ih => exact .agg ih
 | tup h ih => exact .tup ih
 | yld h => exact .yld (by omega)
 | vec h => exact .vec (by omega)
 | vel h => exact .vel (by omega)
def OwnsAt (lo : Nat) (ho : Own) (rows : List RowA) (x : Nat × Nat × Own) : Prop := x.2.2 = .full ∨ ∃ id, x.2.2 = .row id ∧ (lo ≤ id ∨ ho = .row id) ∧ rows[id]? = some (.grow x.2.1 x.1)
inductive VO where
 | nil
 | row (id ver : Nat)
def hdr : VO → Nat → AV
 | .nil, _ => .list [] .seed
 | .row id ver, n => .vec id ver 0 n
abbrev VE := VO × Nat × List AV
def VAt (lo : Nat) (rows : List RowA) (x : VE) : Prop := (x.1 = .nil ∧ x.2.2 = []) ∨ ∃ id ver, x.1 = .row id ver ∧ lo ≤ id ∧ rows[id]? = some (.vec ver x.2.1 x.2.2)
def ZsB (v : List VE) (i : Nat) : Prop := ∀ x ∈ v, ∀ ver, x.1 ≠ .row i ver
theorem ZiO (i : Nat) : ZsB [] i := fun _ h => (nomatch h)
structure Owns (Rw rows : List RowA) (l : List (Nat × Nat × Own)) (ho : Own := .none) (v : List VE := []) : Prop where
 len : Rw.length ≤ rows.length
 keep : ∀ i, i < Rw.length → ho ≠ .row i → rows[i]? = Rw[i]?
 calm : ∀ i r, rows[i]? = some r → (Rw.length ≤ i ∨ ho = .row i) → ZsB v i → r.cells = []
 each : ∀ x ∈ l, OwnsAt Rw.length ho rows x
 apart : l.Pairwise fun x y => ∀ id, x.2.2 = .row id → y.2.2 ≠ .row id
 veach : ∀ x ∈ v, VAt Rw.length rows x
 vapart : v.Pairwise fun x y => ∀ id a b, x.1 = .row id a → y.1 ≠ .row id b
section
variable {Rw rows : List RowA} {l : List (Nat × Nat × Own)} {ho : Own} {v : List VE}
theorem Owns.none (Rw : List RowA) : Owns Rw Rw [] := by
 refine ⟨Nat.le_refl _, fun _ _ _ => rfl, fun i r h q _ => ?_, by simp, .nil, by simp, .nil⟩
 have := (List.getElem?_eq_some_iff.1 h).1
 rcases q with q | q
 ·
  omega
 ·
  cases q
theorem Owns.pre (h : Owns Rw rows l .none v) : Rw <+: rows := by
 rw [List.prefix_iff_getElem?]
 intro i hi
 rw [h.keep i hi (fun q => by cases q), List.getElem?_eq_getElem hi]
theorem Owns.sub {l' : List (Nat × Nat × Own)} (h : Owns Rw rows l ho v) (hs : l'.Sublist l) : Owns Rw rows l' ho v :=
 ⟨h.len, h.keep, h.calm, fun x hx => h.each x (hs.subset hx), h.apart.sublist hs, h.veach, h.vapart⟩
theorem Owns.full (h : Owns Rw rows l ho v) (sz n : Nat) : Owns Rw rows ((sz, n, .full) :: l) ho v :=
 ⟨h.len, h.keep, h.calm, fun x hx => by
  rcases List.mem_cons.1 hx with rfl | hx
  ·
   exact .inl rfl
  ·
   exact h.each x hx, List.pairwise_cons.2 ⟨fun _ _ id q => (nomatch q), h.apart⟩, h.veach, h.vapart⟩
theorem VAt.up {lo : Nat} {x : VE} (h : VAt lo rows x) (r : List RowA) : VAt lo (rows ++ r) x := by
 rcases h with h | ⟨id, ver, h1, h2, h3⟩
 ·
  exact .inl h
 ·
  exact .inr ⟨id, ver, h1, h2, by rw [List.getElem?_append_left (List.getElem?_eq_some_iff.1 h3).1]; exact h3⟩
theorem VAt.set {lo : Nat} {x : VE} (h : VAt lo rows x) {i : Nat} (hi : ∀ ver, x.1 ≠ .row i ver) (r : RowA) : VAt lo (rows.set i r) x := by
 rcases h with h | ⟨id, ver, h1, h2, h3⟩
 ·
  exact .inl h
 ·
  exact .inr ⟨id, ver, h1, h2, by rw [List.getElem?_set_ne (fun (e : i = id) => hi ver (by rw [e]; exact h1))]; exact h3⟩
theorem Owns.make (h : Owns Rw rows l ho v) (sz n : Nat) : Owns Rw (rows ++ [.grow n sz]) ((sz, n, .row rows.length) :: l) ho v := by
 have hl := h.len
 refine ⟨by simp; omega, fun i hi hn => ?_, fun i r hr q qv => ?_, fun x hx => ?_, List.pairwise_cons.2 ⟨fun y hy id q k => ?_, h.apart⟩, fun x hx => (h.veach x hx).up _, h.vapart⟩
 ·
  rw [List.getElem?_append_left (by omega)]; exact h.keep i hi hn
 ·
  by_cases hi : i < rows.length
  ·
   rw [List.getElem?_append_left hi] at hr; exact h.calm i r hr q qv
  ·
   rw [List.getElem?_append_right (by omega)] at hr
   have := List.mem_of_getElem? hr
   simp only [List.mem_singleton] at this; subst this; rfl
 ·
  rcases List.mem_cons.1 hx with rfl | hx
  ·
   exact .inr ⟨_, rfl, .inl hl, by simp⟩
  ·
   rcases h.each x hx with q | ⟨id, q1, q2, q3⟩
   ·
    exact .inl q
   ·
    exact .inr ⟨id, q1, q2, by rw [List.getElem?_append_left (List.getElem?_eq_some_iff.1 q3).1]; exact q3⟩
 ·
  rcases h.each y hy with q' | ⟨id', q1, q2, q3⟩
  ·
   rw [q'] at k; cases k
  ·
   rw [q1] at k; cases k; cases q
   exact absurd (List.getElem?_eq_some_iff.1 q3).1 (Nat.lt_irrefl _)
theorem Owns.unders (h : Owns Rw rows l ho v) : ∀ x ∈ l, x.2.2.under rows.length := fun x hx => by
 rcases h.each x hx with q | ⟨id, q1, q2, q3⟩
 ·
  rw [q]; trivial
 ·
  rw [q1]; exact (List.getElem?_eq_some_iff.1 q3).1
theorem Owns.of_eq {l' : List (Nat × Nat × Own)} (h : Owns Rw rows l ho v) (he : l = l') : Owns Rw rows l' ho v := he ▸ h
theorem Owns.swap {l' : List (Nat × Nat × Own)} (h : Owns Rw rows l ho v) (hp : l.Perm l') : Owns Rw rows l' ho v :=
 ⟨h.len, h.keep, h.calm, fun x hx => h.each x (hp.mem_iff.2 hx), (hp.pairwise_iff (R := fun x y : Nat × Nat × Own => ∀ id, x.2.2 = .row id → y.2.2 ≠ .row id) (fun q id a b => q id b a)).1 h.apart, h.veach, h.vapart⟩
theorem Owns.grow_off (h : Owns Rw rows l ho v) {sz n id : Nat} (hx : (sz, n, Own.row id) ∈ l) : ZsB v id := by
 intro x hv ver e
 rcases h.each _ hx with q | ⟨id', q1, q2, q3⟩
 ·
  cases q
 ·
  cases q1
  rcases h.veach x hv with w | ⟨id2, ver2, w1, w2, w3⟩
  ·
   rw [w.1] at e; cases e
  ·
   rw [w1] at e; cases e
   rw [w3] at q3; cases q3
end
theorem ZgK {Rw rows : List RowA} (h : Rw <+: rows) {id : Nat} (hi : Rw.length ≤ id) (x : RowA) : Rw <+: rows.set id x := by
 obtain ⟨t, rfl⟩ := h
 rw [List.set_append_right _ _ hi]
 exact List.prefix_append _ _
theorem Owns.more {Rw rows : List RowA} {l : List (Nat × Nat × Own)} {ho : Own} {v : List VE} {sz n id : Nat} (h : Owns Rw rows ((sz, n, .row id) :: l) ho v) (m : Nat) : Owns Rw (rows.set id (.grow m sz)) ((sz, m, .row id) :: l) ho v := by
 have hoff := h.grow_off (List.mem_cons_self ..)
 obtain ⟨h0, h1, h2, h3, h4, h5, h6⟩ := h
 obtain ⟨hid, hrow⟩ : (Rw.length ≤ id ∨ ho = .row id) ∧ rows[id]? = some (.grow n sz) := by
  rcases h3 _ (List.mem_cons_self ..) with q | ⟨id', q1, q2, q3⟩
  ·
   cases q
  ·
   cases q1; exact ⟨q2, q3⟩
 have hlt := (List.getElem?_eq_some_iff.1 hrow).1
 obtain ⟨p1, p2⟩ := List.pairwise_cons.1 h4
 refine ⟨by simpa using h0, fun i hi hn => ?_, fun i r hr q qv => ?_, fun x hx => ?_, List.pairwise_cons.2 ⟨fun y hy => p1 y hy, p2⟩, fun x hx => (h5 x hx).set (hoff x hx) _, h6⟩
 ·
  have : id ≠ i := by
   rintro rfl
   rcases hid with q | q
   ·
    omega
   ·
    exact hn q
  rw [List.getElem?_set_ne this]; exact h1 i hi hn
 ·
  by_cases e : id = i
  ·
   subst e
   rw [List.getElem?_set_self hlt] at hr
   cases hr; rfl
  ·
   rw [List.getElem?_set_ne e] at hr; exact h2 i r hr q qv
 ·
  rcases List.mem_cons.1 hx with rfl | hx
  ·
   exact .inr ⟨id, rfl, hid, by simp [hlt]⟩
  ·
   rcases h3 x (List.mem_cons_of_mem _ hx) with q | ⟨id', q1, q2, q3⟩
   ·
    exact .inl q
   ·
    have : id' ≠ id := fun e => p1 x hx id rfl (e ▸ q1)
    exact .inr ⟨id', q1, q2, by rw [List.getElem?_set_ne (Ne.symm this)]; exact q3⟩
theorem Owns.inV {Rw rows : List RowA} {l : List (Nat × Nat × Own)} {ho : Own} {v : List VE} (h : Owns Rw rows l ho v) {i : Nat} {r : RowA} (hr : rows[i]? = some r) (hi : ¬ ZsB v i) : ∃ x ∈ v, r.cells = x.2.2 ∧ Rw.length ≤ i := by
 simp only [ZsB, ne_eq, Classical.not_forall, Classical.not_not] at hi
 obtain ⟨x, hx, ver, e⟩ := hi
 rcases h.veach x hx with w | ⟨id, ver', w1, w2, w3⟩
 ·
  rw [w.1] at e; cases e
 ·
  rw [w1] at e; cases e
  rw [w3] at hr; cases hr
  exact ⟨x, hx, rfl, w2⟩
theorem Owns.rowsCalm {Rw rows : List RowA} {l : List (Nat × Nat × Own)} {ho : Own} {v : List VE} (h : Owns Rw rows l ho v) {nb nb' nl : Nat} (hb : nb ≤ nb') (hc : ∀ r ∈ Rw, ∀ x ∈ r.cells, Under nb Rw.length nl x) (hv : ∀ x ∈ v, ∀ y ∈ x.2.2, Under nb' rows.length nl y := by intro x hx; cases hx) : ∀ r ∈ rows, ∀ x ∈ r.cells, Under nb' rows.length nl x := fun r hr x hx => by
 obtain ⟨i, hi, rfl⟩ := List.mem_iff_getElem.1 hr
 have hg : rows[i]? = some rows[i] := List.getElem?_eq_getElem hi
 by_cases qv : ZsB v i
 case neg =>
  obtain ⟨y, hy, e, _⟩ := h.inV hg qv
  rw [e] at hx
  exact hv y hy x hx
 by_cases q : Rw.length ≤ i ∨ ho = .row i
 ·
  rw [h.calm i _ hg q qv] at hx; cases hx
 ·
  have hlt : i < Rw.length := by omega
  have := h.keep i hlt (fun e => q (.inr e))
  rw [hg, List.getElem?_eq_getElem hlt] at this
  rw [Option.some.inj this] at hx
  exact Zbf hb h.len (Nat.le_refl _) (hc _ (List.getElem_mem hlt) x hx)
theorem Owns.call {Rw rows rows' : List RowA} {l : List (Nat × Nat × Own)} {ho o o' : Own} {v : List VE} {sz n n' : Nat} (h : Owns Rw rows ((sz, n, o) :: l) ho v) (hc : Owns rows rows' [(sz, n', o')] o) : Owns Rw rows' ((sz, n', o') :: l) ho v := by
 have hx := h.each _ (List.mem_cons_self ..)
 have hoff : ∀ i, o = .row i → ZsB v i := fun i e => h.grow_off (sz := sz) (n := n) (by rw [← e]; exact List.mem_cons_self ..)
 obtain ⟨p1, p2⟩ := List.pairwise_cons.1 h.apart
 have own : ∀ i, o = .row i → (Rw.length ≤ i ∨ ho = .row i) ∧ i < rows.length := fun i e => by
  rcases hx with q | ⟨id, q1, q2, q3⟩
  ·
   simp only at q; rw [e] at q; cases q
  ·
   simp only at q1; rw [e] at q1; cases q1
   exact ⟨q2, (List.getElem?_eq_some_iff.1 q3).1⟩
 have l1 := h.len
 have l2 := hc.len
 have ho' := hc.each _ (List.mem_cons_self ..)
 refine ⟨by omega, fun i hi hn => ?_, fun i r hr q qv => ?_, fun x hxm => ?_, List.pairwise_cons.2 ⟨fun y hy id e => ?_, p2⟩, fun x hx => ?_, h.vapart⟩
 ·
  have : o ≠ .row i := fun e => by
   rcases (own i e).1 with q | q
   ·
    omega
   ·
    exact hn q
  rw [hc.keep i (by omega) this]; exact h.keep i hi hn
 ·
  by_cases e : rows.length ≤ i ∨ o = .row i
  ·
   exact hc.calm i r hr e (ZiO i)
  ·
   rw [hc.keep i (by omega) (fun k => e (.inr k))] at hr
   exact h.calm i r hr q qv
 ·
  rcases List.mem_cons.1 hxm with rfl | hxm
  ·
   rcases ho' with q | ⟨id, q1, q2, q3⟩
   ·
    exact .inl q
   ·
    refine .inr ⟨id, q1, ?_, q3⟩
    rcases q2 with q2 | q2
    ·
     exact .inl (by omega)
    ·
     exact (own id q2).1
  ·
   rcases h.each x (List.mem_cons_of_mem _ hxm) with q | ⟨id, q1, q2, q3⟩
   ·
    exact .inl q
   ·
    refine .inr ⟨id, q1, q2, ?_⟩
    rw [hc.keep id (List.getElem?_eq_some_iff.1 q3).1 (fun e => p1 x hxm id e q1)]
    exact q3
 ·
  intro k
  rcases ho' with q | ⟨id', q1, q2, q3⟩
  ·
   simp only at q e; rw [q] at e; cases e
  ·
   simp only at q1 e
   rw [q1] at e; cases e
   rcases q2 with q2 | q2
   ·
    rcases h.each y (List.mem_cons_of_mem _ hy) with w | ⟨id, w1, w2, w3⟩
    ·
     rw [w] at k; cases k
    ·
     rw [w1] at k; cases k
     have := (List.getElem?_eq_some_iff.1 w3).1
     omega
   ·
    exact p1 y hy _ q2 k
 ·
  rcases h.veach x hx with w | ⟨id, ver, w1, w2, w3⟩
  ·
   exact .inl w
  ·
   refine .inr ⟨id, ver, w1, w2, ?_⟩
   rw [hc.keep id (List.getElem?_eq_some_iff.1 w3).1 (fun e => hoff id e x hx ver w1)]
   exact w3
theorem Owns.append {P : Program} {t el : TypeId} {sz by8 n : Nat} {ag : Bool} {Rw rows : List RowA} {l : List (Nat × Nat × Own)} {o ho : Own} {v : List VE} (h : Owns Rw rows ((sz, n, o) :: l) ho v) (he : elT P t = some (el, sz, ag, by8)) (hz : (ZbW P el).isSome = true) (hs : 0 < sz) (m : Nat)
  (hb : (n + m) * by8 ≤ 140737488355328) (hb2 : n + m ≤ 4611686018427387904) : ∃ o' rows', Owns Rw rows' ((sz, n + m, o') :: l) ho v ∧
   ∀ (xs ys : List AV) (B : List (List AV)) (L : List LoopA) (o2 : Own), xs.length = n → ys.length = m → (∀ y ∈ xs, y.cells.length = sz) →
    ZaS P ⟨B, rows, L⟩ t (.list xs o) (.list ys o2) = ((∀ y ∈ ys, y.cells.length = sz ∧ ZaH y = true), .list (xs ++ ys.map AV.pub) o', ⟨B, rows', L⟩) := by
 have key : ∀ (ys : List AV), ys.length = m → Zbk P el sz by8 n ys = (∀ y ∈ ys, y.cells.length = sz ∧ ZaH y = true) := by
  intro ys hy
  simp only [Zbk, hs, hz, hy, hb, hb2, true_and]
 rcases h.each _ (List.mem_cons_self ..) with q | ⟨id, q1, q2, q3⟩
 ·
  simp only at q; subst q
  have h' := h.sub (List.sublist_cons_self _ _)
  by_cases hm : m = 0
  ·
   subst hm
   refine ⟨.full, rows, h'.full _ _, fun xs ys B L o2 h1 h2 h3 => ?_⟩
   have : ys = [] := List.length_eq_zero_iff.1 h2
   subst this
   simp [ZaS, he, ZaA, Zbi, hs]
  ·
   refine ⟨.row rows.length, rows ++ [.grow (n + m) sz], h'.make _ _, fun xs ys B L o2 h1 h2 h3 => ?_⟩
   simp only [ZaS, he, ZaA, Zbi]
   rw [if_neg (by omega), h1, key ys h2, h2]
   simp only [true_and, Prod.mk.injEq, eq_iff_iff, and_true]
   exact ⟨fun q => q.1, fun q => ⟨q, h3⟩⟩
 ·
  simp only at q1; subst q1
  refine ⟨.row id, _, h.more (n + m), fun xs ys B L o2 h1 h2 h3 => ?_⟩
  simp only [ZaS, he, ZaA, Zbi]
  rw [h1, key ys h2, h2]
  simp only [true_and, Prod.mk.injEq, eq_iff_iff, and_true]
  exact ⟨fun q => q.1, fun q => ⟨q, h3, q3⟩⟩
theorem ZmW {α : Type} {xs : List α} {i : Nat} {x : α} (h : xs[i]? = some x) : xs.drop i = x :: xs.drop (i + 1) := by
 obtain ⟨h1, rfl⟩ := List.getElem?_eq_some_iff.1 h
 exact List.drop_eq_getElem_cons h1
theorem Zay {M1 : Mem} {B bs bs' XB : List (List AV)} {Rw rows rows' : List RowA} {L XL lp : List LoopA} {la : LoopA} {l l' : List (Nat × Nat × Own)} {oh : Own} (hra : RoundAt M1 ((St.push ⟨B ++ bs, rows, L⟩ la).ext ⟨XB, [], XL⟩)) (ho : Owns Rw rows l oh) (ho' : Owns Rw rows' l' oh) (hlen : bs'.length = bs.length) (hr : rows.length ≤ rows'.length)
  (hlp : lp = (L ++ [la]) ++ XL) (hbs : ∀ cs ∈ bs', ∀ x ∈ cs, Under (B.length + bs.length + XB.length) rows'.length lp.length x) : Calm ((B ++ bs).length + XB.length) rows'.length lp.length ⟨(B ++ bs') ++ XB, rows', lp⟩ := by
 subst hlp
 have hc := hra.calm
 simp only [St.ext, St.push, List.append_nil] at hc
 have e : ((B ++ bs) ++ XB).length = (B ++ bs).length + XB.length := List.length_append
 rw [e] at hc
 refine ⟨fun r h x hx => ?_, fun cs h x hx => ?_, fun a ha k x hx ht => Zbf (Nat.le_refl _) hr (Nat.le_refl _) (hc.loops a ha k x hx ht)⟩
 ·
  obtain ⟨i, hi, rfl⟩ := List.mem_iff_getElem.1 h
  have hg : rows'[i]? = some rows'[i] := List.getElem?_eq_getElem hi
  by_cases q : Rw.length ≤ i ∨ oh = .row i
  ·
   rw [ho'.calm i _ hg q (ZiO i)] at hx; cases hx
  ·
   have hlt : i < Rw.length := by omega
   have e1 := ho'.keep i hlt (fun e => q (.inr e))
   have e2 := ho.keep i hlt (fun e => q (.inr e))
   rw [hg, ← e2] at e1
   exact Zbf (Nat.le_refl _) hr (Nat.le_refl _) (hc.rows _ (List.mem_of_getElem? e1.symm) x hx)
 ·
  rcases List.mem_append.1 h with h | h
  ·
   rcases List.mem_append.1 h with h | h
   ·
    exact Zbf (Nat.le_refl _) hr (Nat.le_refl _) (hc.boxes cs (by simp [h]) x hx)
   ·
    have := hbs cs h x hx
    rwa [List.length_append]
  ·
   exact Zbf (Nat.le_refl _) hr (Nat.le_refl _) (hc.boxes cs (by simp [h]) x hx)
section
variable {P : Program} {w0 : World} {n : Nat} {e : Env} {st : St} {M0 : Mem} {W0 : World} {ro : Option Nat} {Q : AQ} {c : Code}
theorem Zju (l i : Nat) {cs : List AV} {x : AV} (hl : st.boxes[l]? = some cs) (hi : cs[i]? = some x) (h1 : x.one = true) (h : awp P w0 n M0 W0 ro c Q e { st with boxes := st.boxes.set l (cs.set i x.pubCell) }) : awp P w0 n M0 W0 ro c Q e st :=
 ZhM _ _ (fun M _ w hr => ⟨M, .refl _ _ _, hr.st.setBox hl hi (by rw [AV.one_pubCell]; exact h1) (fun v hv => hv.pubCell), hr.size, hr.env⟩) h
theorem RelSt.pubBox {M : Mem} {w : World} (h : RelSt w0 M st w) {l : Nat} {cs : List AV} (hl : st.boxes[l]? = some cs) : RelSt w0 M { st with boxes := st.boxes.set l (cs.map AV.pubCell) } w := by
 have hlt : l < st.boxes.length := (List.getElem?_eq_some_iff.1 hl).1
 refine ⟨h.below, by simp [h.N], h.NR, h.top, h.inj, fun l' cs' hl' => ?_, h.row, h.rowinj, h.loop⟩
 by_cases q : l' = l
 ·
  subst q
  rw [List.getElem?_set_self hlt] at hl'
  cases hl'
  obtain ⟨a1, a2, c, ty, a3, a4, a5, a6⟩ := h.box l' cs hl
  refine ⟨a1, a2, c, ty, a3, by simp [a4], fun z hz => ?_, fun j h1 h2 => ?_⟩
  ·
   obtain ⟨y, hy, rfl⟩ := List.mem_map.1 hz
   rw [AV.one_pubCell]; exact a5 y hy
  ·
   simp only [List.getElem_map]
   exact (a6 j h1 (by simpa using h2)).pubCell
 ·
  rw [List.getElem?_set_ne (Ne.symm q)] at hl'
  exact h.box l' cs' hl'
theorem ZfL (l : Nat) {cs cs' : List AV} (hl : st.boxes[l]? = some cs) (he : cs.map AV.pubCell = cs') (h : awp P w0 n M0 W0 ro c Q e { st with boxes := st.boxes.set l cs' }) : awp P w0 n M0 W0 ro c Q e st := by
 subst he
 exact ZhM _ _ (fun M _ w hr => ⟨M, .refl _ _ _, hr.st.pubBox hl, hr.size, hr.env⟩) h
theorem ZlO {a : AV} {xs : List AV} (h : a.pub = .list xs .none) : ∃ o, a = .list xs o := by
 cases a <;> simp only [AV.pub, reduceCtorEq] at h
 ·
  cases h; exact ⟨_, rfl⟩
theorem Ziu (l i : Nat) {cs : List AV} {a : AV} {xs : List AV} (hl : st.boxes[l]? = some cs) (hi : cs[i]? = some a) (ha : a.pub = .list xs .none) (h : awp P w0 n M0 W0 ro c Q e { st with boxes := st.boxes.set l (cs.set i (.list xs .none)) }) : awp P w0 n M0 W0 ro c Q e st := by
 obtain ⟨o, rfl⟩ := ZlO ha
 exact Zju l i hl hi rfl h
theorem Za0 {nb nr nl : Nat} {f : FuncId} {cs : List AV} (h : Under nb nr nl (.clo f cs)) : ∀ nb' nr' nl', nb ≤ nb' → nr ≤ nr' → nl ≤ nl' → ∀ x ∈ cs, Under nb' nr' nl' x :=
 fun _ _ _ h1 h2 h3 x hx => Zbf h1 h2 h3 (ZjD.1 h x hx)
theorem ZlM {B0 B bs X : List (List AV)} {Rw rows : List RowA} {L l' : List LoopA} {l : List (Nat × Nat × Own)} {oh : Own} {v : List VE} (hN : M0.N = B0.length) (hNR : M0.NR = Rw.length) (hNL : M0.NL = L.length) (hB : B.length = B0.length) (hc : Calm B0.length Rw.length L.length ⟨B, Rw, L⟩) (ho : Owns Rw rows l oh v)
  (hbs : ∀ cs ∈ bs, ∀ x ∈ cs, Under (B0.length + bs.length) rows.length L.length x) (he : Za2 (B0.length + bs.length) rows.length L.length e)
  (h : awp P w0 n M0 W0 ro c Q e ⟨B ++ bs, rows, L⟩) (hv : ∀ x ∈ v, ∀ y ∈ x.2.2, Under (B0.length + bs.length) rows.length L.length y := by intro x hx; cases hx) : awp P w0 n M0 W0 ro c Q e ⟨B ++ (bs ++ X), rows, L ++ l'⟩ := by
 rw [← hB] at hN hc hbs he hv
 clear hB B0
 have hl := ho.len
 have e1 : St.cut ⟨B ++ (bs ++ X), rows, L ++ l'⟩ (B.length + bs.length) rows.length L.length = ⟨B ++ bs, rows, L⟩ := by
  simp only [St.cut, List.take_length, ← List.append_assoc]
  rw [List.take_left' (by simp), List.take_left' rfl]
 refine Zk6 (B.length + bs.length) rows.length L.length (by simp) (Nat.le_refl _) (by simp) (by omega) (by omega) (by omega) ?_ he (by rw [e1]; exact h)
 rw [e1]
 refine ⟨fun r hr x hx => ?_, fun cs hcs x hx => ?_, fun la hla k x hx ht => ?_⟩
 ·
  exact ho.rowsCalm (by omega) hc.rows hv r hr x hx
 ·
  rcases List.mem_append.1 hcs with hcs | hcs
  ·
   exact Zbf (by omega) (by omega) (Nat.le_refl _) (hc.boxes cs hcs x hx)
  ·
   exact hbs cs hcs x hx
 ·
  exact Zbf (by omega) (by omega) (Nat.le_refl _) (hc.loops la hla k x hx ht)
theorem Zas {B0 B bs X : List (List AV)} {Rw rows : List RowA} {L : List LoopA} {l : List (Nat × Nat × Own)} {oh : Own} {v : List VE} (hN : M0.N = B0.length) (hNR : M0.NR = Rw.length) (hNL : M0.NL = L.length) (hB : B.length = B0.length) (hc : Calm B0.length Rw.length L.length ⟨B, Rw, L⟩) (ho : Owns Rw rows l oh v)
  (hbs : ∀ cs ∈ bs, ∀ x ∈ cs, Under (B0.length + bs.length) rows.length L.length x) (he : Za2 (B0.length + bs.length) rows.length L.length e)
  (h : awp P w0 n M0 W0 ro c Q e ⟨B ++ bs, rows, L⟩) (hv : ∀ x ∈ v, ∀ y ∈ x.2.2, Under (B0.length + bs.length) rows.length L.length y := by intro x hx; cases hx) : awp P w0 n M0 W0 ro c Q e ⟨B ++ (bs ++ X), rows, L⟩ := by
 rw [← hB] at hN hc hbs he hv
 clear hB B0
 have hl := ho.len
 have e1 : St.cut ⟨B ++ (bs ++ X), rows, L⟩ (B.length + bs.length) rows.length L.length = ⟨B ++ bs, rows, L⟩ := by
  simp only [St.cut, List.take_length, ← List.append_assoc]
  rw [List.take_left' (by simp)]
 refine Zk6 (B.length + bs.length) rows.length L.length (by simp) (Nat.le_refl _) (Nat.le_refl _) (by omega) (by omega) (by omega) ?_ he (by rw [e1]; exact h)
 rw [e1]
 refine ⟨fun r hr x hx => ?_, fun cs hcs x hx => ?_, fun la hla k x hx ht => ?_⟩
 ·
  exact ho.rowsCalm (by omega) hc.rows hv r hr x hx
 ·
  rcases List.mem_append.1 hcs with hcs | hcs
  ·
   exact Zbf (by omega) (by omega) (Nat.le_refl _) (hc.boxes cs hcs x hx)
  ·
   exact hbs cs hcs x hx
 ·
  exact Zbf (by omega) (by omega) (Nat.le_refl _) (hc.loops la hla k x hx ht)
end
section
variable {P : Program} {w0 : World} {st : St}
theorem Zdl {c d : Bool} {f : FuncId} {cs args args' : List AV} {k : AV → St → Prop} (v : AV)
  (h : ACalls P w0 f args' st fun r s => r = v ∧ s = st) (he : args ++ cs = args') (hk : k v st) : Zic P w0 c d (.clo f cs) args st k := .inl ⟨v, fun _ => by
 show ACalls P w0 f (args ++ cs) st _
 rw [he]; exact h, hk⟩
theorem ZaB {d : Bool} {fv : AV} {args : List AV} {k : AV → St → Prop} (h : k .junk st) : Zic P w0 false d fv args st k := .inl ⟨.junk, fun q => (nomatch q), h⟩
theorem Za5 {B B' X : List (List AV)} {Rw rows : List RowA} {L : List LoopA} {Post : AV → St → Prop} {v : AV} (hc : Calm B.length Rw.length L.length ⟨B', Rw, L⟩) (hB : B'.length = B.length) (h2 : Rw <+: rows) (hu : Under B.length Rw.length L.length v.pubA) (hp : Post v.pubA ⟨B', Rw, L⟩) :
  Go.Ev.finP ⟨B, Rw, L⟩ Post v ⟨B' ++ X, rows, L⟩ := by
 obtain ⟨r, rfl⟩ := h2
 have e : St.cut ⟨B' ++ X, Rw ++ r, L⟩ B.length Rw.length L.length = ⟨B', Rw, L⟩ := by simp [St.cut, ← hB]
 exact ⟨by simp [hB], by simp, by simp, by simp only [e]; exact hc, hu, by simp only [e]; exact hp⟩
end
theorem Zaz {B B' : List (List AV)} {Rw rows : List RowA} {L : List LoopA} {Post : AV → St → Prop} {v : AV} (hc : Calm B.length Rw.length L.length ⟨B', Rw, L⟩) (hB : B'.length = B.length) (h2 : Rw <+: rows) (hu : Under B.length Rw.length L.length v.pubA) (hp : Post v.pubA ⟨B', Rw, L⟩) :
  Go.Ev.finP ⟨B, Rw, L⟩ Post v ⟨B', rows, L⟩ := by
 have := Za5 (X := []) hc hB h2 hu hp
 rwa [List.append_nil] at this
theorem Zah {nb nr nl : Nat} {B : List (List AV)} {Rw : List RowA} {L : List LoopA} {l : Nat} {cs : List AV} (h : Calm nb nr nl ⟨B, Rw, L⟩) (hc : ∀ x ∈ cs, Under nb nr nl x) : Calm nb nr nl ⟨B.set l cs, Rw, L⟩ :=
 ⟨h.rows, fun ds hd x hx => by
  rcases List.mem_or_eq_of_mem_set hd with hd | rfl
  ·
   exact h.boxes ds hd x hx
  ·
   exact hc x hx, h.loops⟩
theorem ZwL {B B' X : List (List AV)} {Rw rows : List RowA} {L l : List LoopA} {Post : AV → St → Prop} {v : AV} (hc : Calm B.length Rw.length L.length ⟨B', Rw, L⟩) (hB : B'.length = B.length) (h2 : Rw <+: rows) (hu : Under B.length Rw.length L.length v.pubA) (hp : Post v.pubA ⟨B', Rw, L⟩) :
  Go.Ev.finP ⟨B, Rw, L⟩ Post v ⟨B' ++ X, rows, L ++ l⟩ := by
 obtain ⟨r, rfl⟩ := h2
 have e : St.cut ⟨B' ++ X, Rw ++ r, L ++ l⟩ B.length Rw.length L.length = ⟨B', Rw, L⟩ := by simp [St.cut, ← hB]
 exact ⟨by simp [hB], by simp, by simp, by simp only [e]; exact hc, hu, by simp only [e]; exact hp⟩
theorem Zag {B : List (List AV)} {l : Nat} {cs : List AV} (h : B[l]? = some cs) :
  (∀ X R L o, Zcg ⟨B ++ X, R, L⟩ (.box l o) = true) ∧ (∀ R L o, Zcg ⟨B, R, L⟩ (.box l o) = true) ∧ (∀ X R L o, ZaM ⟨B ++ X, R, L⟩ (.box l o) = cs) ∧ (∀ R L o, ZaM ⟨B, R, L⟩ (.box l o) = cs) ∧
  (∀ X, (B ++ X)[l]? = some cs) ∧ B[l]? = some cs ∧ (∀ X, (B ++ X).getD l [] = cs) ∧ B.getD l [] = cs ∧ (∀ X c, (B ++ X).set l c = B.set l c ++ X) ∧
  (∀ X R L o c, Zcg ⟨B.set l c ++ X, R, L⟩ (.box l o) = true) ∧ (∀ R L o c, Zcg ⟨B.set l c, R, L⟩ (.box l o) = true) ∧ (∀ X R L o c, ZaM ⟨B.set l c ++ X, R, L⟩ (.box l o) = c) ∧ (∀ R L o c, ZaM ⟨B.set l c, R, L⟩ (.box l o) = c) ∧
  (∀ X c, (B.set l c ++ X)[l]? = some c) ∧ (∀ c, (B.set l c)[l]? = some c) ∧ (∀ X c, (B.set l c ++ X).getD l [] = c) ∧ (∀ c, (B.set l c).getD l [] = c) ∧ (∀ X c d, (B.set l c ++ X).set l d = B.set l d ++ X) ∧ (∀ c d, (B.set l c).set l d = B.set l d) ∧ B.set l cs = B := by
 have hl := (List.getElem?_eq_some_iff.1 h).1
 have e1 : ∀ X, (B ++ X)[l]? = some cs := fun X => by rw [List.getElem?_append_left hl]; exact h
 have e2 : ∀ X c, (B.set l c ++ X)[l]? = some c := fun X c => by rw [List.getElem?_append_left (by simpa using hl)]; simp [hl]
 have e3 : ∀ c, (B.set l c)[l]? = some c := fun c => by simp [hl]
 refine ⟨?_, ?_, ?_, ?_, e1, h, ?_, ?_, ?_, ?_, ?_, ?_, ?_, e2, e3, ?_, ?_, ?_, ?_, ?_⟩
 ·
  intro X R L o; simp [Zcg]; omega
 ·
  intro R L o; simp [Zcg, hl]
 ·
  intro X R L o; simp only [ZaM, List.getD_eq_getElem?_getD, e1, Option.getD_some]
 ·
  intro R L o; simp only [ZaM, List.getD_eq_getElem?_getD, h, Option.getD_some]
 ·
  intro X; rw [List.getD_eq_getElem?_getD, e1]; rfl
 ·
  rw [List.getD_eq_getElem?_getD, h]; rfl
 ·
  intro X c; exact List.set_append_left _ _ hl
 ·
  intro X R L o c; simp [Zcg]; omega
 ·
  intro R L o c; simp [Zcg, hl]
 ·
  intro X R L o c; simp only [ZaM, List.getD_eq_getElem?_getD, e2, Option.getD_some]
 ·
  intro R L o c; simp only [ZaM, List.getD_eq_getElem?_getD, e3, Option.getD_some]
 ·
  intro X c; rw [List.getD_eq_getElem?_getD, e2]; rfl
 ·
  intro c; rw [List.getD_eq_getElem?_getD, e3]; rfl
 ·
  intro X c d; rw [List.set_append_left _ _ (by simpa using hl), List.set_set]
 ·
  intro c d; exact List.set_set ..
 ·
  obtain ⟨h1, rfl⟩ := List.getElem?_eq_some_iff.1 h; exact List.set_getElem_self _
@[go_sem] theorem ZtE (B X : List (List AV)) (R : List RowA) (L : List LoopA) (i k o : Nat) (c : List AV) : Zcg ⟨B.set i c ++ X, R, L⟩ (.box (B.length + k) o) = decide (k < X.length) := by simp [Zcg]
@[go_sem] theorem Zso (B X : List (List AV)) (R : List RowA) (L : List LoopA) (i o : Nat) (c : List AV) : Zcg ⟨B.set i c ++ X, R, L⟩ (.box B.length o) = decide (0 < X.length) := by simp [Zcg]
@[go_sem] theorem Zls (B X : List (List AV)) (i k : Nat) (c : List AV) : (B.set i c ++ X).getD (B.length + k) [] = X.getD k [] := by
 have := ZmO (B.set i c) X k
 rwa [List.length_set] at this
@[go_sem] theorem ZjY (B X : List (List AV)) (i : Nat) (c : List AV) : (B.set i c ++ X).getD B.length [] = X.getD 0 [] := by
 have := ZlT (B.set i c) X
 rwa [List.length_set] at this
@[go_sem] theorem ZrC (B X : List (List AV)) (R : List RowA) (L : List LoopA) (i k o : Nat) (c : List AV) : ZaM ⟨B.set i c ++ X, R, L⟩ (.box (B.length + k) o) = X.getD k [] := Zls B X i k c
@[go_sem] theorem ZqF (B X : List (List AV)) (R : List RowA) (L : List LoopA) (i o : Nat) (c : List AV) : ZaM ⟨B.set i c ++ X, R, L⟩ (.box B.length o) = X.getD 0 [] := ZjY B X i c
@[go_sem] theorem Zp7 (B X : List (List AV)) (i k : Nat) (c x : List AV) : (B.set i c ++ X).set (B.length + k) x = B.set i c ++ X.set k x := by
 have := Zsw (B.set i c) X k x
 rwa [List.length_set] at this
@[go_sem] theorem Zob (B X : List (List AV)) (i : Nat) (c x : List AV) : (B.set i c ++ X).set B.length x = B.set i c ++ X.set 0 x := by
 have := ZqB (B.set i c) X x
 rwa [List.length_set] at this
@[go_sem] theorem ZfD (B X : List (List AV)) (i k : Nat) (c : List AV) : (B.set i c ++ X)[B.length + k]? = X[k]? := by
 rw [List.getElem?_append_right (by simp), List.length_set, Nat.add_sub_cancel_left]
@[go_sem] theorem ZeX (B X : List (List AV)) (i : Nat) (c : List AV) : (B.set i c ++ X)[B.length]? = X[0]? := by
 rw [List.getElem?_append_right (by simp), List.length_set, Nat.sub_self]
attribute [go_sem] List.length_set
theorem ZbC {α : Type} {B B' : List α} {l : Nat} {c : α} (h : B <+: B') (hl : B[l]? = some c) : B'[l]? = some c := by
 obtain ⟨t, rfl⟩ := h
 rw [List.getElem?_append_left (List.getElem?_eq_some_iff.1 hl).1]; exact hl
theorem Zdo {α : Type} {f : α → List AV} (sz : Nat) (hf : ∀ x, (f x).length = sz) : ∀ {xs : List α} {i : Nat} {x : α}, xs[i]? = some x → ((xs.flatMap f).drop (i * sz)).take sz = f x
 | [], i, x, h => by simp at h
 | y :: ys, 0, x, h => by
  simp only [List.getElem?_cons_zero, Option.some.injEq] at h
  subst h
  simp [List.flatMap_cons, ← hf y]
 | y :: ys, i + 1, x, h => by
  simp only [List.getElem?_cons_succ] at h
  rw [List.flatMap_cons, Nat.succ_mul, Nat.add_comm, List.drop_append, hf y, Nat.add_sub_cancel_left, List.drop_eq_nil_of_le (by rw [hf y]; omega), List.nil_append]
  exact Zdo sz hf h
@[go_sem] theorem ZsO (l : List AV) : ZbZ l 0 [] = l := by simp [ZbZ]
@[go_sem] theorem Zq1 (a x : AV) (l xs : List AV) : ZbZ (a :: l) 0 (x :: xs) = x :: ZbZ l 0 xs := by simp [ZbZ]
@[go_sem] theorem ZrN (a : AV) (l xs : List AV) (n : Nat) : ZbZ (a :: l) (n + 1) xs = a :: ZbZ l n xs := by simp [ZbZ, Nat.succ_add]
@[go_sem] theorem ZfO (B l : List (List AV)) (k : Nat) : (B ++ l)[B.length + k]? = l[k]? := by rw [List.getElem?_append_right (by omega), Nat.add_sub_cancel_left]
@[go_sem] theorem ZeB (B l : List (List AV)) : (B ++ l)[B.length]? = l[0]? := by rw [List.getElem?_append_right (by omega), Nat.sub_self]
theorem Owns.enter {Rw rows : List RowA} {l : List (Nat × Nat × Own)} {ho o : Own} {v : List VE} {sz n : Nat} (h : Owns Rw rows ((sz, n, o) :: l) ho v) : Owns rows rows [(sz, n, o)] o := by
 have hx := h.each _ (List.mem_cons_self ..)
 refine ⟨Nat.le_refl _, fun _ _ _ => rfl, fun i r hr q _ => ?_, fun x hm => ?_, by simp, by simp, .nil⟩
 ·
  rcases q with q | q
  ·
   have := (List.getElem?_eq_some_iff.1 hr).1; omega
  ·
   rcases hx with w | ⟨id, w1, w2, w3⟩
   ·
    simp only at w; rw [q] at w; cases w
   ·
    simp only at w1 w3; rw [q] at w1; cases w1
    rw [hr] at w3; rw [Option.some.inj w3]; rfl
 ·
  rw [List.mem_singleton.1 hm]
  rcases hx with w | ⟨id, w1, w2, w3⟩
  ·
   exact .inl w
  ·
   exact .inr ⟨id, w1, .inr w1, w3⟩
theorem Zc6 {nb nr nr' nl : Nat} {st : St} (h : Calm nb nr nl st) (hr : nr ≤ nr') : Calm nb nr' nl st :=
 ⟨fun r a x b => Zbf (Nat.le_refl _) hr (Nat.le_refl _) (h.rows r a x b), fun cs a x b => Zbf (Nat.le_refl _) hr (Nat.le_refl _) (h.boxes cs a x b), fun la a k x b c => Zbf (Nat.le_refl _) hr (Nat.le_refl _) (h.loops la a k x b c)⟩
section
variable {P : Program} {w0 : World} {f : FuncId} {st : St}
def finG (st : St) (Post : AV → St → Prop) (r : AV) (s : St) : Prop :=
 st.boxes.length ≤ s.boxes.length ∧ st.rows.length ≤ s.rows.length ∧ st.loops.length ≤ s.loops.length ∧ Calm st.boxes.length s.rows.length st.loops.length (s.cut st.boxes.length s.rows.length st.loops.length) ∧
  Under st.boxes.length s.rows.length st.loops.length r.pubA ∧ Post r.pubA (s.cut st.boxes.length s.rows.length st.loops.length)
theorem ACalls.finG {args : List AV} {Post : AV → St → Prop} (h : ACalls P w0 f args st (finG st Post)) : ACalls P w0 f args st Post := by
 refine ⟨h.1, fun M w vals hst hrow => (h.2 M w vals hst hrow).mono ?_⟩
 rintro en w' ⟨v, M', r, st', h1, ⟨b1, b2, b3, b4, b5, b6⟩, h3, h4, h5⟩
 exact ⟨v, M'.cut st.boxes.length st'.rows.length st.loops.length, r.pubA, _, h1, b6, h3.cut (by have := hst.N; omega) (by have := hst.NR; omega) (by have := hst.loop.NL; omega) (by rw [h4.loop.NL]; exact b3), h4.cut b1 (Nat.le_refl _) b3 b4, h5.pubA.cut b5⟩
theorem Zw4 {B B' X : List (List AV)} {R0 rows : List RowA} {L l : List LoopA} {Post : AV → St → Prop} {v : AV} {ow : List (Nat × Nat × Own)} {oh : Own} (ho : Owns R0 rows ow oh) (hc : Calm B.length rows.length L.length ⟨B', R0, L⟩) (hB : B'.length = B.length) (hu : Under B.length rows.length L.length v.pubA) (hp : Post v.pubA ⟨B', rows, L⟩) :
  Go.Ev.finG ⟨B, R0, L⟩ Post v ⟨B' ++ X, rows, L ++ l⟩ := by
 have e : St.cut ⟨B' ++ X, rows, L ++ l⟩ B.length rows.length L.length = ⟨B', rows, L⟩ := by simp [St.cut, ← hB]
 refine ⟨by simp [hB], ho.len, by simp, ?_, hu, by simp only [e]; exact hp⟩
 simp only [e]
 refine ⟨fun r hr x hx => ?_, hc.boxes, hc.loops⟩
 obtain ⟨i, hi, rfl⟩ := List.mem_iff_getElem.1 hr
 have hg : rows[i]? = some rows[i] := List.getElem?_eq_getElem hi
 by_cases q : R0.length ≤ i ∨ oh = .row i
 ·
  rw [ho.calm i _ hg q (ZiO i)] at hx; cases hx
 ·
  have hlt : i < R0.length := by omega
  have := ho.keep i hlt (fun e => q (.inr e))
  rw [hg, List.getElem?_eq_getElem hlt] at this
  rw [Option.some.inj this] at hx
  exact hc.rows _ (List.getElem_mem hlt) x hx
end
theorem ZjW {B B' X : List (List AV)} {R0 rows : List RowA} {L : List LoopA} {Post : AV → St → Prop} {v : AV} {ow : List (Nat × Nat × Own)} {oh : Own} (ho : Owns R0 rows ow oh) (hc : Calm B.length rows.length L.length ⟨B', R0, L⟩) (hB : B'.length = B.length) (hu : Under B.length rows.length L.length v.pubA) (hp : Post v.pubA ⟨B', rows, L⟩) :
  Go.Ev.finG ⟨B, R0, L⟩ Post v ⟨B' ++ X, rows, L⟩ := by
 have := Zw4 (X := X) (l := []) ho hc hB hu hp
 rwa [List.append_nil] at this
section
variable {P : Program} {w0 : World} {n : Nat} {e : Env} {st : St} {M0 : Mem} {W0 : World} {ro : Option Nat} {Q : AQ} {c : Code}
theorem Zeb {B0 B bs X : List (List AV)} {Rw rows : List RowA} {L : List LoopA} {l : List (Nat × Nat × Own)} {oh : Own} (hN : M0.N = B0.length) (hNR : M0.NR = Rw.length) (hNL : M0.NL = L.length) (hB : B.length = B0.length) (hc : Calm B0.length rows.length L.length ⟨B, Rw, L⟩) (ho : Owns Rw rows l oh)
  (hbs : ∀ cs ∈ bs, ∀ x ∈ cs, Under (B0.length + bs.length) rows.length L.length x) (he : Za2 (B0.length + bs.length) rows.length L.length e)
  (h : awp P w0 n M0 W0 ro c Q e ⟨B ++ bs, rows, L⟩) : awp P w0 n M0 W0 ro c Q e ⟨B ++ (bs ++ X), rows, L⟩ := by
 rw [← hB] at hN hc hbs he
 clear hB B0
 have hl := ho.len
 have e1 : St.cut ⟨B ++ (bs ++ X), rows, L⟩ (B.length + bs.length) rows.length L.length = ⟨B ++ bs, rows, L⟩ := by
  simp only [St.cut, List.take_length, ← List.append_assoc]
  rw [List.take_left' (by simp)]
 refine Zk6 (B.length + bs.length) rows.length L.length (by simp) (Nat.le_refl _) (Nat.le_refl _) (by omega) (by omega) (by omega) ?_ he (by rw [e1]; exact h)
 rw [e1]
 refine ⟨fun r hr x hx => ?_, fun cs hcs x hx => ?_, fun la hla k x hx ht => ?_⟩
 ·
  obtain ⟨i, hi, rfl⟩ := List.mem_iff_getElem.1 hr
  have hg : rows[i]? = some rows[i] := List.getElem?_eq_getElem hi
  by_cases q : Rw.length ≤ i ∨ oh = .row i
  ·
   rw [ho.calm i _ hg q (ZiO i)] at hx; cases hx
  ·
   have hlt : i < Rw.length := by omega
   have := ho.keep i hlt (fun e => q (.inr e))
   rw [hg, List.getElem?_eq_getElem hlt] at this
   rw [Option.some.inj this] at hx
   exact Zbf (by omega) (Nat.le_refl _) (Nat.le_refl _) (hc.rows _ (List.getElem_mem hlt) x hx)
 ·
  rcases List.mem_append.1 hcs with hcs | hcs
  ·
   exact Zbf (by omega) (Nat.le_refl _) (Nat.le_refl _) (hc.boxes cs hcs x hx)
  ·
   exact hbs cs hcs x hx
 ·
  exact Zbf (by omega) (Nat.le_refl _) (Nat.le_refl _) (hc.loops la hla k x hx ht)
end
def Zma (acc : List Nat) (o : Oper) : Nat := o.after.toList.foldl (fun m e => if Region.binds .any e then m ||| 2 ^ e.on ||| acc.getD e.on 0 else m) 0
def Zfz : List Oper → List Nat → List Nat
 | [], acc => acc
 | o :: os, acc => Zfz os (acc ++ [Zma acc o])
def ZmH (ms : List Nat) (i j : Nat) : Bool := (ms.getD i 0).testBit j
theorem Znb (acc : List Nat) (j : Nat) : ∀ (es : List Edge) (m : Nat), (es.foldl (fun m e => if Region.binds .any e then m ||| 2 ^ e.on ||| acc.getD e.on 0 else m) m).testBit j = true → m.testBit j = true ∨ ∃ e ∈ es, Region.binds .any e = true ∧ (e.on = j ∨ ZmH acc e.on j = true)
 | [], m, h => .inl h
 | e :: es, m, h => by
  simp only [List.foldl_cons] at h
  rcases Znb acc j es _ h with h | ⟨e', h1, h2⟩
  ·
   by_cases c : Region.binds .any e = true
   ·
    rw [if_pos c] at h
    simp only [Nat.testBit_or, Bool.or_eq_true, Nat.testBit_two_pow, decide_eq_true_eq] at h
    rcases h with (h | h) | h
    ·
     exact .inl h
    ·
     exact .inr ⟨e, List.mem_cons_self .., c, .inl h⟩
    ·
     exact .inr ⟨e, List.mem_cons_self .., c, .inr h⟩
   ·
    rw [if_neg c] at h; exact .inl h
  ·
   exact .inr ⟨e', List.mem_cons_of_mem _ h1, h2⟩
theorem Zks (acc acc' : List Nat) : ∀ (es : List Edge) (m : Nat), (∀ e ∈ es, Region.binds .any e = true → acc.getD e.on 0 = acc'.getD e.on 0) →
  es.foldl (fun m e => if Region.binds .any e then m ||| 2 ^ e.on ||| acc.getD e.on 0 else m) m = es.foldl (fun m e => if Region.binds .any e then m ||| 2 ^ e.on ||| acc'.getD e.on 0 else m) m
 | [], _, _ => rfl
 | e :: es, m, h => by
  simp only [List.foldl_cons]
  have : (if Region.binds .any e = true then m ||| 2 ^ e.on ||| acc.getD e.on 0 else m) = if Region.binds .any e = true then m ||| 2 ^ e.on ||| acc'.getD e.on 0 else m := by
   by_cases c : Region.binds .any e = true
   ·
    rw [if_pos c, if_pos c, h e (List.mem_cons_self ..) c]
   ·
    rw [if_neg c, if_neg c]
  rw [this]
  exact Zks acc acc' es _ fun e' h' => h e' (List.mem_cons_of_mem _ h')
theorem Zi9 : ∀ (os : List Oper) (acc : List Nat) (i : Nat), i < acc.length → (Zfz os acc).getD i 0 = acc.getD i 0
 | [], _, _, _ => rfl
 | o :: os, acc, i, h => by
  rw [Zfz, Zi9 os _ i (by simp; omega), List.getD_eq_getElem?_getD, List.getElem?_append_left h, List.getD_eq_getElem?_getD]
theorem Znc : ∀ (os : List Oper) (acc : List Nat) (k : Nat) (o : Oper), os[k]? = some o → (∀ (k : Nat) (o : Oper), os[k]? = some o → ∀ e ∈ o.after, Region.binds .any e = true → e.on < acc.length + k) → (Zfz os acc).getD (acc.length + k) 0 = Zma (Zfz os acc) o
 | [], _, _, _, h, _ => by simp at h
 | o' :: os, acc, 0, o, h, hb => by
  simp only [List.getElem?_cons_zero, Option.some.injEq] at h
  subst h
  rw [Zfz, Zi9 os _ _ (by simp)]
  have e1 : (acc ++ [Zma acc o']).getD (acc.length + 0) 0 = Zma acc o' := by simp [List.getD_eq_getElem?_getD]
  rw [e1]
  refine Zks _ _ _ _ fun e he hbd => ?_
  have := hb 0 o' rfl e (by simpa using he) hbd
  rw [Zi9 os _ _ (by simp; omega), List.getD_eq_getElem?_getD, List.getD_eq_getElem?_getD, List.getElem?_append_left (by omega)]
 | o' :: os, acc, k + 1, o, h, hb => by
  rw [Zfz]
  have := Znc os (acc ++ [Zma acc o']) k o (by simpa using h) (fun k o h e he hbd => by
   have := hb (k + 1) o (by simpa using h) e he hbd
   simp; omega)
  rw [List.length_append, List.length_singleton, Nat.add_assoc, Nat.add_comm 1 k] at this
  exact this
def ZjG (ef : List Nat) (ms : List Nat) (i j : Nat) : Bool :=
 if ef.contains i then ef.contains j || ZmH ms i j else if ef.contains j then ZmH ms j i else decide (j < i) && ZmH ms i j
def ZkY (ef : List Nat) (ms : List Nat) (i j : Nat) : Bool :=
 if ef.contains i then ef.contains j || ZmH ms i j else ef.contains j && ZmH ms j i
def Zli (l : List Oper) (ef : List Nat) : Bool := (ef.all fun i => decide (i < l.length)) &&
 (List.range l.length).all fun i => match l[i]? with
  | some o => (o.after.toList.all fun e => !Region.binds .any e || decide (e.on < i)) && (List.range l.length).all fun j => match l[j]? with
   | some p => match p.dst with
    | some s => (decide (i = j) || o.dst != some s || ZkY ef (Zfz l []) i j) && (!(Zlm l o).contains s || ZjG ef (Zfz l []) i j)
    | none => true
   | none => true
  | none => true
theorem ZcJ {l : List Oper} {ef : List Nat} (hB : Zli l ef = true) {i : Nat} {o : Oper} (ho : l[i]? = some o) :
  (∀ e ∈ o.after, Region.binds .any e = true → e.on < i) ∧ ∀ j p s, l[j]? = some p → p.dst = some s → (o.dst = some s → i = j ∨ ZkY ef (Zfz l []) i j = true) ∧ (s ∈ Zlm l o → ZjG ef (Zfz l []) i j = true) := by
 have h1 := List.all_eq_true.1 (Bool.and_eq_true_iff.1 hB).2 i (List.mem_range.2 (List.getElem?_eq_some_iff.1 ho).1)
 simp only [ho, Bool.and_eq_true] at h1
 refine ⟨fun e he hb => ?_, fun j p s hp hs => ?_⟩
 ·
  have := List.all_eq_true.1 h1.1 e (by simpa using he)
  simpa [hb] using this
 ·
  have h2 := List.all_eq_true.1 h1.2 j (List.mem_range.2 (List.getElem?_eq_some_iff.1 hp).1)
  simp only [hp, hs, Bool.and_eq_true, Bool.or_eq_true, decide_eq_true_eq, bne_iff_ne, Bool.not_eq_true'] at h2
  refine ⟨fun hd => ?_, fun hm => ?_⟩
  ·
   rcases h2.1 with (h | h) | h
   ·
    exact .inl h
   ·
    exact absurd hd h
   ·
    exact .inr h
  ·
   rcases h2.2 with h3 | h3
   ·
    have : (Zlm l o).contains s = true := by simpa using hm
    rw [h3] at this; cases this
   ·
    exact h3
theorem Zkd {l : List Oper} {ef : List Nat} (hB : Zli l ef = true) {listed : Array Bool} (closed : ∀ (j : Nat) (oj : Oper), l[j]? = some oj → listed.getD j false = true → ∀ e ∈ oj.after, Region.binds .any e = true → listed.getD e.on false = true) (j : Nat) :
  ∀ (i : Nat) (o : Oper), l[i]? = some o → (∀ e ∈ o.after, Region.binds .any e = true → listed.getD e.on false = true) → ZmH (Zfz l []) i j = true → listed.getD j false = true := by
 intro i
 induction i using Nat.strongRecOn with
 | _ i ih =>
  intro o ho ha hanc
  have hm := Znc l [] i o ho (fun k o h e he hb => by have := (ZcJ hB h).1 e he hb; simpa using this)
  simp only [List.length_nil, Nat.zero_add] at hm
  unfold ZmH at hanc
  rw [hm] at hanc
  rcases Znb _ _ _ _ hanc with h | ⟨e, h1, h2, h3⟩
  ·
   simp at h
  ·
   have he : e ∈ o.after := by simpa using h1
   have hon := ha e he h2
   have hlt := (ZcJ hB ho).1 e he h2
   rcases h3 with rfl | h3
   ·
    exact hon
   ·
    have hil := (List.getElem?_eq_some_iff.1 ho).1
    exact ih e.on hlt _ (List.getElem?_eq_getElem (by omega)) (closed e.on _ (List.getElem?_eq_getElem (by omega)) hon) h3
def Zdr (ef : List Nat) : Nat → List Oper → List Oper
 | _, [] => []
 | i, o :: os => (if ef.contains i then { o with dst := none, op := .move (.const (.bool true)), guard := none } else o) :: Zdr ef (i + 1) os
theorem Zjw (ef : List Nat) : ∀ (l : List Oper) (k i : Nat), (Zdr ef k l)[i]? = (l[i]?).map fun o => if ef.contains (k + i) then { o with dst := none, op := .move (.const (.bool true)), guard := none } else o
 | [], _, _ => by simp [Zdr]
 | o :: os, k, 0 => by simp [Zdr]
 | o :: os, k, i + 1 => by simp only [Zdr, List.getElem?_cons_succ]; rw [Zjw ef os (k + 1) i, Nat.add_assoc, Nat.add_comm 1 i]
theorem Ze3 (ef : List Nat) : ∀ (l : List Oper) (k : Nat), (Zdr ef k l).length = l.length
 | [], _ => rfl
 | o :: os, k => by simp [Zdr, Ze3 ef os]
section
variable {P : Program} {w0 : World} {n : Nat}
def ZdI (P : Program) (w0 : World) (ev : Env) (s : St) (o : Oper) (v : AV) (s' : St) : Prop :=
 match o.op with
 | .call ⟨.value f, args, _⟩ => ZaE ev true f ∧ (∀ x ∈ args.toList, ZaE ev true x) ∧ ZiD P w0 (Zan ev f) (args.toList.map fun x => argP ev (Zan ev x)) s fun r t => r = v ∧ t = s'
 | op => (Zbp P ev true s op).1 ∧ (Zbp P ev true s op).2.1 = v ∧ (Zbp P ev true s op).2.2 = s'
theorem Zlr {ev : Env} {s s' : St} {o : Oper} {v : AV} (hc : ¬ ZgG o.op = true) : ZdI P w0 ev s o v s' = ((Zbp P ev true s o.op).1 ∧ (Zbp P ev true s o.op).2.1 = v ∧ (Zbp P ev true s o.op).2.2 = s') := by
 obtain ⟨dst, op, type, pos, after, guard⟩ := o
 cases op with
 | call cc =>
  obtain ⟨callee, args, ts⟩ := cc
  cases callee with
  | value f => exact absurd rfl hc
  | _ => rfl
 | _ => rfl
def Zoy (P : Program) (w0 : World) (ev : Env) (s : St) (o : Oper) (Post : AV → St → Prop) : Prop :=
 (ZgG o.op = true ∧ match o.op with
  | .call ⟨.value f, args, _⟩ => ZaE ev true f ∧ (∀ x ∈ args.toList, ZaE ev true x) ∧ ZiD P w0 (Zan ev f) (args.toList.map fun x => argP ev (Zan ev x)) s Post
  | _ => False) ∨ ∃ v s', ZdI P w0 ev s o v s' ∧ ∀ r t, r = v ∧ t = s' → Post r t
theorem ZlW {M : Mem} {ev : Env} {s s' : St} {a : Act} {w : World} (h : Rel w0 n M ev s a w) (ro : Option Nat) (m : Nat) {o : Oper} {v : AV} (hv : ZdI P w0 ev s o v s')
  (Q : Exit → Act → World → Prop) (K : Act → World → Prop) (hK : ∀ u w' M', Ext w0 M w M' w' → RelSt w0 M' s' w' → R w0 M' w' u v → K (a.put o.dst u) w') : o.wpIn (FW ro) m P a w K Q := by
 by_cases hc : ZgG o.op = true
 ·
  obtain ⟨dst, op, type, pos, after, guard⟩ := o
  cases op <;> try cases hc
  rename_i cc
  obtain ⟨callee, args, ts⟩ := cc
  cases callee <;> try cases hc
  rename_i f
  obtain ⟨b1, b2, b3⟩ := hv
  refine Zft h ro m b1 b2 b3 Q _ (fun r t hp u w' M' hx hst hu => ?_)
  obtain ⟨rfl, rfl⟩ := hp
  exact hK u w' M' hx hst hu
 ·
  rw [Zlr hc] at hv
  obtain ⟨b1, b2, b3⟩ := hv
  refine Zjg h ro m o b1 Q _ (fun u w' M' hx hst hu => ?_)
  rw [b3] at hst
  rw [b2] at hu
  exact hK u w' M' hx hst hu
theorem ZmB {M : Mem} {ev : Env} {s : St} {a : Act} {w : World} (h : Rel w0 n M ev s a w) (ro : Option Nat) (m : Nat) {o : Oper} {Post : AV → St → Prop} (hv : Zoy P w0 ev s o Post)
  (Q : Exit → Act → World → Prop) (K : Act → World → Prop) (hK : ∀ v s' u w' M', Post v s' → Ext w0 M w M' w' → RelSt w0 M' s' w' → R w0 M' w' u v → K (a.put o.dst u) w') : o.wpIn (FW ro) m P a w K Q := by
 rcases hv with ⟨hc, hv⟩ | ⟨v, s', hv, hp⟩
 ·
  obtain ⟨dst, op, type, pos, after, guard⟩ := o
  cases op <;> try cases hc
  rename_i cc
  obtain ⟨callee, args, ts⟩ := cc
  cases callee <;> try cases hc
  rename_i f
  obtain ⟨b1, b2, b3⟩ := hv
  exact Zft h ro m b1 b2 b3 Q _ (fun r t hp u w' M' hx hst hu => hK r t u w' M' hp hx hst hu)
 ·
  exact ZlW h ro m hv Q K fun u w' M' hx hst hu => hK v s' u w' M' (hp _ _ ⟨rfl, rfl⟩) hx hst hu
def Good (P : Program) (w0 : World) (n : Nat) (l : List Oper) (ef : List Nat) (F : St → Prop) (T : Env → St → Prop) : Nat → List Nat → Env → St → Prop
 | 0, _, _, _ => False
 | k + 1, dn, ev, s => F s ∧ ((ef.all fun i => dn.contains i) = true → T ev s) ∧ ∀ i ∈ ef, dn.contains i = false → (ef.all fun j => !ZmH (Zfz l []) i j || dn.contains j) = true →
   ∃ o, l[i]? = some o ∧ o.guard = none ∧ Zhw n o.dst ∧ ∃ Post : AV → St → Prop, Zoy P w0 (ZdG true l o ev) s o Post ∧ ∀ v s', Post v s' → Good P w0 n l ef F T k (i :: dn) (ZjL ev o.dst true v) s'
structure AInv (w0 : World) (n : Nat) (l : List Oper) (ef : List Nat) (e e1 : Env) (M1 : Mem) (w1 : World) (ds : List Deferred) (dn : List Nat) (ev : Env) (s : St) (listed : Array Bool) (a : Act) (w : World) (M : Mem) : Prop where
 size : listed.size = l.length
 closed : ∀ (j : Nat) (oj : Oper), l[j]? = some oj → listed.getD j false = true → ∀ e ∈ oj.after, Region.binds .any e = true → listed.getD e.on false = true
 eff : ∀ i ∈ ef, (listed.getD i false = true ↔ i ∈ dn)
 sub : ∀ i ∈ dn, i ∈ ef
 rel : RelSt w0 M s w
 tmps : a.tmps.size = n
 defers : a.defers = ds
 ext : Ext w0 M1 w1 M w
 evn : ∀ t, (∀ j ∈ dn, ∀ o, l[j]? = some o → o.dst ≠ some t) → ZdS ev t = ZdS e1 t
 done : ∀ t x, (∃ j ∈ dn, ∃ o, l[j]? = some o ∧ o.dst = some t) → ZdS ev t = some x → entryOk w0 M w (a.tmps.getD t undef) x
 new : ∀ t x, (∀ j ∈ dn, ∀ o, l[j]? = some o → o.dst ≠ some t) → (∃ i o, i ∉ ef ∧ l[i]? = some o ∧ o.dst = some t ∧ listed.getD i false = true) → ZdS e1 t = some x → entryOk w0 M w (a.tmps.getD t undef) x
 old : ∀ t x, (∀ i o, l[i]? = some o → o.dst = some t → listed.getD i false = false) → ZdS e t = some x → entryOk w0 M w (a.tmps.getD t undef) x
theorem Zlk {l : List Oper} {ef : List Nat} {e e1 : Env} {F : St → Prop} {T : Env → St → Prop} {M1 : Mem} {w1 : World} {ds : List Deferred} {ro : Option Nat} {m : Nat} {Q : Exit → Act → World → Prop} (hB : Zli l ef = true)
  (hF : ∀ s, F s → ∃ c, evK P w0 n true l (fun e' s' => e' = e1 ∧ s' = s) c (Zdr ef 0 l) e s)
  (hT : ∀ ev s M a w, T ev s → Rel w0 n M ev s a w → Ext w0 M1 w1 M w → a.defers = ds → Q .normal a w) :
  ∀ fuel listed a w M k dn ev s, fuel = listed.toList.count false → Good P w0 n l ef F T k dn ev s → AInv w0 n l ef e e1 M1 w1 ds dn ev s listed a w M → wpAnyIn (FW ro) m P .any l.toArray Q fuel listed a w := by
 -- what the trail of the operations apart from the effects tells
 have trail : ∀ s, F s → ∃ E C V, Trail P w0 n l (Zdr ef 0 l) e s E C V ∧ E l.length = e1 := by
  intro s hs
  obtain ⟨c, hc⟩ := hF s hs
  obtain ⟨E, C, V, h1, h2, _⟩ := ZkB c _ _ hc
  rw [Ze3] at h2
  exact ⟨E, C, V, h1, h2⟩
 have flt : ∀ {i : Nat} {o : Oper}, i ∉ ef → l[i]? = some o → (Zdr ef 0 l)[i]? = some o := by
  intro i o hi ho
  rw [Zjw, ho]
  simp [hi]
 have flt' : ∀ {i : Nat} {o : Oper} {t : Nat}, (Zdr ef 0 l)[i]? = some o → o.dst = some t → i ∉ ef ∧ l[i]? = some o := by
  intro i o t hi hd
  rw [Zjw] at hi
  cases hl : l[i]? with
  | none => simp [hl] at hi
  | some p =>
   rw [hl] at hi
   simp only [Option.map_some, Nat.zero_add, Option.some.injEq] at hi
   by_cases c : i ∈ ef
   ·
    simp [c] at hi
    subst hi
    cases hd
   ·
    simp [c] at hi
    subst hi
    exact ⟨c, rfl⟩
 have uniq : ∀ (i j : Nat) (o p : Oper) (t : Nat), (Zdr ef 0 l)[i]? = some o → (Zdr ef 0 l)[j]? = some p → o.dst = some t → p.dst = some t → i = j := by
  intro i j o p t hi hj h1 h2
  obtain ⟨a1, a2⟩ := flt' hi h1
  obtain ⟨b1, b2⟩ := flt' hj h2
  rcases ((ZcJ hB a2).2 j p t b2 h2).1 h1 with h | h
  ·
   exact h
  ·
   simp [ZkY, a1, b1] at h
 have noE1 : ∀ s, F s → ∀ t, (∀ i o, i ∉ ef → l[i]? = some o → o.dst ≠ some t) → ZdS e1 t = ZdS e t := by
  intro s hs t ht
  obtain ⟨E, C, V, T', he⟩ := trail s hs
  have := (ZgO T' uniq t l.length (by rw [Ze3]; exact Nat.le_refl _)).1 fun i o _ hi hd => by
   obtain ⟨a1, a2⟩ := flt' hi hd
   exact ht i o a1 a2 hd
  rw [he] at this
  exact this
 intro fuel
 induction fuel with
 | zero =>
  intro listed a w M k dn ev s hf hg inv
  have hall : ∀ j, j < l.length → listed.getD j false = true := by
   intro j hj
   cases hq : listed.getD j false with
   | true => rfl
   | false =>
    exfalso
    have hj' : j < listed.size := by rw [inv.size]; omega
    have : false ∈ listed.toList := by
     have e1 : listed[j] = false := by simpa [hj'] using hq
     rw [← e1]; simp
    have := List.count_pos_iff.2 this
    omega
  cases k with
  | zero => exact hg.elim
  | succ k =>
  obtain ⟨g1, g2, _⟩ := hg
  have hdn : (ef.all fun i => dn.contains i) = true := by
   refine List.all_eq_true.2 fun i hi => ?_
   have c : i < l.length := by simpa using List.all_eq_true.1 (Bool.and_eq_true_iff.1 hB).1 i hi
   simpa using (inv.eff i hi).1 (hall i c)
  refine ⟨?_, hT ev s M a w (g2 hdn) ⟨inv.rel, inv.tmps, fun t x hx => ?_⟩ inv.ext inv.defers⟩
  ·
   refine List.eq_nil_iff_forall_not_mem.2 fun i hi => ?_
   obtain ⟨hun, o, ho, _⟩ := mem_ready.1 hi
   have ho' : l[i]? = some o := by simpa using ho
   have := hall i (List.getElem?_eq_some_iff.1 ho').1
   obtain ⟨q1, q2⟩ := Zng hun
   obtain ⟨q3, q4⟩ := ZoA this
   rw [q2] at q4; cases q4
  ·
   by_cases A : ∃ j ∈ dn, ∃ o, l[j]? = some o ∧ o.dst = some t
   ·
    exact inv.done t x A hx
   ·
    have A' : ∀ j ∈ dn, ∀ o, l[j]? = some o → o.dst ≠ some t := fun j hj o ho hd => A ⟨j, hj, o, ho, hd⟩
    rw [inv.evn t A'] at hx
    by_cases Bf : ∃ i o, i ∉ ef ∧ l[i]? = some o ∧ o.dst = some t
    ·
     obtain ⟨i, o, b1, b2, b3⟩ := Bf
     exact inv.new t x A' ⟨i, o, b1, b2, b3, hall i (List.getElem?_eq_some_iff.1 b2).1⟩ hx
    ·
     rw [noE1 s g1 t fun i o b1 b2 b3 => Bf ⟨i, o, b1, b2, b3⟩] at hx
     refine inv.old t x (fun i o ho hd => ?_) hx
     by_cases c : i ∈ ef
     ·
      exact absurd hd (A' i ((inv.eff i c).1 (hall i (List.getElem?_eq_some_iff.1 ho).1)) o ho)
     ·
      exact absurd ⟨i, o, c, ho, hd⟩ Bf
 | succ fuel ih =>
  intro listed a w M k dn ev s hf hg inv
  cases k with
  | zero => exact hg.elim
  | succ k =>
  obtain ⟨g1, g2, g3⟩ := hg
  have hsome : ∃ j, j < l.length ∧ listed.getD j false = false ∧ ∀ i, i < j → listed.getD i false = true := by
   refine ZiU fun hall => ?_
   have : 0 < listed.toList.count false := by omega
   have hm := List.count_pos_iff.1 this
   obtain ⟨i, hi, he⟩ := List.mem_iff_getElem.1 hm
   have hi' : i < listed.size := by simpa using hi
   have := hall i (by rw [← inv.size]; exact hi')
   simp only [Array.getD_eq_getD_getElem?, Array.getElem?_eq_getElem hi', Option.getD_some] at this
   rw [Array.getElem_toList] at he
   rw [he] at this; cases this
  obtain ⟨k0, hk1, hk2, hk3⟩ := hsome
  have hk' : k0 < listed.size := by rw [inv.size]; omega
  have hkl : l[k0]? = some l[k0] := List.getElem?_eq_getElem hk1
  have hready : k0 ∈ Region.ready .any l.toArray listed :=
   mem_ready.2 ⟨by simpa [hk'] using hk2, l[k0], by simp, fun ed he hb => hk3 _ ((ZcJ hB hkl).1 ed he hb)⟩
  refine ⟨fun h0 => absurd hready (by rw [h0]; simp), fun i hi => ?_⟩
  obtain ⟨hun, o, ho, haft⟩ := mem_ready.1 hi
  have ho' : l[i]? = some o := by simpa using ho
  have hil : i < l.length := (List.getElem?_eq_some_iff.1 ho').1
  have hi' : i < listed.size := by rw [inv.size]; omega
  have hunl : listed.getD i false = false := by simpa [hi'] using hun
  have hanc : ∀ j, ZmH (Zfz l []) i j = true → listed.getD j false = true := fun j hj => Zkd hB inv.closed j i o ho' haft hj
  have hcnt : fuel = (listed.setIfInBounds i true).toList.count false := by
   have hiu : listed[i] = false := by simpa [hi'] using hun
   have hpos : 0 < listed.toList.count false := List.count_pos_iff.2 (by rw [← hiu]; simp)
   rw [Array.toList_setIfInBounds, List.count_set (by simpa using hi')]
   simp only [Array.getElem_toList, hiu]
   rw [if_pos (show (false == false) = true from rfl), if_neg (show ¬ (true == false) = true by decide)]
   omega
  have hclosed : ∀ (j : Nat) (oj : Oper), l[j]? = some oj → (listed.setIfInBounds i true).getD j false = true → ∀ ed ∈ oj.after, Region.binds .any ed = true → (listed.setIfInBounds i true).getD ed.on false = true := by
   intro j oj hj hl ed he hb
   rw [Zci hi'] at hl ⊢
   split
   ·
    rfl
   ·
    by_cases c : i = j
    ·
     subst c
     rw [ho'] at hj; cases hj
     exact haft ed he hb
    ·
     rw [if_neg c] at hl
     exact inv.closed j oj hj hl ed he hb
  unfold wpOpIn
  simp only [ho]
  by_cases hie : i ∈ ef
  ·
   -- an effect
   have hnd : dn.contains i = false := by
    cases hq : dn.contains i with
    | false => rfl
    | true => have := (inv.eff i hie).2 (by simpa using hq); rw [hunl] at this; cases this
   obtain ⟨o2, q1, q2, q3, Post, q4, q5'⟩ := g3 i hie hnd (by
    refine List.all_eq_true.2 fun j hj => ?_
    cases hq : ZmH (Zfz l []) i j with
    | false => rfl
    | true => simpa using (inv.eff j hj).1 (hanc j hq))
   rw [ho'] at q1; cases q1
   have hrel : Rel w0 n M (ZdG true l o ev) s a w := by
    refine ⟨inv.rel, inv.tmps, fun t x hs => ?_⟩
    simp only [ZdG, if_true] at hs
    have hm := ZgA _ _ _ _ hs
    have hx := ZeH _ _ _ _ hs
    by_cases A : ∃ j ∈ dn, ∃ o, l[j]? = some o ∧ o.dst = some t
    ·
     exact inv.done t x A hx
    ·
     have A' : ∀ j ∈ dn, ∀ o, l[j]? = some o → o.dst ≠ some t := fun j hj o ho hd => A ⟨j, hj, o, ho, hd⟩
     rw [inv.evn t A'] at hx
     by_cases Bf : ∃ i o, i ∉ ef ∧ l[i]? = some o ∧ o.dst = some t
     ·
      obtain ⟨j, p, b1, b2, b3⟩ := Bf
      have hl := ((ZcJ hB ho').2 j p t b2 b3).2 hm
      have : ZmH (Zfz l []) i j = true := by simpa [ZjG, hie, b1] using hl
      exact inv.new t x A' ⟨j, p, b1, b2, b3, hanc j this⟩ hx
     ·
      rw [noE1 s g1 t fun i o b1 b2 b3 => Bf ⟨i, o, b1, b2, b3⟩] at hx
      refine inv.old t x (fun j p hp hd => ?_) hx
      by_cases c : j ∈ ef
      ·
       cases hq : listed.getD j false with
       | false => rfl
       | true => exact absurd hd (A' j ((inv.eff j c).1 hq) p hp)
      ·
       exact absurd ⟨j, p, c, hp, hd⟩ Bf
   have hw : Region.wanted o (yielded l.toArray a.tmps) = true := by simp [Region.wanted, q2]
   rw [hw, if_pos rfl]
   refine ZmB hrel ro m q4 Q _ fun v s' u w' M' hpost hx hst hu => ?_
   have q5 := q5' v s' hpost
   have keep : ∀ t x, o.dst ≠ some t → entryOk w0 M w (a.tmps.getD t undef) x → entryOk w0 M' w' ((a.put o.dst u).tmps.getD t undef) x := by
    intro t x hne h1
    rw [Zf2 a o.dst u t (by rw [inv.tmps]; exact q3), if_neg hne]
    exact h1.mono hx
   refine ih _ _ _ M' k (i :: dn) _ s' hcnt q5 ⟨by simp [inv.size], hclosed, fun j hj => ?_, fun j hj => ?_, hst, by rw [ZiP]; exact inv.tmps, by rw [Zfv]; exact inv.defers, inv.ext.trans hx, fun t ht => ?_, fun t x hA hx' => ?_, fun t x hA hN hx' => ?_, fun t x hO hx' => ?_⟩
   ·
    rw [Zci hi']
    by_cases c : i = j
    ·
     subst c; simp
    ·
     rw [if_neg c, inv.eff j hj]; simp [Ne.symm c]
   ·
    rcases List.mem_cons.1 hj with rfl | hj
    ·
     exact hie
    ·
     exact inv.sub j hj
   ·
    have hne := ht i (List.mem_cons_self ..) o ho'
    have : ZdS (ZjL ev o.dst true v) t = ZdS ev t := by
     cases hd : o.dst with
     | none => rfl
     | some d => rw [hd] at hne; simp only [ZjL, ZdS]; rw [if_neg (fun h => hne (by rw [h]))]
    rw [this]
    exact inv.evn t fun j hj => ht j (List.mem_cons_of_mem _ hj)
   ·
    by_cases c : o.dst = some t
    ·
     rw [c] at hx'
     simp only [ZjL, ZdS, if_true, Option.some.injEq] at hx'
     subst hx'
     rw [Zf2 a o.dst u t (by rw [inv.tmps]; exact q3), if_pos c]
     simpa only [entryOk, if_true] using hu
    ·
     have : ZdS (ZjL ev o.dst true v) t = ZdS ev t := by
      cases hd : o.dst with
      | none => rfl
      | some d => rw [hd] at c; simp only [ZjL, ZdS]; rw [if_neg (fun h => c (by rw [h]))]
     rw [this] at hx'
     refine keep t x c (inv.done t x ?_ hx')
     obtain ⟨j, hj, p, hp, hd⟩ := hA
     rcases List.mem_cons.1 hj with rfl | hj
     ·
      rw [ho'] at hp; cases hp; exact absurd hd c
     ·
      exact ⟨j, hj, p, hp, hd⟩
   ·
    have hne := hA i (List.mem_cons_self ..) o ho'
    refine keep t x hne (inv.new t x (fun j hj => hA j (List.mem_cons_of_mem _ hj)) ?_ hx')
    obtain ⟨j, p, b1, b2, b3, b4⟩ := hN
    rw [Zci hi'] at b4
    by_cases c : i = j
    ·
     subst c; exact absurd hie b1
    ·
     rw [if_neg c] at b4; exact ⟨j, p, b1, b2, b3, b4⟩
   ·
    have hne : o.dst ≠ some t := fun hd => by
     have := hO i o ho' hd
     rw [Zci hi', if_pos rfl] at this; cases this
    refine keep t x hne (inv.old t x (fun j p hp hd => ?_) hx')
    have := hO j p hp hd
    rw [Zci hi'] at this
    by_cases c : i = j
    ·
     rw [if_pos c] at this; cases this
    ·
     rwa [if_neg c] at this
  ·
   -- one of the others
   obtain ⟨E, C, V, T', he⟩ := trail s g1
   have hsk := flt hie ho'
   obtain ⟨t1, t2, t3, t4, t5⟩ := T'.step i o hsk
   have look1 : ∀ t j, j ≤ l.length → _ := fun t j hj => ZgO T' uniq t j (by rw [Ze3]; exact hj)
   have noDone : ∀ j ∈ dn, ∀ p, l[j]? = some p → ZmH (Zfz l []) j i = true → False := by
    intro j hj p hp hjx
    have hjl := (inv.eff j (inv.sub j hj)).2 hj
    have := Zkd hB inv.closed i j p hp (inv.closed j p hp hjl) hjx
    rw [hunl] at this; cases this
   have hrel : Rel w0 n M (ZdG true l o (E i)) s a w := by
    refine ⟨inv.rel, inv.tmps, fun t x hs => ?_⟩
    simp only [ZdG, if_true] at hs
    have hm := ZgA _ _ _ _ hs
    have hx := ZeH _ _ _ _ hs
    have A' : ∀ j ∈ dn, ∀ p, l[j]? = some p → p.dst ≠ some t := by
     intro j hj p hp hd
     have hl := ((ZcJ hB ho').2 j p t hp hd).2 hm
     have hje := inv.sub j hj
     exact noDone j hj p hp (by simpa [ZjG, hie, hje] using hl)
    by_cases Bf : ∃ i o, i ∉ ef ∧ l[i]? = some o ∧ o.dst = some t
    ·
     obtain ⟨j, p, b1, b2, b3⟩ := Bf
     have hl := ((ZcJ hB ho').2 j p t b2 b3).2 hm
     have hl' : j < i ∧ ZmH (Zfz l []) i j = true := by simpa [ZjG, hie, b1] using hl
     have e2 := (look1 t i (Nat.le_of_lt hil)).2 j p hl'.1 (flt b1 b2) b3
     have e3 := (look1 t l.length (Nat.le_refl _)).2 j p (by omega) (flt b1 b2) b3
     rw [e2] at hx
     rw [he] at e3
     exact inv.new t x A' ⟨j, p, b1, b2, b3, hanc j hl'.2⟩ (e3.trans hx)
    ·
     have := (look1 t i (Nat.le_of_lt hil)).1 fun j p _ hj hd => by
      obtain ⟨a1, a2⟩ := flt' hj hd
      exact Bf ⟨j, p, a1, a2, hd⟩
     rw [this] at hx
     refine inv.old t x (fun j p hp hd => ?_) hx
     by_cases c : j ∈ ef
     ·
      cases hq : listed.getD j false with
      | false => rfl
      | true => exact absurd hd (A' j ((inv.eff j c).1 hq) p hp)
     ·
      exact absurd ⟨j, p, c, hp, hd⟩ Bf
   refine Zjc hrel ro m t2 (by rw [t4]; exact t5) Q _ fun u w' M' hx hst hu => ?_
   rw [t4] at hu
   have keep : ∀ t x, o.dst ≠ some t → entryOk w0 M w (a.tmps.getD t undef) x → entryOk w0 M' w' ((a.put o.dst u).tmps.getD t undef) x := by
    intro t x hne h1
    rw [Zf2 a o.dst u t (by rw [inv.tmps]; exact t3), if_neg hne]
    exact h1.mono hx
   have noA : ∀ t, o.dst = some t → ∀ j ∈ dn, ∀ p, l[j]? = some p → p.dst ≠ some t := by
    intro t hd j hj p hp hd'
    have hje := inv.sub j hj
    rcases ((ZcJ hB ho').2 j p t hp hd').1 hd with h | h
    ·
     subst h; exact hie hje
    ·
     exact noDone j hj p hp (by simpa [ZkY, hie, hje] using h)
   refine ih _ _ _ M' (k + 1) dn ev s hcnt ⟨g1, g2, g3⟩ ⟨by simp [inv.size], hclosed, fun j hj => ?_, inv.sub, hst, by rw [ZiP]; exact inv.tmps, by rw [Zfv]; exact inv.defers, inv.ext.trans hx, inv.evn, fun t x hA hx' => ?_, fun t x hA hN hx' => ?_, fun t x hO hx' => ?_⟩
   ·
    rw [Zci hi', if_neg (fun (h : i = j) => hie (h ▸ hj))]
    exact inv.eff j hj
   ·
    refine keep t x (fun hd => ?_) (inv.done t x hA hx')
    obtain ⟨j, hj, p, hp, hd'⟩ := hA
    exact noA t hd j hj p hp hd'
   ·
    by_cases c : o.dst = some t
    ·
     rw [Zf2 a o.dst u t (by rw [inv.tmps]; exact t3), if_pos c]
     have e3 := (look1 t l.length (Nat.le_refl _)).2 i o hil hsk c
     rw [he, hx'] at e3
     cases e3
     exact hu
    ·
     refine keep t x c (inv.new t x hA ?_ hx')
     obtain ⟨j, p, b1, b2, b3, b4⟩ := hN
     rw [Zci hi'] at b4
     by_cases c' : i = j
     ·
      subst c'; rw [ho'] at b2; cases b2; exact absurd b3 c
     ·
      rw [if_neg c'] at b4; exact ⟨j, p, b1, b2, b3, b4⟩
   ·
    have hne : o.dst ≠ some t := fun hd => by
     have := hO i o ho' hd
     rw [Zci hi', if_pos rfl] at this; cases this
    refine keep t x hne (inv.old t x (fun j p hp hd => ?_) hx')
    have := hO j p hp hd
    rw [Zci hi'] at this
    by_cases c : i = j
    ·
     rw [if_pos c] at this; cases this
    ·
     rwa [if_neg c] at this
def Conv (w0 : World) (n nb : Nat) (e : Env) (s : St) (e' : Env) (s' : St) : Prop := ∀ M a w, Rel w0 n M e s a w → ∃ M', (∀ Ms ws, Ms.N = nb → Ext w0 Ms ws M w → Ext w0 Ms ws M' w) ∧ Rel w0 n M' e' s' a w
theorem ZfH {M0 : Mem} {W0 : World} {ro : Option Nat} {Q : AQ} {e : Env} {st : St} (hm : P.follows .mixedOrders = true) (ef : List Nat) (L : List Nat) {id : Nat} {l : List Oper} (hB : Zli l ef = true) (F : St → Prop) (k nb : Nat) {e1 e2 : Env} {s2 : St} (hnb : st.boxes.length = nb)
  (hF : ∀ s, F s → ∃ c, evK P w0 n true l (fun e' s' => e' = e1 ∧ s' = s) c (Zdr ef 0 l) e s) (hG : Good P w0 n l ef F (fun ev s => Conv w0 n nb ev s e2 s2) k [] e1 st) (hQ : Q .normal (Zce L e2) s2) : awp P w0 n M0 W0 ro (.region id l.toArray true) Q e st := by
 intro m M a w hr
 obtain ⟨d1, d2⟩ := hr.rel.st.drew
 refine wpIn_region_any hm (Zlk (e := e) (e1 := e1) (M1 := M) (w1 := w) (ds := a.defers) hB hF (fun ev s M' a' w' hc hrel hx hd => ?_) _ _ a _ M k [] e1 st ?_ hG ?_)
 ·
  obtain ⟨M2, x2, r2⟩ := hc M' a' w' hrel
  have x3 := x2 M w (hr.rel.st.N.trans hnb) hx
  refine ⟨M2, _, _, ⟨r2.sub (ZaG L _), hr.ext.trans x3, ?_⟩, hQ⟩
  rw [hd]
  exact hr.marks.later x3 hr.rel.st
 ·
  simp
 ·
  have hnl : ∀ j, (Array.replicate l.toArray.size false).getD j false = false := fun j => by
   by_cases c : j < l.length
   ·
    simp [Array.getD_eq_getD_getElem?, c]
   ·
    simp [Array.getD_eq_getD_getElem?, c]
  exact ⟨by simp, fun j _ _ hl => (by rw [hnl] at hl; cases hl), fun i _ => (by rw [hnl]; simp), fun _ h => (nomatch h), d1, hr.rel.size, rfl, d2, fun _ _ => rfl, fun _ _ ⟨_, h, _⟩ => (nomatch h),
   fun _ _ _ ⟨i, _, _, _, _, h⟩ => (by rw [hnl] at h; cases h), fun t x _ hs => (hr.rel.env t x hs).mono d2⟩
theorem Zbw (L : List Nat) {nb : Nat} {e e' : Env} {s : St} (h : Zce L e = e') : Conv w0 n nb e s e' s := fun M _ w hr => ⟨M, fun _ _ _ h => h, by rw [← h]; exact hr.sub (ZaG L e)⟩
def ZuI (l : List Oper) (ef dn : List Nat) : List Nat := ef.filter fun i => !dn.contains i && ef.all fun j => !ZmH (Zfz l []) i j || dn.contains j
theorem Good.mk {l : List Oper} {ef dn : List Nat} {F : St → Prop} {T : Env → St → Prop} {k : Nat} {ev : Env} {s : St} (rs : List Nat) (hr : ZuI l ef dn = rs) (hF : F s) (hT : (ef.all fun i => dn.contains i) = true → T ev s)
  (h : ∀ i ∈ rs, ∃ o, l[i]? = some o ∧ o.guard = none ∧ Zhw n o.dst ∧ ∃ Post : AV → St → Prop, Zoy P w0 (ZdG true l o ev) s o Post ∧ ∀ v s', Post v s' → Good P w0 n l ef F T k (i :: dn) (ZjL ev o.dst true v) s') : Good P w0 n l ef F T (k + 1) dn ev s :=
 ⟨hF, hT, fun i hi hd ha => h i (by rw [← hr]; exact List.mem_filter.2 ⟨hi, by rw [hd, ha]; rfl⟩)⟩
theorem ZbL {l : List Oper} {ef dn : List Nat} {F : St → Prop} {T : Env → St → Prop} {k i : Nat} {ev : Env} {s : St} {o : Oper} {v : AV} {s' : St} (ho : l[i]? = some o) (hg : o.guard = none) (hd : Zhw n o.dst) (hs : ZdI P w0 (ZdG true l o ev) s o v s')
  (hk : Good P w0 n l ef F T k (i :: dn) (ZjL ev o.dst true v) s') : ∃ o, l[i]? = some o ∧ o.guard = none ∧ Zhw n o.dst ∧ ∃ Post : AV → St → Prop, Zoy P w0 (ZdG true l o ev) s o Post ∧ ∀ v s', Post v s' → Good P w0 n l ef F T k (i :: dn) (ZjL ev o.dst true v) s' :=
 ⟨o, ho, hg, hd, fun r t => r = v ∧ t = s', .inr ⟨v, s', hs, fun _ _ h => h⟩, by rintro _ _ ⟨rfl, rfl⟩; exact hk⟩
theorem ZeI {l : List Oper} {ef dn : List Nat} {F : St → Prop} {T : Env → St → Prop} {k i : Nat} {ev : Env} {s : St} {o : Oper} {f : Operand} {args : Array Operand} {ts : Array TypeId} {Post : AV → St → Prop} (ho : l[i]? = some o) (hg : o.guard = none) (hd : Zhw n o.dst) (hop : o.op = .call ⟨.value f, args, ts⟩)
  (h1 : ZaE (ZdG true l o ev) true f) (h2 : ∀ x ∈ args.toList, ZaE (ZdG true l o ev) true x) (h3 : ZiD P w0 (Zan (ZdG true l o ev) f) (args.toList.map fun x => argP (ZdG true l o ev) (Zan (ZdG true l o ev) x)) s Post)
  (hk : ∀ v s', Post v s' → Good P w0 n l ef F T k (i :: dn) (ZjL ev o.dst true v) s') : ∃ o, l[i]? = some o ∧ o.guard = none ∧ Zhw n o.dst ∧ ∃ Post : AV → St → Prop, Zoy P w0 (ZdG true l o ev) s o Post ∧ ∀ v s', Post v s' → Good P w0 n l ef F T k (i :: dn) (ZjL ev o.dst true v) s' :=
 ⟨o, ho, hg, hd, Post, .inl ⟨by rw [hop]; rfl, by rw [hop]; exact ⟨h1, h2, h3⟩⟩, hk⟩
end
def Tg {α : Type} (_ : α) : Prop := True
theorem tg {α : Type} {a : α} : Tg a := trivial
theorem cl {p : Prop} (h : p := by first | (intros; omega) | (intros; simp_all; done) | (intros; simp only [Bool.or_eq_false_iff, Bool.or_eq_true, Bool.and_eq_true, Bool.and_eq_false_iff, decide_eq_true_eq, decide_eq_false_iff_not, bne_iff_ne] at *; omega)) : p := h
theorem ev {p : Prop} (h : p := by simp +decide only [go_sem, Nat.reduceAdd]) : p := h
theorem ef {p F : Prop} (f : F) (h : F → p := by intro hs; first | rfl | (simp +decide only [go_sem, Nat.reduceAdd, hs]; done)) : p := h f
theorem en {p F : Prop} (f : F) (h : F → p := by intro hs; first | (simp +decide only [go_sem, Nat.reduceAdd, hs]; done) | (simp +decide only [go_sem, Nat.reduceAdd, hs]; rfl)) : p := h f
theorem ow {p : Prop} (h : p := by (simp +decide only [go_sem, Nat.reduceAdd, Za2]) <;> (try (repeat' apply And.intro)) <;> first | omega | assumption) : p := h
theorem ZqH : (0 : Nat) = 0 := rfl
section
variable {P : Program} {w0 : World} {n : Nat} {M0 : Mem} {W0 : World} {ro : Option Nat} {e : Env} {st : St} {Q : AQ}
theorem ZfP {c : Nat} {L : List Nat} (tc : Tg c) (tL : Tg L) {id : Nat} {l : List Oper} (h : evK P w0 n false l (fun e' st' => Q .normal (Zce L e') st') c l e st) : awp P w0 n M0 W0 ro (.region id l.toArray false) Q e st := Zab c L h
theorem Zm9 {L : List Nat} (t : Tg L) {c : Code} (h : awp P w0 n M0 W0 ro c Q (Zce L e) st) : awp P w0 n M0 W0 ro c Q e st := ZbU _ h (ZaG _ _)
theorem ZoB {h c1 c2 : Nat} {L : List Nat} (tt : Tg (h, c1, c2, L)) (hm : P.follows .mixedOrders = true) {id : Nat} {l : List Oper} (hB : ZoK l h = true)
  (hev : evK P w0 n true l (fun e1 s1 => evK P w0 n false l (fun e2 s2 => Q .normal (Zce L e2) s2) c2 (l.drop h) e1 s1) c1 (l.take h) e st) : awp P w0 n M0 W0 ro (.region id l.toArray true) Q e st := Zaw hm h c1 c2 L hB hev
theorem ZgS {c d : Bool} {fv : AV} {args : List AV} {k : AV → St → Prop} (h : Zic P w0 c d fv args st k) : Zic P w0 c d fv args st k := h
theorem cnd {β : Type} {F : Prop} {b : Bool} {X Y r : β} (h : (if b = true then X else Y) = r) (f : F) {c : Operand} {x y : Code} (ht : (b = true ∧ F) → X = r → awp P w0 n M0 W0 ro x Q e st) (hf : (b = false ∧ F) → Y = r → awp P w0 n M0 W0 ro y Q e st)
  (hc : ZaE e true c := by simp +decide only [go_sem, Nat.reduceAdd]) (hb : F → Zan e c = .val (.bool b) := by intro hs; first | (simp +decide only [go_sem, Nat.reduceAdd, hs]; done) | (simp +decide only [go_sem, Nat.reduceAdd, hs]; rfl)) : awp P w0 n M0 W0 ro (.cond c x y) Q e st :=
 Zav b hc (hb f) (fun q => ht ⟨q, f⟩ (ZaC h q)) (fun q => hf ⟨q, f⟩ (ZaD h q))
theorem td {B0 B bs X : List (List AV)} {Rw rows : List RowA} {L : List LoopA} {l : List (Nat × Nat × Own)} {c : Code} (hN : M0.N = B0.length) (hNR : M0.NR = Rw.length) (hNL : M0.NL = L.length) (hc : Calm B0.length Rw.length L.length ⟨B, Rw, L⟩) (ho : Owns Rw rows l)
  (h : awp P w0 n M0 W0 ro c Q e ⟨B ++ bs, rows, L⟩) (hB : B.length = B0.length := by first | rfl | simp only [List.length_set])
  (hbs : ∀ cs ∈ bs, ∀ x ∈ cs, Under (B0.length + bs.length) rows.length L.length x := by (simp +decide only [go_sem, Nat.reduceAdd]) <;> (try (repeat' apply And.intro)) <;> first | omega | assumption)
  (he : Za2 (B0.length + bs.length) rows.length L.length e := by (simp +decide only [go_sem, Nat.reduceAdd, Za2]) <;> (try (repeat' apply And.intro)) <;> first | omega | assumption) : awp P w0 n M0 W0 ro c Q e ⟨B ++ (bs ++ X), rows, L⟩ :=
 Zas hN hNR hNL hB hc ho hbs he h
end
section
variable {P : Program} {w0 : World} {n : Nat} {M0 : Mem} {W0 : World} {ro : Option Nat} {e : Env} {st : St} {Q : AQ}
theorem ZmT (t : TypeId) (hn : n ≤ 1000000) {c : Code} (h : awp P w0 n M0 W0 ro c Q ((1000000 + t, false, .junk) :: e) st) : awp P w0 n M0 W0 ro c Q e st :=
 ZhM _ _ (fun M a w hr => ⟨M, .refl _ _ _, hr.st, hr.size, fun s x hs => by
  simp only [ZdS] at hs
  by_cases q : 1000000 + t = s
  ·
   rw [if_pos q] at hs
   cases hs
   have h1 : 1000000 ≤ s := by rw [← q]; exact Nat.le_add_right _ _
   simp only [entryOk, Bool.false_eq_true, if_false]
   rw [Array.getD_eq_getD_getElem?, Array.getElem?_eq_none (by rw [hr.size]; omega)]
   rfl
  ·
   rw [if_neg q] at hs
   exact hr.env s x hs⟩) h
end
theorem rg {F p q : Prop} (L : List Nat) (f : F) (k : q) (h : Tg L → F → q → p := by
  intro tL hs hq
  apply Zac; intro K hK
  refine ZfP (c := 1) tg tL ?_
  rw [Zaa]; simp +decide only [go_sem, Nat.reduceAdd, hs]
  first | (refine hK _ _ ?_; exact hq) | ((repeat' apply And.intro) <;> first | (refine hK _ _ ?_; exact hq) | (clear hq; exact cl))) : p := h tg f k
theorem rc {F p q : Prop} (c : Nat) (L : List Nat) (f : F) (k : q) (h : Tg c → Tg L → F → q → p := by
  intro tc tL hs hq
  apply Zac; intro K hK
  refine ZfP tc tL ?_
  rw [Zaa]; simp +decide only [go_sem, Nat.reduceAdd, hs]
  first | (refine ZgS ?_; revert K; exact hq) | ((repeat' apply And.intro) <;> first | (refine ZgS ?_; revert K; exact hq) | (clear hq; exact cl))) : p := h tg tg f k
theorem nc {F p q : Prop} (f : F) (k : q) (h : F → q → p := by
  intro hs hq
  rw [Zaa]; simp +decide only [go_sem, Nat.reduceAdd, hs]
  first | (refine ZgS ?_; exact hq) | ((repeat' apply And.intro) <;> first | (refine ZgS ?_; exact hq) | (clear hq; exact cl))) : p := h f k
theorem ne {F p q : Prop} (f : F) {K : Env → St → Prop} {A : Env → St → Prop} (hK : ∀ e s, A e s → K e s) (k : q) (h : F → (∀ e s, A e s → K e s) → q → p := by
  intro hs hK hq
  rw [Zaa]; simp +decide only [go_sem, Nat.reduceAdd, hs]
  first | (refine hK _ _ ?_; exact hq) | ((repeat' apply And.intro) <;> first | (refine hK _ _ ?_; exact hq) | (clear hq; exact cl))) : p := h f hK k
theorem dg {F p q : Prop} (m c1 c2 : Nat) (L : List Nat) (f : F) {P : Program} (hm : P.follows .mixedOrders = true) (k : q) (h : Tg (m, c1, c2, L) → F → P.follows .mixedOrders = true → q → p := by
  intro tt hs hm hq
  apply Zac; intro K hK
  refine ZoB tt hm (by kernel_rfl) ?_
  rw [Zaa]; simp +decide only [go_sem, Nat.reduceAdd, hs]
  (repeat' with_reducible apply And.intro) <;> first | (rw [Zaa]; simp +decide only [go_sem, Nat.reduceAdd, hs]) | (clear hq; exact cl)
  first | (refine hK _ _ ?_; exact hq) | ((repeat' apply And.intro) <;> first | (refine hK _ _ ?_; exact hq) | (clear hq; exact cl))) : p := h tg f hm k
theorem sk {F p q : Prop} (L : List Nat) (f : F) {A K : Env → St → Prop} (hK : ∀ e s, A e s → K e s) (k : q) (h : Tg L → F → (∀ e s, A e s → K e s) → q → p := by
  intro tL hs hK hq
  refine Zm9 tL ?_
  apply ZaJ; simp +decide only [go_sem, Nat.reduceAdd]
  first | (refine hK _ _ ?_; exact hq) | ((repeat' apply And.intro) <;> first | (refine hK _ _ ?_; exact hq) | (clear hq; exact cl))) : p := h tg f hK k
theorem sx {F p q : Prop} (L : List Nat) (f : F) {A K : Env → St → Prop} (hK : ∀ e s, A e s → K e s) (k : q) (h : Tg L → F → (∀ e s, A e s → K e s) → q → p := by
  intro tL hs hK hq
  refine Zm9 tL ?_
  apply ZfT; simp +decide only [go_sem, Nat.reduceAdd]
  first | (refine hK _ _ ?_; exact hq) | ((repeat' apply And.intro) <;> first | (refine hK _ _ ?_; exact hq) | (clear hq; exact cl))) : p := h tg f hK k
theorem rl {F p q : Prop} (L : List Nat) (f : F) {A K : Env → St → Prop} (hK : ∀ e s, A e s → K e s) (k : q) (h : Tg L → F → (∀ e s, A e s → K e s) → q → p := by
  intro tL hs hK hq
  refine ZfP (c := 1) tg tL ?_
  rw [Zaa]; simp +decide only [go_sem, Nat.reduceAdd, hs]
  first | (refine hK _ _ ?_; exact hq) | ((repeat' apply And.intro) <;> first | (refine hK _ _ ?_; exact hq) | (clear hq; exact cl))) : p := h tg f hK k
theorem rk {F p q : Prop} (c : Nat) (L : List Nat) (f : F) (k : q) (h : Tg c → Tg L → F → q → p := by
  intro tc tL hs hq
  refine ZfP tc tL ?_
  rw [Zaa]; simp +decide only [go_sem, Nat.reduceAdd, hs]
  first | (refine ZgS ?_; exact hq) | ((repeat' apply And.intro) <;> first | (refine ZgS ?_; exact hq) | (clear hq; exact cl))) : p := h tg tg f k
theorem hd {P : Program} {w0 : World} {f : FuncId} {fn : Func} {c : Code} {n : Nat} {args : List AV} {B : List (List AV)} {Rw : List RowA} {L : List LoopA} {Post : AV → St → Prop} (rs : List ResultVar) (hf : P.funcs[f]? = some fn) (hn : fn.ntmps = n)
  (k : ∀ (M0 : Mem) (W0 : World), M0.N = B.length → M0.NR = Rw.length → M0.NL = L.length → Calm B.length Rw.length L.length ⟨B, Rw, L⟩ → (∀ x ∈ args, Under B.length Rw.length L.length x) → Owns Rw Rw [] → (0 : Nat) = 0 →
   awp P w0 n M0 W0 none c (Zsf P rs (finP ⟨B, Rw, L⟩ Post)) (Zal 0 args) ⟨B, Rw, L⟩)
  (hb : fn.body = some c := by rfl) (hrs : fn.results = rs.toArray := by rfl) (hm : fn.name ≠ "runtime.NumGoroutine" := by decide) (ha : args.length ≤ n := by exact Nat.le_of_ble_eq_true rfl) : ACalls P w0 f args ⟨B, Rw, L⟩ Post :=
 ACalls.finP (Zb4 (rs := rs) hf hb hrs hn (Zax hf (by rw [hb]; rfl) hm) ha fun M0 W0 h1 h2 h3 h4 h5 => k M0 W0 h1 h2 h3 h4 h5 (Owns.none Rw) rfl)
theorem ix {α β : Type} {l : List α} {i : Int} {F : α → Option β} {r : β} (g : α → AV) (h : (idx l i).bind F = some r) : ∃ x, 0 ≤ i ∧ i < l.length ∧ (l.map g).getD i.toNat .junk = g x ∧ F x = some r := by
 obtain ⟨x, hx, h⟩ := bind_some h
 obtain ⟨a, b, c⟩ := Zam hx
 exact ⟨x, a, b, Zao c, h⟩
abbrev Ck (e : Env) (st : St) (B : List (List AV)) (Rw : List RowA) (L : List LoopA) (e0 : Env) (bs : List (List AV)) (ow : List (Nat × Nat × Own)) (c : Prop) : Prop :=
 ∃ (X : List (List AV)) (rows : List RowA), e = e0 ∧ st = ⟨B ++ (bs ++ X), rows, L⟩ ∧ Owns Rw rows ow ∧ c
end Go.Ev
namespace Go.Proofs.YtgpmlelfkjfbiaaGreatDoor
open Go Go.RowKit Go.Ev
structure Part where
 kind : Int
 index : Int
 name : ByteArray
structure Itm where
 v : Vl
 level : Int
structure Lim where
 name : ByteArray
 low : Int
 high : Int
 bounds : Bool
 scale : Bool
 text : Bool
 list : Bool
 fields : Bool
structure Sch where
 name : ByteArray
 version : Int
 type : Ty
def avL {α : Type} (f : α → AV) (l : List α) : AV := .list (l.map f) .none
@[go_sem] theorem Zew {α : Type} (f : α → AV) (l : List α) : avL f l = .list (l.map f) .none := rfl
@[go_sem] theorem Zwa {α : Type} (f : α → AV) (l : List α) (n : Nat) : (l.map f).take n = (l.take n).map f := List.map_take.symm
@[go_sem] theorem Zvi {α : Type} (f : α → AV) (l : List α) (n : Nat) : (l.map f).drop n = (l.drop n).map f := List.map_drop.symm
attribute [go_sem] List.length_map List.take_length
def avI (x : Int) : AV := .val (.int .i64 x)
@[go_sem] theorem Zeu (x : Int) : avI x = .val (.int .i64 x) := rfl
@[go_sem] theorem ZuH (l : List (Int)) : (∀ y ∈ l.map avI, y.cells.length = 1) ↔ True := iff_true_intro fun y hy => by
 obtain ⟨x, _, rfl⟩ := List.mem_map.1 hy
 simp +decide only [go_sem]
@[go_sem] theorem avI_ob (l : List (Int)) : (∀ y ∈ l.map avI, y.cells.length = 1 ∧ ZaH y = true) ↔ True := iff_true_intro fun y hy => by
 obtain ⟨x, _, rfl⟩ := List.mem_map.1 hy
 simp +decide only [go_sem]
@[go_sem] theorem Zt8 (nb nr nl : Nat) (l : List (Int)) : (∀ y ∈ l.map avI, Under nb nr nl y) ↔ True := iff_true_intro fun y hy => by
 obtain ⟨x, _, rfl⟩ := List.mem_map.1 hy
 exact .val _
@[go_sem] theorem ZxD (l : List (Int)) : (l.map avI).map AV.pub = l.map avI := by
 rw [List.map_map]
 refine List.map_congr_left fun x _ => ?_
 simp +decide only [Function.comp, go_sem]
def avB (x : Bool) : AV := .val (.bool x)
@[go_sem] theorem Zez (x : Bool) : avB x = .val (.bool x) := rfl
@[go_sem] theorem ZtS (l : List (Bool)) : (∀ y ∈ l.map avB, y.cells.length = 1) ↔ True := iff_true_intro fun y hy => by
 obtain ⟨x, _, rfl⟩ := List.mem_map.1 hy
 simp +decide only [go_sem]
@[go_sem] theorem avB_ob (l : List (Bool)) : (∀ y ∈ l.map avB, y.cells.length = 1 ∧ ZaH y = true) ↔ True := iff_true_intro fun y hy => by
 obtain ⟨x, _, rfl⟩ := List.mem_map.1 hy
 simp +decide only [go_sem]
@[go_sem] theorem Zt2 (nb nr nl : Nat) (l : List (Bool)) : (∀ y ∈ l.map avB, Under nb nr nl y) ↔ True := iff_true_intro fun y hy => by
 obtain ⟨x, _, rfl⟩ := List.mem_map.1 hy
 exact .val _
@[go_sem] theorem Zxn (l : List (Bool)) : (l.map avB).map AV.pub = l.map avB := by
 rw [List.map_map]
 refine List.map_congr_left fun x _ => ?_
 simp +decide only [Function.comp, go_sem]
def avS (x : ByteArray) : AV := .val (.string x)
@[go_sem] theorem Zey (x : ByteArray) : avS x = .val (.string x) := rfl
@[go_sem] theorem Zux (l : List (ByteArray)) : (∀ y ∈ l.map avS, y.cells.length = 1) ↔ True := iff_true_intro fun y hy => by
 obtain ⟨x, _, rfl⟩ := List.mem_map.1 hy
 simp +decide only [go_sem]
@[go_sem] theorem avS_ob (l : List (ByteArray)) : (∀ y ∈ l.map avS, y.cells.length = 1 ∧ ZaH y = true) ↔ True := iff_true_intro fun y hy => by
 obtain ⟨x, _, rfl⟩ := List.mem_map.1 hy
 simp +decide only [go_sem]
@[go_sem] theorem ZuQ (nb nr nl : Nat) (l : List (ByteArray)) : (∀ y ∈ l.map avS, Under nb nr nl y) ↔ True := iff_true_intro fun y hy => by
 obtain ⟨x, _, rfl⟩ := List.mem_map.1 hy
 exact .val _
@[go_sem] theorem Zxg (l : List (ByteArray)) : (l.map avS).map AV.pub = l.map avS := by
 rw [List.map_map]
 refine List.map_congr_left fun x _ => ?_
 simp +decide only [Function.comp, go_sem]
def avV (x : Vl) : AV := .agg x.cs
@[go_sem] theorem Zex (x : Vl) : avV x = .agg x.cs := rfl
@[go_sem] theorem ZuM (l : List (Vl)) : (∀ y ∈ l.map avV, y.cells.length = 6) ↔ True := iff_true_intro fun y hy => by
 obtain ⟨x, _, rfl⟩ := List.mem_map.1 hy
 simp +decide only [go_sem]
@[go_sem] theorem avV_ob (l : List (Vl)) : (∀ y ∈ l.map avV, y.cells.length = 6 ∧ ZaH y = true) ↔ True := iff_true_intro fun y hy => by
 obtain ⟨x, _, rfl⟩ := List.mem_map.1 hy
 simp +decide only [go_sem]
@[go_sem] theorem ZuX (nb nr nl : Nat) (l : List (Vl)) : (∀ y ∈ l.map avV, Under nb nr nl y) ↔ True := iff_true_intro fun y hy => by
 obtain ⟨x, _, rfl⟩ := List.mem_map.1 hy
 exact .agg (x.under _ _ _)
@[go_sem] theorem Zwd (l : List (Vl)) : (l.map avV).map AV.pub = l.map avV := by
 rw [List.map_map]
 refine List.map_congr_left fun x _ => ?_
 simp +decide only [Function.comp, go_sem]
def avT (x : Ty) : AV := .agg x.cs
@[go_sem] theorem Zev (x : Ty) : avT x = .agg x.cs := rfl
@[go_sem] theorem Zt1 (l : List (Ty)) : (∀ y ∈ l.map avT, y.cells.length = 7) ↔ True := iff_true_intro fun y hy => by
 obtain ⟨x, _, rfl⟩ := List.mem_map.1 hy
 simp +decide only [go_sem]
@[go_sem] theorem avT_ob (l : List (Ty)) : (∀ y ∈ l.map avT, y.cells.length = 7 ∧ ZaH y = true) ↔ True := iff_true_intro fun y hy => by
 obtain ⟨x, _, rfl⟩ := List.mem_map.1 hy
 simp +decide only [go_sem]
@[go_sem] theorem ZuD (nb nr nl : Nat) (l : List (Ty)) : (∀ y ∈ l.map avT, Under nb nr nl y) ↔ True := iff_true_intro fun y hy => by
 obtain ⟨x, _, rfl⟩ := List.mem_map.1 hy
 exact .agg (x.under _ _ _)
@[go_sem] theorem ZwC (l : List (Ty)) : (l.map avT).map AV.pub = l.map avT := by
 rw [List.map_map]
 refine List.map_congr_left fun x _ => ?_
 simp +decide only [Function.comp, go_sem]
def avF (x : ByteArray × Vl) : AV := .agg (.val (.string x.1) :: x.2.cs)
@[go_sem] theorem Zed (x : ByteArray × Vl) : avF x = .agg (.val (.string x.1) :: x.2.cs) := rfl
@[go_sem] theorem ZtP (l : List (ByteArray × Vl)) : (∀ y ∈ l.map avF, y.cells.length = 7) ↔ True := iff_true_intro fun y hy => by
 obtain ⟨x, _, rfl⟩ := List.mem_map.1 hy
 simp +decide only [go_sem]
@[go_sem] theorem avF_ob (l : List (ByteArray × Vl)) : (∀ y ∈ l.map avF, y.cells.length = 7 ∧ ZaH y = true) ↔ True := iff_true_intro fun y hy => by
 obtain ⟨x, _, rfl⟩ := List.mem_map.1 hy
 simp +decide only [go_sem]
@[go_sem] theorem Zoh (nb nr nl : Nat) (l : List (ByteArray × Vl)) : (∀ y ∈ l.map avF, Under nb nr nl y) ↔ True := iff_true_intro fun y hy => by
 obtain ⟨x, _, rfl⟩ := List.mem_map.1 hy
 exact ZfX nb nr nl [x] _ (by simp [Zg0, avF])
@[go_sem] theorem Zr0 (l : List (ByteArray × Vl)) : (l.map avF).map AV.pub = l.map avF := by
 rw [List.map_map]
 refine List.map_congr_left fun x _ => ?_
 simp +decide only [Function.comp, go_sem]
def Zdz (x : Int × ByteArray × Int × Ty × List Vl) : AV := .agg (.val (.int .i64 x.1) :: .val (.string x.2.1) :: .val (.int .i64 x.2.2.1) :: (x.2.2.2.1.cs ++ [.list (x.2.2.2.2.map avV) .none]))
@[go_sem] theorem Zc4 (x : Int × ByteArray × Int × Ty × List Vl) : Zdz x = .agg (.val (.int .i64 x.1) :: .val (.string x.2.1) :: .val (.int .i64 x.2.2.1) :: (x.2.2.2.1.cs ++ [.list (x.2.2.2.2.map avV) .none])) := rfl
@[go_sem] theorem ZtD (l : List (Int × ByteArray × Int × Ty × List Vl)) : (∀ y ∈ l.map Zdz, y.cells.length = 11) ↔ True := iff_true_intro fun y hy => by
 obtain ⟨x, _, rfl⟩ := List.mem_map.1 hy
 simp +decide only [go_sem]
@[go_sem] theorem Zwp (l : List (Int × ByteArray × Int × Ty × List Vl)) : (∀ y ∈ l.map Zdz, y.cells.length = 11 ∧ ZaH y = true) ↔ True := iff_true_intro fun y hy => by
 obtain ⟨x, _, rfl⟩ := List.mem_map.1 hy
 simp +decide only [go_sem]
@[go_sem] theorem ZsK (nb nr nl : Nat) (l : List (Int × ByteArray × Int × Ty × List Vl)) : (∀ y ∈ l.map Zdz, Under nb nr nl y) ↔ True := iff_true_intro fun y hy => by
 obtain ⟨x, _, rfl⟩ := List.mem_map.1 hy
 exact Ze6 nb nr nl [x] _ (by simp [Zfx, Zdz, Zdb]; intros; rfl)
@[go_sem] theorem Zvy (l : List (Int × ByteArray × Int × Ty × List Vl)) : (l.map Zdz).map AV.pub = l.map Zdz := by
 rw [List.map_map]
 refine List.map_congr_left fun x _ => ?_
 simp +decide only [Function.comp, go_sem]
def ZnJ (x : Sch) : AV := .agg (.val (.string x.name) :: .val (.int .i64 x.version) :: x.type.cs)
@[go_sem] theorem ZbJ (x : Sch) : ZnJ x = .agg (.val (.string x.name) :: .val (.int .i64 x.version) :: x.type.cs) := rfl
@[go_sem] theorem Zsv (l : List (Sch)) : (∀ y ∈ l.map ZnJ, y.cells.length = 9) ↔ True := iff_true_intro fun y hy => by
 obtain ⟨x, _, rfl⟩ := List.mem_map.1 hy
 simp +decide only [go_sem]
@[go_sem] theorem ZvL (l : List (Sch)) : (∀ y ∈ l.map ZnJ, y.cells.length = 9 ∧ ZaH y = true) ↔ True := iff_true_intro fun y hy => by
 obtain ⟨x, _, rfl⟩ := List.mem_map.1 hy
 simp +decide only [go_sem]
@[go_sem] theorem Zsl (nb nr nl : Nat) (l : List (Sch)) : (∀ y ∈ l.map ZnJ, Under nb nr nl y) ↔ True := iff_true_intro fun y hy => by
 obtain ⟨x, _, rfl⟩ := List.mem_map.1 hy
 simp only [ZbJ, ZhO, List.mem_cons, forall_eq_or_imp, Zmg, true_and]; exact x.type.under _ _ _
@[go_sem] theorem ZtM (l : List (Sch)) : (l.map ZnJ).map AV.pub = l.map ZnJ := by
 rw [List.map_map]
 refine List.map_congr_left fun x _ => ?_
 simp +decide only [Function.comp, go_sem]
def ZnY (x : Itm) : AV := .agg (x.v.cs ++ [.val (.int .i64 x.level)])
@[go_sem] theorem ZbM (x : Itm) : ZnY x = .agg (x.v.cs ++ [.val (.int .i64 x.level)]) := rfl
@[go_sem] theorem Zr1 (l : List (Itm)) : (∀ y ∈ l.map ZnY, y.cells.length = 7) ↔ True := iff_true_intro fun y hy => by
 obtain ⟨x, _, rfl⟩ := List.mem_map.1 hy
 simp +decide only [go_sem]
@[go_sem] theorem Zv1 (l : List (Itm)) : (∀ y ∈ l.map ZnY, y.cells.length = 7 ∧ ZaH y = true) ↔ True := iff_true_intro fun y hy => by
 obtain ⟨x, _, rfl⟩ := List.mem_map.1 hy
 simp +decide only [go_sem]
@[go_sem] theorem Zsm (nb nr nl : Nat) (l : List (Itm)) : (∀ y ∈ l.map ZnY, Under nb nr nl y) ↔ True := iff_true_intro fun y hy => by
 obtain ⟨x, _, rfl⟩ := List.mem_map.1 hy
 simp only [ZbM, ZhO, List.mem_append, List.mem_singleton]; rintro z (hz | rfl); exact x.v.under _ _ _ z hz; exact .val _
@[go_sem] theorem ZtV (l : List (Itm)) : (l.map ZnY).map AV.pub = l.map ZnY := by
 rw [List.map_map]
 refine List.map_congr_left fun x _ => ?_
 simp +decide only [Function.comp, go_sem]
def ZpM (x : Lim) : AV := .agg [.val (.string x.name), .val (.int .i64 x.low), .val (.int .i64 x.high), .val (.bool x.bounds), .val (.bool x.scale), .val (.bool x.text), .val (.bool x.list), .val (.bool x.fields)]
@[go_sem] theorem Zc7 (x : Lim) : ZpM x = .agg [.val (.string x.name), .val (.int .i64 x.low), .val (.int .i64 x.high), .val (.bool x.bounds), .val (.bool x.scale), .val (.bool x.text), .val (.bool x.list), .val (.bool x.fields)] := rfl
@[go_sem] theorem Ztb (l : List (Lim)) : (∀ y ∈ l.map ZpM, y.cells.length = 8) ↔ True := iff_true_intro fun y hy => by
 obtain ⟨x, _, rfl⟩ := List.mem_map.1 hy
 simp +decide only [go_sem]
@[go_sem] theorem Zxx (l : List (Lim)) : (∀ y ∈ l.map ZpM, y.cells.length = 8 ∧ ZaH y = true) ↔ True := iff_true_intro fun y hy => by
 obtain ⟨x, _, rfl⟩ := List.mem_map.1 hy
 simp +decide only [go_sem]
@[go_sem] theorem ZsP (nb nr nl : Nat) (l : List (Lim)) : (∀ y ∈ l.map ZpM, Under nb nr nl y) ↔ True := iff_true_intro fun y hy => by
 obtain ⟨x, _, rfl⟩ := List.mem_map.1 hy
 simp +decide only [go_sem]; try intro z hz; simp_all [Vl.under, Ty.under]
@[go_sem] theorem ZvP (l : List (Lim)) : (l.map ZpM).map AV.pub = l.map ZpM := by
 rw [List.map_map]
 refine List.map_congr_left fun x _ => ?_
 simp +decide only [Function.comp, go_sem]
def Ziv (x : ByteArray × Int) : AV := .agg [.val (.string x.1), .val (.int .i64 x.2)]
@[go_sem] theorem Zc3 (x : ByteArray × Int) : Ziv x = .agg [.val (.string x.1), .val (.int .i64 x.2)] := rfl
@[go_sem] theorem Ztm (l : List (ByteArray × Int)) : (∀ y ∈ l.map Ziv, y.cells.length = 2) ↔ True := iff_true_intro fun y hy => by
 obtain ⟨x, _, rfl⟩ := List.mem_map.1 hy
 simp +decide only [go_sem]
@[go_sem] theorem ZwF (l : List (ByteArray × Int)) : (∀ y ∈ l.map Ziv, y.cells.length = 2 ∧ ZaH y = true) ↔ True := iff_true_intro fun y hy => by
 obtain ⟨x, _, rfl⟩ := List.mem_map.1 hy
 simp +decide only [go_sem]
@[go_sem] theorem Zs1 (nb nr nl : Nat) (l : List (ByteArray × Int)) : (∀ y ∈ l.map Ziv, Under nb nr nl y) ↔ True := iff_true_intro fun y hy => by
 obtain ⟨x, _, rfl⟩ := List.mem_map.1 hy
 simp +decide only [go_sem]; try intro z hz; simp_all [Vl.under, Ty.under]
@[go_sem] theorem Zu8 (l : List (ByteArray × Int)) : (l.map Ziv).map AV.pub = l.map Ziv := by
 rw [List.map_map]
 refine List.map_congr_left fun x _ => ?_
 simp +decide only [Function.comp, go_sem]
def ZtB (x : Ty × Ty) : AV := .agg (x.1.cs ++ x.2.cs)
@[go_sem] theorem Zc2 (x : Ty × Ty) : ZtB x = .agg (x.1.cs ++ x.2.cs) := rfl
@[go_sem] theorem Ztz (l : List (Ty × Ty)) : (∀ y ∈ l.map ZtB, y.cells.length = 14) ↔ True := iff_true_intro fun y hy => by
 obtain ⟨x, _, rfl⟩ := List.mem_map.1 hy
 simp +decide only [go_sem]
@[go_sem] theorem Zwf (l : List (Ty × Ty)) : (∀ y ∈ l.map ZtB, y.cells.length = 14 ∧ ZaH y = true) ↔ True := iff_true_intro fun y hy => by
 obtain ⟨x, _, rfl⟩ := List.mem_map.1 hy
 simp +decide only [go_sem]
@[go_sem] theorem Ztg (nb nr nl : Nat) (l : List (Ty × Ty)) : (∀ y ∈ l.map ZtB, Under nb nr nl y) ↔ True := iff_true_intro fun y hy => by
 obtain ⟨x, _, rfl⟩ := List.mem_map.1 hy
 exact .agg fun z hz => (List.mem_append.1 hz).elim (x.1.under _ _ _ z) (x.2.under _ _ _ z)
@[go_sem] theorem ZvB (l : List (Ty × Ty)) : (l.map ZtB).map AV.pub = l.map ZtB := by
 rw [List.map_map]
 refine List.map_congr_left fun x _ => ?_
 simp +decide only [Function.comp, go_sem]
def ZoG (x : Part) : AV := .agg [.val (.int .i64 x.kind), .val (.int .i64 x.index), .val (.string x.name)]
@[go_sem] theorem Zc8 (x : Part) : ZoG x = .agg [.val (.int .i64 x.kind), .val (.int .i64 x.index), .val (.string x.name)] := rfl
@[go_sem] theorem Zs4 (l : List (Part)) : (∀ y ∈ l.map ZoG, y.cells.length = 3) ↔ True := iff_true_intro fun y hy => by
 obtain ⟨x, _, rfl⟩ := List.mem_map.1 hy
 simp +decide only [go_sem]
@[go_sem] theorem Zxm (l : List (Part)) : (∀ y ∈ l.map ZoG, y.cells.length = 3 ∧ ZaH y = true) ↔ True := iff_true_intro fun y hy => by
 obtain ⟨x, _, rfl⟩ := List.mem_map.1 hy
 simp +decide only [go_sem]
@[go_sem] theorem ZsV (nb nr nl : Nat) (l : List (Part)) : (∀ y ∈ l.map ZoG, Under nb nr nl y) ↔ True := iff_true_intro fun y hy => by
 obtain ⟨x, _, rfl⟩ := List.mem_map.1 hy
 simp +decide only [go_sem]; try intro z hz; simp_all [Vl.under, Ty.under]
@[go_sem] theorem Zvo (l : List (Part)) : (l.map ZoG).map AV.pub = l.map ZoG := by
 rw [List.map_map]
 refine List.map_congr_left fun x _ => ?_
 simp +decide only [Function.comp, go_sem]
theorem Zm8 (x : ByteArray × Vl) : (avF x).pub = avF x := by
 have := Zr0 [x]
 simpa using this
theorem Zji (l : List (ByteArray × Vl)) (nb nr nl : Nat) : ∀ y ∈ l.flatMap fun x => (avF x).cells, Under nb nr nl y := fun y hy => by
 obtain ⟨x, hx, hc⟩ := List.mem_flatMap.1 hy
 have h : Under nb nr nl (avF x) := (Zoh nb nr nl [x]).2 trivial _ (List.mem_singleton.2 rfl)
 cases h with
 | agg h => exact h y hc
@[go_sem] theorem Zsy (l : List (List Part)) : (∀ y ∈ l.map (avL ZoG), y.cells.length = 1) ↔ True := iff_true_intro fun y hy => by
 obtain ⟨x, _, rfl⟩ := List.mem_map.1 hy
 simp +decide only [go_sem]
@[go_sem] theorem Zvj (l : List (List Part)) : (∀ y ∈ l.map (avL ZoG), y.cells.length = 1 ∧ ZaH y = true) ↔ True := iff_true_intro fun y hy => by
 obtain ⟨x, _, rfl⟩ := List.mem_map.1 hy
 simp +decide only [go_sem]
@[go_sem] theorem ZrO (nb nr nl : Nat) (l : List (List Part)) : (∀ y ∈ l.map (avL ZoG), Under nb nr nl y) ↔ True := iff_true_intro fun y hy => by
 obtain ⟨x, _, rfl⟩ := List.mem_map.1 hy
 simp +decide only [go_sem]
@[go_sem] theorem Zt3 (l : List (List Part)) : (l.map (avL ZoG)).map AV.pub = l.map (avL ZoG) := by
 rw [List.map_map]
 refine List.map_congr_left fun x _ => ?_
 simp +decide only [Function.comp, go_sem]
@[go_sem] theorem Ztp (l : List (List ByteArray)) : (∀ y ∈ l.map (avL avS), y.cells.length = 1) ↔ True := iff_true_intro fun y hy => by
 obtain ⟨x, _, rfl⟩ := List.mem_map.1 hy
 simp +decide only [go_sem]
@[go_sem] theorem ZxB (l : List (List ByteArray)) : (∀ y ∈ l.map (avL avS), y.cells.length = 1 ∧ ZaH y = true) ↔ True := iff_true_intro fun y hy => by
 obtain ⟨x, _, rfl⟩ := List.mem_map.1 hy
 simp +decide only [go_sem]
@[go_sem] theorem ZsU (nb nr nl : Nat) (l : List (List ByteArray)) : (∀ y ∈ l.map (avL avS), Under nb nr nl y) ↔ True := iff_true_intro fun y hy => by
 obtain ⟨x, _, rfl⟩ := List.mem_map.1 hy
 simp +decide only [go_sem]
@[go_sem] theorem Zve (l : List (List ByteArray)) : (l.map (avL avS)).map AV.pub = l.map (avL avS) := by
 rw [List.map_map]
 refine List.map_congr_left fun x _ => ?_
 simp +decide only [Function.comp, go_sem]
@[go_sem] theorem Zs2 (l : List (List Int)) : (∀ y ∈ l.map (avL avI), y.cells.length = 1) ↔ True := iff_true_intro fun y hy => by
 obtain ⟨x, _, rfl⟩ := List.mem_map.1 hy
 simp +decide only [go_sem]
@[go_sem] theorem Zwy (l : List (List Int)) : (∀ y ∈ l.map (avL avI), y.cells.length = 1 ∧ ZaH y = true) ↔ True := iff_true_intro fun y hy => by
 obtain ⟨x, _, rfl⟩ := List.mem_map.1 hy
 simp +decide only [go_sem]
@[go_sem] theorem Ztv (nb nr nl : Nat) (l : List (List Int)) : (∀ y ∈ l.map (avL avI), Under nb nr nl y) ↔ True := iff_true_intro fun y hy => by
 obtain ⟨x, _, rfl⟩ := List.mem_map.1 hy
 simp +decide only [go_sem]
@[go_sem] theorem ZvM (l : List (List Int)) : (l.map (avL avI)).map AV.pub = l.map (avL avI) := by
 rw [List.map_map]
 refine List.map_congr_left fun x _ => ?_
 simp +decide only [Function.comp, go_sem]
@[go_sem] theorem Znf (l : List Vl) : ZdQ l = l.map avV := Zdb l
@[go_sem] theorem ZpZ (l : List Ty) : ZiK l = l.map avT := Zjd l
@[go_sem] theorem Zqm (l : List (ByteArray × Vl)) : Zg0 l = l.map avF := ZhU l
@[go_sem] theorem Zoj (l : List (Int × ByteArray × Int × Ty × List Vl)) : Zfx l = l.map Zdz := by
 rw [Zif]
 refine List.map_congr_left fun x _ => ?_
 rw [Znf]; rfl
@[go_sem] theorem Zv6 (l : List ByteArray) : (l.map fun x => AV.val (.string x)) = l.map avS := rfl
@[go_sem] theorem Vl.under_mem (nb nr nl : Nat) (v : Vl) : (∀ x ∈ v.cs, Under nb nr nl x) ↔ True := iff_true_intro (v.under nb nr nl)
@[go_sem] theorem Ty.under_mem (nb nr nl : Nat) (v : Ty) : (∀ x ∈ v.cs, Under nb nr nl x) ↔ True := iff_true_intro (v.under nb nr nl)
@[go_sem] theorem ZsA {α : Type} (p : α → Prop) (l m : List α) : (∀ x ∈ l ++ m, p x) ↔ (∀ x ∈ l, p x) ∧ ∀ x ∈ m, p x := List.forall_mem_append
theorem rt {α : Type} {x r : α} {F G C p : Prop} (h : some x = some r) (f : F) (hcalm : C) (hO : G) (k : some x = some r → F → C → G → p := by
  intro h hs hcalm hO
  apply Zaj; simp +decide only [go_sem, Nat.reduceAdd, hs]
  have hgt := Option.some.inj h; subst hgt
  first | refine Zaz hcalm rfl hO.pre (by simp +decide only [go_sem, Nat.reduceAdd]) ⟨?_, ?_⟩ | refine Za5 hcalm rfl hO.pre (by simp +decide only [go_sem, Nat.reduceAdd]) ⟨?_, ?_⟩
  all_goals first | rfl | (simp +decide only [go_sem, Nat.reduceAdd, hs]; done) | (simp +decide only [go_sem, Nat.reduceAdd, Vl.cs, Ty.cs, hs]; done)) : p := k h f hcalm hO
theorem hv {p F : Prop} (f : F) (h : F → p := by intro hs; first | rfl | (simp +decide only [go_sem, Nat.reduceAdd, hs]; done) | (simp +decide only [go_sem, Nat.reduceAdd, Vl.cs, Ty.cs, hs]; done)) : p := h f
theorem Ty.cs_eqs (t : Ty) : t.cs = [.val (.int .i64 t.kind), .val (.int .i64 t.min), .val (.int .i64 t.max), .val (.int .i64 t.scale), .list (t.words.map avS) .none, .list (t.elem.map avT) .none, .list (t.fields.map Zdz) .none] := by
 cases t; rw [Ty.cs, ZpZ, Zoj]; rfl
theorem Vl.cs_eqs (v : Vl) : v.cs = [.val (.int .i64 v.kind), .val (.int .i64 v.int), .val (.int .i64 v.scale), .val (.string v.text), .list (v.list.map avV) .none, .list (v.fields.map avF) .none] := by
 rw [v.cs_eq, Znf, Zqm]
theorem Zkq (w0 : World) (B : List (List AV)) (Rw : List RowA) (L : List LoopA) (hT : Lib.Utf8Tabs 0 1 w0) (s : ByteArray) (hs : s.size ≤ maxLen) :
  ACalls Tryz.prog w0 115 [.val (.string s)] ⟨B, Rw, L⟩ fun v s' => v = .val (.bool (Lib.validD s.data.toList)) ∧ s' = ⟨B, Rw, L⟩ := Zoo w0 _ hT s hs
theorem ZgH (w0 : World) (B : List (List AV)) (Rw : List RowA) (L : List LoopA) (a b : ByteArray) :
  ACalls Tryz.prog w0 141 [.val (.string a), .val (.string b)] ⟨B, Rw, L⟩ fun v s' => v = .val (.int .i64 (Zsx a b)) ∧ s' = ⟨B, Rw, L⟩ := Zmn w0 _ a b
end Go.Proofs.YtgpmlelfkjfbiaaGreatDoor
namespace Go.Ev
open Go Go.RowKit Go.Shelf
section
variable {P : Program} {w0 : World} {st : St}
theorem ZmX {M : Mem} {w w' : World} {e : TypeId} {sz : Nat} {v' : Value} {n : Nat} {us : Nat → Value} {xs : List AV} (hst : RelSt w0 M st w) (hb : Below w.heap.size w w') (ho : w'.ownsRow w.heap.size e sz v' n (flat us n)) (hn : xs.length = n)
  (hus : ∀ i, i < n → (us i).cells.size = sz) (hR : ∀ i (hi : i < xs.length), R w0 M w (us i) xs[i]) : ∃ M', Ext w0 M w M' w' ∧ RelSt w0 M' st w' ∧ R w0 M' w' v' (.list xs .none) := by
 subst hn
 obtain ⟨h1, h2⟩ := ho
 rcases h2 with ⟨rfl, h0⟩ | ⟨g, cap, cur, rfl, hg, hcur, hc1, hc2, hc3, hc4⟩
 ·
  obtain ⟨r1, r2⟩ := hst.later hb w.heap.size 0 (Nat.le_refl _) (.inr rfl)
  have : xs = [] := List.length_eq_zero_iff.1 h0
  subst this
  exact ⟨_, r2, r1, .nil (fun id => by simp)⟩
 ·
  obtain ⟨r1, r2⟩ := hst.later hb g (xs.length * sz) hg (.inl (Array.getElem?_eq_some_iff.1 hcur).1)
  refine ⟨_, r2, r1, .list sz us hc1 hc2 (fun i hi => ⟨hus i hi, fun j hj => ?_⟩) (fun i hi => (hR i hi).mono r2) trivial⟩
  have hlt : i * sz + j < xs.length * sz := by
   have : (i + 1) * sz ≤ xs.length * sz := Nat.mul_le_mul_right _ hi
   rw [Nat.succ_mul] at this; omega
  refine ⟨.inr (by simp only [Mem.newTop, if_true, Nat.zero_add]; exact hlt), ?_⟩
  have hf := Zfb hus i hi j hj
  rw [← hf, ← hc4, List.getElem?_take_of_lt hlt, Array.getElem?_toList]
  simp [World.cell?, hcur]
theorem Znz {ρ : Ren} (L : Go.Proofs.SlLaysE0.n41 P ρ) (i0 : TypeInfo) (z : Value) (size bytes : Nat) (hi : P.info? (ρ.t 23) = some i0) (hz0 : i0.zero = some z) (hz1 : i0.size = size) (hz2 : i0.bytes = bytes) (hzs : z.cells.size = size) (hsz : 0 < size)
  (z23 : ∀ w, (Go.sizeOf (ρ.t 23)).run P w = .ok size w) (a : Addr) (c : Nat) (w : World) :
  Calls P (ρ.f 41) #[.slice (some a) 0 c] w fun e w' => ∃ v', e = .returned v' ∧ w'.ownsRow w.heap.size (ρ.t 23) size v' 0 [] ∧ Below w.heap.size w w' := by
 have mixed := L.mixed; have t4 := L.t4; have a4 := L.a4; have z4 := L.z4; have v4 := L.v4; have t22 := L.t22; have a22 := L.a22; have z22 := L.z22; have v22 := L.v22
 have q22 : ∀ (w : World) (a : Option Addr) (n c n' c' : Nat), (binOp .eql (ρ.t 22) (.slice a n c) (.slice none n' c')).run P w = .ok (.bool a.isNone) w := fun w a n c n' c' => Lib.run_eql_slice_nil w _ _ a n c n' c' L.t22
 have u22 : ∀ w, Sem.run P (underlying (ρ.t 22)) w = .ok (TypeDesc.slice (ρ.t 23)) w := run_underlying t22
 obtain ⟨_, _, FG⟩ := L.f41
 go_enter FG, Go.Proofs.SlBodyN.n41_ntmps ρ
 go_wp2_with (at_builtin; refine wpList_append_own _ rfl _ _ (ρ.t 22) rfl w.heap.size (ρ.t 23) i0 z size bytes t22 hi hz0 hz1 hz2 hzs hsz _ _ _ rfl (World.ownsRow_made w #[] 0 (Nat.le_refl _) (Nat.zero_le _) (by simp)) a 0 c [] rfl (by simp) (by intro j u hj; simp at hj) (by intro u hu; cases hu) (by unfold maxLen; omega) (by omega) (by simp) ?_)
 intro v' w1 hown hgrow hnil
 go_wp2
 go_ret
 exact ⟨v', rfl, by simpa using hown, ((Below.refl _ w).alloc (Nat.le_refl _) _).grown hgrow (by simp) (by intro k hk; simp [Value.ownBlock] at hk; omega)⟩
theorem Znn {ρ : Ren} (L : Go.Proofs.SlLaysE0.n41 P ρ) (hen : ZgD P (ρ.f 41)) (i0 : TypeInfo) (z : Value) (size bytes : Nat) (hi : P.info? (ρ.t 23) = some i0) (hz0 : i0.zero = some z) (hz1 : i0.size = size) (hz2 : i0.bytes = bytes) (hzs : z.cells.size = size) (hsz : 0 < size)
  (z23 : ∀ w, (Go.sizeOf (ρ.t 23)).run P w = .ok size w) {xs : List AV} {o : Own} (hx : ∀ y ∈ xs, y.cells.length = size) (h1 : ∀ y ∈ xs, ZaH y = true) (hbig : xs.length * bytes ≤ 140737488355328) :
  ACalls P w0 (ρ.f 41) [.list xs o] st fun r s => r = .list xs .none ∧ s = st := by
 refine ⟨hen, fun M w vals hst hrow => ?_⟩
 obtain ⟨v, rfl⟩ : ∃ v, vals = #[v] := by
  have := hrow.1
  simp only [List.length_cons, List.length_nil] at this
  exact Array.size_eq_one_iff.1 this
 have hv : R w0 M w v (.list xs o) := hrow.2 0 (by simp) (by simp)
 cases hv with
 | nil ho =>
  refine (Go.Proofs.AnyE.slices_Clone_nil L 0 0 w).mono ?_
  rintro en w' ⟨rfl, rfl⟩
  exact ⟨_, M, _, st, rfl, ⟨rfl, rfl⟩, .refl _ _ _, hst, .nil (fun id => by simp)⟩
 | @emp ad _ ho =>
  refine (Znz L i0 z size bytes hi hz0 hz1 hz2 hzs hsz z23 ad 0 w).mono ?_
  rintro en w' ⟨v', rfl, hown, hbel⟩
  obtain ⟨M', x1, x2, x3⟩ := ZmX (xs := []) (us := fun _ => undef) hst hbel hown rfl (fun i hi => absurd hi (by omega)) (fun i hi => absurd hi (by simp))
  exact ⟨v', M', _, st, rfl, ⟨rfl, rfl⟩, x1, x2, x3⟩
 | @list b off cap _ _ sz us hc hm hcell hu ho =>
  have hus : ∀ i, i < xs.length → (us i).cells.size = size := fun i hi => by
   rw [((hu i hi).cells).1]; exact hx _ (List.getElem_mem _)
  have hcell' : ∀ i, i < xs.length → ∀ j, j < size → w.cell? ⟨b, off + i * size + j, none⟩ = (us i).cells[j]? := fun i hi j hj => by
   have e : sz = size := ((hcell i hi).1).symm.trans (hus i hi)
   subst e
   exact ((hcell i hi).2 j hj).2
  refine (Go.Proofs.AnyE.slices_Clone L i0 z size bytes hi hz0 hz1 hz2 hzs hsz z23 b off xs.length cap (flat us xs.length) w (Zaq hus) (Nat.le_trans hc hm) hbig (fun j u hj => ?_) (fun u hu' => ?_)).mono ?_
  ·
   have := Zda hus hsz hcell' j u hj
   rwa [ZcD] at this
  ·
   obtain ⟨i, hi', hu2⟩ := List.mem_flatMap.1 hu'
   have hil : i < xs.length := by simpa using hi'
   obtain ⟨k, hk, rfl⟩ := List.mem_iff_getElem.1 hu2
   have hcs := (hu i hil).cells
   have hk' : k < (us i).cells.size := by simpa using hk
   have := hcs.2 k hk' (by rw [← hcs.1]; exact hk')
   rw [Array.getElem_toList]
   refine this.oneCell ((hu i hil).cellsOne (fun vs hvs => ?_) _ (List.getElem_mem _))
   have := h1 _ (List.getElem_mem hil)
   rw [hvs] at this; cases this
  ·
   rintro en w' ⟨v', rfl, hown, _, hbel⟩
   obtain ⟨M', x1, x2, x3⟩ := ZmX hst hbel hown rfl hus hu
   exact ⟨v', M', _, st, rfl, ⟨rfl, rfl⟩, x1, x2, x3⟩
def ZqD (P : Program) (t : TypeId) (size bytes : Nat) : Bool :=
 match P.info? t with
 | some i => (i.size == size) && (i.bytes == bytes) && (match i.zero with | some z => z.cells.size == size | none => false)
 | none => false
theorem Zkp {t : TypeId} {size bytes : Nat} (h : ZqD P t size bytes = true) : ∃ i0 z, P.info? t = some i0 ∧ i0.zero = some z ∧ i0.size = size ∧ i0.bytes = bytes ∧ z.cells.size = size := by
 unfold ZqD at h
 cases hi : P.info? t with
 | none => simp [hi] at h
 | some i =>
  simp only [hi, Bool.and_eq_true, beq_iff_eq] at h
  cases hz : i.zero with
  | none => simp [hz] at h
  | some z =>
   simp only [hz, beq_iff_eq] at h
   exact ⟨i, z, rfl, hz, h.1.1, h.1.2, h.2⟩
theorem Zmv {ρ : Ren} (L : Go.Proofs.SlLaysE0.n41 P ρ) (hen : ZgD P (ρ.f 41)) (size bytes : Nat) (hi : ZqD P (ρ.t 23) size bytes = true) (hsz : 0 < size) (z23 : ∀ w, (Go.sizeOf (ρ.t 23)).run P w = .ok size w) {xs : List AV} {o : Own}
  (hx : ∀ y ∈ xs, y.cells.length = size ∧ ZaH y = true) (hbig : xs.length * bytes ≤ 140737488355328) : ACalls P w0 (ρ.f 41) [.list xs o] st fun r s => r = .list xs .none ∧ s = st := by
 obtain ⟨i0, z, a1, a2, a3, a4, a5⟩ := Zkp hi
 exact Znn L hen i0 z size bytes a1 a2 a3 a4 a5 hsz z23 (fun y hy => (hx y hy).1) (fun y hy => (hx y hy).2) hbig
end
theorem Owns.len1 {Rw rows : List RowA} {o ho : Own} {sz n m : Nat} (h : Owns Rw rows [(sz, n, o)] ho) (e : n = m) : Owns Rw rows [(sz, m, o)] ho := e ▸ h
theorem Zbo {B : List (List AV)} {l i : Nat} {cs : List AV} (h : B[l]? = some cs) (hne : i ≠ l) :
  (∀ X R L o c, Zcg ⟨B.set i c ++ X, R, L⟩ (.box l o) = true) ∧ (∀ R L o c, Zcg ⟨B.set i c, R, L⟩ (.box l o) = true) ∧ (∀ X R L o c, ZaM ⟨B.set i c ++ X, R, L⟩ (.box l o) = cs) ∧ (∀ R L o c, ZaM ⟨B.set i c, R, L⟩ (.box l o) = cs) ∧
  (∀ X c, (B.set i c ++ X)[l]? = some cs) ∧ (∀ c, (B.set i c)[l]? = some cs) ∧ (∀ X c, (B.set i c ++ X).getD l [] = cs) ∧ (∀ c, (B.set i c).getD l [] = cs) := by
 have key : ∀ c, (B.set i c)[l]? = some cs := fun c => by rw [List.getElem?_set_ne hne]; exact h
 refine ⟨fun X R L o c => (Zag (key c)).1 X R L o, fun R L o c => (Zag (key c)).2.1 R L o, fun X R L o c => (Zag (key c)).2.2.1 X R L o, fun R L o c => (Zag (key c)).2.2.2.1 R L o, fun X c => (Zag (key c)).2.2.2.2.1 X, key,
  fun X c => (Zag (key c)).2.2.2.2.2.2.1 X, fun c => (Zag (key c)).2.2.2.2.2.2.2.1⟩
theorem ZgP {P : Program} {w0 : World} {n : Nat} {M0 : Mem} {W0 : World} {ro : Option Nat} {Q : AQ} {e : Env} {st : St} (hm : P.follows .mixedOrders = true) (ef : List Nat) (L : List Nat) {id : Nat} {l : List Oper} (hB : Zli l ef = true) (F : St → Prop) (k nb : Nat) {e1 : Env} (hnb : st.boxes.length = nb)
  (hF : ∀ s, F s → ∃ c, evK P w0 n true l (fun e' s' => e' = e1 ∧ s' = s) c (Zdr ef 0 l) e s) (hG : Good P w0 n l ef F (fun ev s => ∃ e2 s2, Conv w0 n nb ev s e2 s2 ∧ Q .normal (Zce L e2) s2) k [] e1 st) : awp P w0 n M0 W0 ro (.region id l.toArray true) Q e st := by
 intro m M a w hr
 obtain ⟨d1, d2⟩ := hr.rel.st.drew
 refine wpIn_region_any hm (Zlk (e := e) (e1 := e1) (M1 := M) (w1 := w) (ds := a.defers) hB hF (fun ev s M' a' w' hc hrel hx hd => ?_) _ _ a _ M k [] e1 st ?_ hG ?_)
 ·
  obtain ⟨e2, s2, hc, hQ⟩ := hc
  obtain ⟨M2, x2, r2⟩ := hc M' a' w' hrel
  have x3 := x2 M w (hr.rel.st.N.trans hnb) hx
  refine ⟨M2, _, _, ⟨r2.sub (ZaG L _), hr.ext.trans x3, ?_⟩, hQ⟩
  rw [hd]
  exact hr.marks.later x3 hr.rel.st
 ·
  simp
 ·
  have hnl : ∀ j, (Array.replicate l.toArray.size false).getD j false = false := fun j => by
   by_cases c : j < l.length
   ·
    simp [Array.getD_eq_getD_getElem?, c]
   ·
    simp [Array.getD_eq_getD_getElem?, c]
  exact ⟨by simp, fun j _ _ hl => (by rw [hnl] at hl; cases hl), fun i _ => (by rw [hnl]; simp), fun _ h => (nomatch h), d1, hr.rel.size, rfl, d2, fun _ _ => rfl, fun _ _ ⟨_, h, _⟩ => (nomatch h),
   fun _ _ _ ⟨i, _, _, _, _, h⟩ => (by rw [hnl] at h; cases h), fun t x _ hs => (hr.rel.env t x hs).mono d2⟩
theorem Zjm {P : Program} {w0 : World} {f : FuncId} {args args' cs : List AV} {st s' : St} {v : AV} (h : ACalls P w0 f args' st fun r s => r = v ∧ s = s') (he : (args ++ cs).map AV.pubA = args') : ZiD P w0 (.clo f cs) args st fun r t => r = v ∧ t = s' := h.pub he
end Go.Ev
namespace Go.Proofs.YtgpmlelfkjfbiaaGreatDoor
open Go Go.RowKit Go.Ev
def ZeL : Go.Shelf.Ren := ⟨fun | 41 => 106 | n => n, fun | 22 => 22 | 23 => 9 | 4 => 4 | n => n, fun | n => n⟩
theorem ZgZ : Go.Proofs.SlLaysE0.n41 Tryz.prog ZeL := {
 mixed := by kernel_rfl
 f41 := ⟨Tryz.f106.name, by decide, Tryz.func106.trans (congrArg some (by kernel_rfl))⟩
 t4 := Tryz.underlying4
 a4 := Tryz.isAgg4
 z4 := Tryz.sizeOf4
 v4 := Tryz.zeroValue4
 t22 := Tryz.underlying22
 a22 := Tryz.isAgg22
 z22 := Tryz.sizeOf22
 v22 := Tryz.zeroValue22 }
theorem ZhC (w0 : World) (B : List (List AV)) (Rw : List RowA) (L : List LoopA) (l : List ByteArray) (h : l.length * 16 ≤ 140737488355328) :
  ACalls Tryz.prog w0 106 [.list (l.map avS) .none] ⟨B, Rw, L⟩ fun r s => r = .list (l.map avS) .none ∧ s = ⟨B, Rw, L⟩ :=
 Zmv (ρ := ZeL) ZgZ (Zax Tryz.func106 rfl (by decide)) 1 16 (by kernel_rfl) (by decide) Tryz.sizeOf9 (by simp +decide only [go_sem]) (by rw [List.length_map]; exact h)
end Go.Proofs.YtgpmlelfkjfbiaaGreatDoor
namespace Go.Ev
open Go Go.RowKit Go.Shelf Go.Sort Go.Proofs
theorem ZjC {α β : Type} {f : α → List β} {sz : Nat} : ∀ {xs : List α}, (∀ x ∈ xs, (f x).length = sz) → (xs.flatMap f).length = xs.length * sz
 | [], _ => by simp
 | x :: xs, h => by
  rw [List.flatMap_cons, List.length_append, h x (List.mem_cons_self ..), ZjC (fun y hy => h y (List.mem_cons_of_mem _ hy)), List.length_cons, Nat.succ_mul, Nat.add_comm]
theorem ZkT {α β : Type} {f : α → List β} {sz : Nat} : ∀ {xs : List α}, (∀ x ∈ xs, (f x).length = sz) → ∀ (i : Nat) (hi : i < xs.length) (j : Nat), j < sz → (xs.flatMap f)[i * sz + j]? = (f xs[i])[j]?
 | [], _, i, hi, _, _ => absurd hi (by simp)
 | x :: xs, h, 0, hi, j, hj => by
  rw [List.flatMap_cons, Nat.zero_mul, Nat.zero_add, List.getElem?_append_left (by rw [h x (List.mem_cons_self ..)]; exact hj)]
  rfl
 | x :: xs, h, i + 1, hi, j, hj => by
  have hl := h x (List.mem_cons_self ..)
  rw [List.flatMap_cons, Nat.succ_mul, List.getElem?_append_right (by omega), hl, show i * sz + sz + j - sz = i * sz + j by omega]
  exact ZkT (fun y hy => h y (List.mem_cons_of_mem _ hy)) i (by simpa using hi) j hj
abbrev cbL : List UInt8 → List UInt8 → Int := Lib.compareBytes
theorem ZoH : ∀ a, cbL a a = 0
 | [] => rfl
 | x :: a => by simp only [cbL, Lib.compareBytes, UInt8.lt_irrefl, if_false]; exact ZoH a
theorem ZkA : ∀ a b, cbL b a = - cbL a b
 | [], [] => rfl
 | [], _ :: _ => rfl
 | _ :: _, [] => rfl
 | x :: a, y :: b => by
  have ih := ZkA a b
  simp only [cbL, Lib.compareBytes] at *
  by_cases h1 : x < y
  ·
   have h2 : ¬ y < x := fun h => by rw [UInt8.lt_iff_toNat_lt] at *; omega
   simp [h1, h2]
  ·
   by_cases h2 : y < x
   ·
    simp [h1, h2]
   ·
    simp only [h1, h2, if_false]; exact ih
theorem ZkD : ∀ a b c, cbL a b ≤ 0 → cbL b c ≤ 0 → cbL a c ≤ 0 ∧ (cbL a b < 0 ∨ cbL b c < 0 → cbL a c < 0)
 | [], [], c, _, h => ⟨h, fun q => q.elim (fun q => absurd q (by decide)) id⟩
 | [], _ :: _, [], _, h => absurd (show (1 : Int) ≤ 0 from h) (by decide)
 | [], _ :: _, _ :: _, _, _ => ⟨show (-1 : Int) ≤ 0 by decide, fun _ => show (-1 : Int) < 0 by decide⟩
 | _ :: _, [], c, h, _ => absurd (show (1 : Int) ≤ 0 from h) (by decide)
 | _ :: _, _ :: _, [], _, h => absurd (show (1 : Int) ≤ 0 from h) (by decide)
 | x :: a, y :: b, z :: c, h1, h2 => by
  have ih := ZkD a b c
  simp only [cbL, Lib.compareBytes, UInt8.lt_iff_toNat_lt] at *
  by_cases p1 : x.toNat < y.toNat
  ·
   by_cases p2 : y.toNat < z.toNat
   ·
    have : x.toNat < z.toNat := by omega
    simp [this]
   ·
    by_cases p3 : z.toNat < y.toNat
    ·
     simp [p2, p3] at h2
    ·
     have : x.toNat < z.toNat := by omega
     simp [this]
  ·
   by_cases p4 : y.toNat < x.toNat
   ·
    simp [p1, p4] at h1
   ·
    simp only [p1, p4, if_false] at h1
    by_cases p2 : y.toNat < z.toNat
    ·
     have : x.toNat < z.toNat := by omega
     simp [this]
    ·
     by_cases p3 : z.toNat < y.toNat
     ·
      simp [p2, p3] at h2
     ·
      simp only [p2, p3, if_false] at h2
      have e1 : ¬ x.toNat < z.toNat := by omega
      have e2 : ¬ z.toNat < x.toNat := by omega
      simp only [p1, p4, p2, p3, e1, e2, if_false]
      exact ih h1 h2
theorem Zrj {α : Type} (nm : α → ByteArray) : SWO (ltOf fun x y : α => Lib.compareBytes (nm x).data.toList (nm y).data.toList) where
 irrefl x := by simp only [ltOf, decide_eq_false_iff_not]; have := ZoH (nm x).data.toList; simp only [cbL] at this; omega
 trans x y z h1 h2 := by
  simp only [ltOf, decide_eq_true_eq] at *
  exact (ZkD (nm x).data.toList (nm y).data.toList (nm z).data.toList (by simp only [cbL]; omega) (by simp only [cbL]; omega)).2 (.inl h1)
 ntrans x y z h1 h2 := by
  simp only [ltOf, decide_eq_false_iff_not] at *
  have a := ZkA (nm x).data.toList (nm y).data.toList
  have b := ZkA (nm y).data.toList (nm z).data.toList
  have c := ZkA (nm x).data.toList (nm z).data.toList
  have := (ZkD (nm z).data.toList (nm y).data.toList (nm x).data.toList (by simp only [cbL] at *; omega) (by simp only [cbL] at *; omega)).1
  simp only [cbL] at *
  omega
def ZiH (nm : Nat → ByteArray) (n : Nat) : List Nat := (pdq (ltOf fun i j : Nat => Lib.compareBytes (nm i).data.toList (nm j).data.toList) (Array.range n) 0 n (Lib.bitLen n) true true).toList
theorem Zj9 (nm : Nat → ByteArray) (n : Nat) : (ZiH nm n).Perm (List.range n) ∧ ∀ i j, i < j → j < n → ¬ Lib.compareBytes (nm ((ZiH nm n)[j]!)).data.toList (nm ((ZiH nm n)[i]!)).data.toList < 0 := by
 have h := pdq_sorts (ltOf fun i j : Nat => Lib.compareBytes (nm i).data.toList (nm j).data.toList) (Zrj nm) (Array.range n) 0 n (Lib.bitLen n) true true (Nat.zero_le _) (by simp) (Or.inl rfl)
 obtain ⟨⟨h1, h2, h3⟩, h4⟩ := h
 have e1 : (pdq (ltOf fun i j : Nat => Lib.compareBytes (nm i).data.toList (nm j).data.toList) (Array.range n) 0 n (Lib.bitLen n) true true).size = n := by simpa using h1
 refine ⟨?_, fun i j hi hj => ?_⟩
 ·
  have e2 : ((pdq (ltOf fun i j : Nat => Lib.compareBytes (nm i).data.toList (nm j).data.toList) (Array.range n) 0 n (Lib.bitLen n) true true).extract 0 n).toList = ZiH nm n := by
   unfold ZiH
   rw [Array.toList_extract]
   simp only [List.extract, Nat.sub_zero, List.drop_zero]
   exact List.take_of_length_le (by rw [Array.length_toList, e1]; exact Nat.le_refl _)
  rw [e2] at h3
  have e3 : ((Array.range n).extract 0 n).toList = List.range n := by simp [List.extract, Array.toList_range]
  rwa [e3] at h3
 ·
  have := h4 i j (Nat.zero_le _) hi hj
  unfold ltOf at this
  have := of_decide_eq_false this
  unfold ZiH
  have g : ∀ k, k < n → ((pdq (ltOf fun i j : Nat => Lib.compareBytes (nm i).data.toList (nm j).data.toList) (Array.range n) 0 n (Lib.bitLen n) true true).toList)[k]! = (pdq (ltOf fun i j : Nat => Lib.compareBytes (nm i).data.toList (nm j).data.toList) (Array.range n) 0 n (Lib.bitLen n) true true)[k]! := fun k hk => by
   rw [getElem!_pos _ k (by rw [Array.length_toList, e1]; exact hk), getElem!_pos _ k (by rw [e1]; exact hk), Array.getElem_toList]
  rw [g i (by omega), g j hj]
  exact this
theorem Zeg (nm : Nat → ByteArray) (n : Nat) : (ZiH nm n).length = n := by simpa using (Zj9 nm n).1.length_eq
theorem Zp8 (nm : Nat → ByteArray) (n : Nat) : ∀ i ∈ ZiH nm n, i < n := fun i hi => by simpa using (Zj9 nm n).1.mem_iff.1 hi
def ZjF {α : Type} (nm : α → ByteArray) (d : α) (xs : List α) : List α := (ZiH (fun i => nm (xs.getD i d)) xs.length).map fun i => xs.getD i d
section
variable {P : Program} {w0 : World} {st : St} {M : Mem} {w : World}
theorem RelSt.setVec (h : RelSt w0 M st w) {id ver sz : Nat} {cs cs' : List AV} {w' : World} (hid : st.rows[id]? = some (.vec ver sz cs)) (hb : Below w0.heap.size w w') (hoth : ∀ b, b < w.heap.size → b ≠ M.blk id → w'.heap[b]? = w.heap[b]?)
  {c' : Array Value} {ty : TypeId} (hc : w'.heap[M.blk id]? = some (.cells c' ty (0, 0))) (hsz : c'.size = M.cap id * sz) (hle : cs'.length ≤ c'.size) (hone : ∀ x ∈ cs', x.one = true) (hR : ∀ i (h1 : i < c'.size) (h2 : i < cs'.length), R w0 M w c'[i] cs'[i]) :
  Ext w0 M w M w' ∧ RelSt w0 M { st with rows := st.rows.set id (.vec ver sz cs') } w' := by
 have hidl : id < st.rows.length := (List.getElem?_eq_some_iff.1 hid).1
 have hidN : id < M.NR := by rw [h.NR]; exact hidl
 obtain ⟨f1, f2, f3, f4, f5, f6, f7, c, ty0, f8, f9, f10, f11, f12⟩ := h.row id _ hid
 have hko : KeepsObj w w' := fun b o h1 h2 => by
  have hlt := (Array.getElem?_eq_some_iff.1 h1).1
  by_cases q : b = M.blk id
  ·
   subst q; rw [f8] at h1; cases h1; cases h2
  ·
   exact (hoth b hlt q).trans h1
 have hx : Ext w0 M w M w' :=
  ⟨Nat.le_refl _, fun _ _ => rfl, Nat.le_refl _, fun _ _ => ⟨Nat.le_refl _, fun _ => ⟨rfl, rfl, rfl⟩⟩, fun b off v hi hv => by
   have hlt := World.block_lt_of_cell? w _ hv
   refine ⟨?_, hi⟩
   have q : b ≠ M.blk id := by
    rintro rfl
    rcases hi with hi | hi
    ·
     omega
    ·
     rw [f4] at hi; omega
   unfold World.cell? at hv ⊢
   simp only [hoth b hlt q] at hv ⊢
   exact hv, hb.size, Nat.le_refl _, fun _ _ => rfl, fun _ h1 h2 => absurd h2 (Nat.not_lt.2 h1), fun b o h1 h2 _ => hko b o h1 h2⟩
 refine ⟨hx, h.below.trans hb, h.N, by simp [h.NR], fun b hb' => h.top b (Nat.le_trans hb.size hb'), h.inj, fun l cs0 hl => ?_, fun i x hi => ?_, h.rowinj, h.loop.mono hx rfl hko⟩
 ·
  obtain ⟨a1, a2, c2, ty2, a3, a4, a5, a6⟩ := h.box l cs0 hl
  have hlN : l < M.N := by rw [h.N]; exact (List.getElem?_eq_some_iff.1 hl).1
  exact ⟨a1, a2, c2, ty2, by rw [hoth _ (Array.getElem?_eq_some_iff.1 a3).1 (f5 l hlN)]; exact a3, a4, a5, fun i h1 h2 => (a6 i h1 h2).mono hx⟩
 ·
  by_cases q : i = id
  ·
   subst q
   rw [List.getElem?_set_self hidl] at hi
   cases hi
   exact ⟨f1, f2, f3, f4, f5, f6, f7, c', ty, hc, hsz, hle, hone, fun i h1 h2 => (hR i h1 h2).mono hx⟩
  ·
   rw [List.getElem?_set_ne (Ne.symm q)] at hi
   have hiN : i < M.NR := by rw [h.NR]; exact (List.getElem?_eq_some_iff.1 hi).1
   have hk := h.row i x hi
   have hne : M.blk i ≠ M.blk id := fun e => q (h.rowinj i id hiN hidN e)
   exact hk.keep hx rfl rfl rfl rfl rfl hk.ne (hoth _ hk.lt hne)
theorem ZoY {ρ : Ren} (L : SlLaysF0.n6 P ρ) (hen : ZgD P (ρ.f 6)) (k : Nat) (aE : ∀ w, (isAgg (ρ.t 24)).run P w = .ok true w) (zE : ∀ w, (Go.sizeOf (ρ.t 24)).run P w = .ok (k + 1) w) (g : FuncId) (hg : ZgD P g)
  (hcmp : ∀ (s s' : ByteArray) (r r' : List Value) (W : World), r.length = k → r'.length = k → (∀ v ∈ r, v.oneCell' = true) → (∀ v ∈ r', v.oneCell' = true) →
   Calls P g #[.agg (.string s :: r).toArray, .agg (.string s' :: r').toArray] W fun e w' => e = .returned (.int .i64 (Lib.compareBytes s.data.toList s'.data.toList)) ∧ ∃ q os', w' = grow (W.drewN q) os')
  {α : Type} (f : α → AV) (nm : α → ByteArray) (d : α) (l : List α) (hf : ∀ x, ∃ r, f x = .agg (.val (.string (nm x)) :: r) ∧ r.length = k) {rid ver : Nat} (hid : st.rows[rid]? = some (.vec ver (k + 1) (l.flatMap fun x => (f x).cells))) (hn : 0 < l.length) (hz : l.length < 4611686018427387904) :
  ACalls P w0 (ρ.f 6) [.vec rid ver 0 l.length, .clo g []] st fun r s => r = .tup [] ∧ s = { st with rows := st.rows.set rid (.vec ver (k + 1) ((ZjF nm d l).flatMap fun x => (f x).cells)) } := by
 refine ⟨hen, fun M w vals hst hrow => ?_⟩
 obtain ⟨v0, v1, rfl⟩ : ∃ v0 v1, vals = #[v0, v1] := by
  have hs := hrow.1
  simp only [List.length_cons, List.length_nil] at hs
  match vals, hs with
  | ⟨[a, b]⟩, _ => exact ⟨a, b, rfl⟩
 have h0 : R w0 M w v0 (.vec rid ver 0 l.length) := hrow.2 0 (by simp) (by simp)
 have h1 : R w0 M w v1 (.clo g []) := hrow.2 1 (by simp) (by simp)
 obtain ⟨cs1, rfl, hc1⟩ := ZmA h1
 have : cs1 = #[] := Array.size_eq_zero_iff.1 hc1.1
 subst this
 have hfl : ∀ x, (f x).cells.length = k + 1 := fun x => by obtain ⟨r, e, hr⟩ := hf x; rw [e]; simp [AV.cells, hr]
 have hcl : (l.flatMap fun x => (f x).cells).length = l.length * (k + 1) := ZjC fun x _ => hfl x
 obtain ⟨f1, f2, f3, f4, f5, f6, f7, c, ty, f8, f9, f10, f11, f12⟩ := hst.row rid _ hid
 cases h0 with
 | @vec _ _ _ _ p cap hi hver hh =>
 obtain ⟨rfl, hcap, hm⟩ := hh f1.symm
 have hblk : M.blk rid < w.heap.size := (Array.getElem?_eq_some_iff.1 f8).1
 have hle : l.length * (k + 1) ≤ c.size := by rw [← hcl]; exact f10
 -- the elements, by their number
 let enc : Nat → List Value := fun i => if i < l.length then (c.toList.drop (i * (k + 1))).take (k + 1) else .string (nm d) :: List.replicate k (.int .i64 0)
 have bnd : ∀ i, i < l.length → i * (k + 1) + (k + 1) ≤ c.size := fun i hi => by
  have : (i + 1) * (k + 1) ≤ l.length * (k + 1) := Nat.mul_le_mul_right _ hi
  rw [Nat.succ_mul] at this; omega
 have hk : ∀ i, (enc i).length = k + 1 := fun i => by
  simp only [enc]; split
  ·
   rename_i q; have := bnd i q; simp; omega
  ·
   simp
 have eget : ∀ i, i < l.length → ∀ j, j < k + 1 → (enc i)[j]? = c[i * (k + 1) + j]? := fun i hi j hj => by
  simp only [enc, if_pos hi]
  rw [List.getElem?_take_of_lt hj, List.getElem?_drop, Array.getElem?_toList]
 have cR : ∀ i (hi : i < l.length) j (hj : j < k + 1), ∃ v x, c[i * (k + 1) + j]? = some v ∧ (f l[i]).cells[j]? = some x ∧ x.one = true ∧ R w0 M w v x := fun i hi j hj => by
  have hb := bnd i hi
  have hlt : i * (k + 1) + j < c.size := by omega
  have hlt2 : i * (k + 1) + j < (l.flatMap fun x => (f x).cells).length := by rw [hcl]; have : (i + 1) * (k + 1) ≤ l.length * (k + 1) := Nat.mul_le_mul_right _ hi; rw [Nat.succ_mul] at this; omega
  have e := ZkT (f := fun x => (f x).cells) (xs := l) (fun x _ => hfl x) i hi j hj
  rw [List.getElem?_eq_getElem hlt2] at e
  exact ⟨_, _, Array.getElem?_eq_getElem hlt, e.symm, f11 _ (List.getElem_mem _), f12 _ hlt hlt2⟩
 have hone : ∀ i, ∀ v ∈ enc i, v.oneCell' = true := fun i v hv => by
  by_cases q : i < l.length
  ·
   obtain ⟨j, hj, rfl⟩ := List.mem_iff_getElem.1 hv
   have hj' : j < k + 1 := by rw [hk] at hj; exact hj
   obtain ⟨v, x, e1, e2, e3, e4⟩ := cR i q j hj'
   have := eget i q j hj'
   rw [List.getElem?_eq_getElem hj, e1] at this
   cases this
   exact e4.oneCell e3
  ·
   simp only [enc, if_neg q, List.mem_cons, List.mem_replicate] at hv
   rcases hv with rfl | ⟨_, rfl⟩ <;> rfl
 let nmI : Nat → ByteArray := fun i => nm (l.getD i d)
 have henc : ∀ i, ∃ r, enc i = .string (nmI i) :: r ∧ r.length = k := fun i => by
  by_cases q : i < l.length
  ·
   obtain ⟨v, x, e1, e2, e3, e4⟩ := cR i q 0 (by omega)
   obtain ⟨r, er, hr⟩ := hf l[i]
   rw [er] at e2
   simp only [AV.cells, List.getElem?_cons_zero, Option.some.injEq] at e2
   subst e2
   have ev : v = .string (nm l[i]) := by cases e4; rfl
   subst ev
   have hg := eget i q 0 (by omega)
   rw [e1] at hg
   cases he : enc i with
   | nil => rw [he] at hg; cases hg
   | cons y ys =>
    rw [he] at hg
    simp only [List.getElem?_cons_zero, Option.some.injEq] at hg
    have hl := hk i
    rw [he] at hl
    refine ⟨ys, ?_, by simpa using hl⟩
    simp only [nmI, List.getD_eq_getElem?_getD, List.getElem?_eq_getElem q, Option.getD_some, hg]
  ·
   exact ⟨List.replicate k (.int .i64 0), by simp only [enc, nmI, if_neg q, List.getD_eq_getElem?_getD, List.getElem?_eq_none (Nat.le_of_not_lt q), Option.getD_none], by simp⟩
 let cf : Nat → Nat → Int := fun i j => Lib.compareBytes (nmI i).data.toList (nmI j).data.toList
 have hlays : CmpLays P g #[] enc (k + 1) cf (M.blk rid) 0 (Array.range l.length).size w := by
  intro m os dk hdk x y
  obtain ⟨r, e1, e2⟩ := henc x
  obtain ⟨r', e3, e4⟩ := henc y
  have a1 := hone x
  have a2 := hone y
  rw [e1] at a1
  rw [e3] at a2
  have := hcmp (nmI x) (nmI y) r r' (sortWorldK enc (k + 1) w (M.blk rid) 0 m dk os) e2 e4 (fun v hv => a1 v (List.mem_cons_of_mem _ hv)) (fun v hv => a2 v (List.mem_cons_of_mem _ hv))
  simp only [e1, e3, cf]
  exact this
 have hH : HoldsK enc (k + 1) w (M.blk rid) 0 (Array.range l.length) := by
  intro t ht
  rw [size_flatK, Array.size_range] at ht
  rw [get_flatK _ _ _ _ (by simpa using ht)]
  have hq : t / (k + 1) < l.length := Nat.div_lt_of_lt_mul (by rw [Nat.mul_comm]; exact ht)
  have hr : t % (k + 1) < k + 1 := Nat.mod_lt _ (by omega)
  have e1 : ((Array.range l.length)[t / (k + 1)]! : Nat) = t / (k + 1) := by simp [hq]
  have e2 := eget _ hq _ hr
  have e3 : t / (k + 1) * (k + 1) + t % (k + 1) = t := by rw [Nat.mul_comm]; exact Nat.div_add_mod t (k + 1)
  rw [e3] at e2
  rw [e1]
  have hlt : t < c.size := by omega
  have hl2 : t % (k + 1) < (enc (t / (k + 1))).length := by rw [hk]; exact hr
  rw [getElem!_pos (enc (t / (k + 1))) _ hl2]
  rw [List.getElem?_eq_getElem hl2, Array.getElem?_eq_getElem hlt] at e2
  refine ⟨?_, ?_⟩
  ·
   simp only [World.cell?, f8, Nat.zero_add, id_eq]
   rw [Array.getElem?_eq_getElem hlt]
   exact e2.symm
  ·
   simp [World.frozen?, f8]
 have hS := AnyQ.slices_SortFunc_eq L (k + 1) aE zE enc hk hone cf (Zrj nmI) g #[] (M.blk rid) 0 cap (Array.range l.length) w (fun a w' => by
   have := hg a w'
   exact this) hlays hH hblk (by simpa using hz)
 simp only [Array.size_range] at hS
 have e0 : (some ⟨M.blk rid, 0 * M.rsz rid, none⟩ : Option Addr) = some ⟨M.blk rid, 0, none⟩ := by rw [Nat.zero_mul]
 rw [e0]
 refine hS.mono ?_
 rintro en w' ⟨rfl, m, os, rfl⟩
 -- what the sort leaves
 let D := pdq (ltOf cf) (Array.range l.length) 0 l.length (Lib.bitLen l.length) true true
 have hD : D.toList = ZiH nmI l.length := rfl
 have hDs : D.size = l.length := by rw [← Array.length_toList, hD, Zeg]
 have hDi : ∀ i, i < l.length → (D[i]! : Nat) < l.length := fun i hi => by
  have hi' : i < D.size := by omega
  rw [getElem!_pos D i hi']
  exact Zp8 nmI l.length _ (by rw [← hD]; exact Array.getElem_mem_toList hi')
 have hDg : ∀ i (hi : i < l.length), (ZiH nmI l.length)[i]'(by rw [Zeg]; exact hi) = (D[i]! : Nat) := fun i hi => by
  have hi' : i < D.size := by omega
  rw [getElem!_pos D i hi', ← Array.getElem_toList]
  simp only [hD]
 let F := flatK enc (k + 1) D
 have hF : F.size = l.length * (k + 1) := by simp only [F, size_flatK, hDs]
 let c' : Array Value := putCells id 0 F c
 have hsl : (ZjF nm d l).length = l.length := by simp only [ZjF, List.length_map]; exact Zeg _ _
 have hcl' : ((ZjF nm d l).flatMap fun x => (f x).cells).length = l.length * (k + 1) := by rw [ZjC fun x _ => hfl x, hsl]
 have key : ∀ t, t < l.length * (k + 1) → ∃ v x, c'[t]? = some v ∧ ((ZjF nm d l).flatMap fun x => (f x).cells)[t]? = some x ∧ x.one = true ∧ R w0 M w v x := fun t ht => by
  have hq : t / (k + 1) < l.length := Nat.div_lt_of_lt_mul (by rw [Nat.mul_comm]; exact ht)
  have hr : t % (k + 1) < k + 1 := Nat.mod_lt _ (by omega)
  have e3 : t / (k + 1) * (k + 1) + t % (k + 1) = t := by rw [Nat.mul_comm]; exact Nat.div_add_mod t (k + 1)
  obtain ⟨v, x, e1, e2, e4, e5⟩ := cR _ (hDi _ hq) _ hr
  refine ⟨v, x, ?_, ?_, e4, e5⟩
  ·
   have hlt : t < c.size := by omega
   simp only [c', putCells, Array.getElem?_mapIdx, Array.getElem?_eq_getElem hlt, Option.map_some, Nat.zero_add, Nat.zero_le, true_and, hF, if_pos ht, Nat.sub_zero, id_eq]
   simp only [F]
   rw [get_flatK _ _ _ _ (by rw [hDs]; exact ht)]
   have hl2 : t % (k + 1) < (enc (D[t / (k + 1)]!)).length := by rw [hk]; exact hr
   rw [getElem!_pos (enc (D[t / (k + 1)]!)) _ hl2, ← List.getElem?_eq_getElem hl2, eget _ (hDi _ hq) _ hr]
   exact e1
  ·
   have e6 := ZkT (f := fun x => (f x).cells) (xs := ZjF nm d l) (fun x _ => hfl x) (t / (k + 1)) (by rw [hsl]; exact hq) (t % (k + 1)) hr
   rw [e3] at e6
   rw [e6]
   have e7 : (ZjF nm d l)[t / (k + 1)]'(by rw [hsl]; exact hq) = l[(D[t / (k + 1)]! : Nat)]'(hDi _ hq) := by
    simp only [ZjF, List.getElem_map]
    rw [show (ZiH (fun i => nm (l.getD i d)) l.length)[t / (k + 1)]'(by rw [Zeg]; exact hq) = (D[t / (k + 1)]! : Nat) from hDg _ hq]
    rw [List.getD_eq_getElem?_getD, List.getElem?_eq_getElem (hDi _ hq), Option.getD_some]
   rw [e7]
   exact e2
 have hcs' : c'.size = c.size := by simp [c', putCells]
 have hheap : (sortWorldK enc (k + 1) w (M.blk rid) 0 m D os).heap = w.heap.modify (M.blk rid) (onCells (putCells id 0 F)) ++ os := rfl
 have hoth : ∀ b, b < w.heap.size → b ≠ M.blk rid → (sortWorldK enc (k + 1) w (M.blk rid) 0 m D os).heap[b]? = w.heap[b]? := fun b hb hne => by
  rw [hheap, Array.getElem?_append_left (by simpa using hb), Array.getElem?_modify, if_neg (fun q => hne q.symm)]
 obtain ⟨x1, x2⟩ := hst.setVec (c' := c') (ty := ty) (cs' := (ZjF nm d l).flatMap fun x => (f x).cells) (w' := sortWorldK enc (k + 1) w (M.blk rid) 0 m D os) hid
  ⟨rfl, rfl, rfl, by rw [hheap]; simp, fun b hb => hoth b (Nat.lt_of_lt_of_le hb hst.base_le) (by omega)⟩ hoth
  (by rw [hheap, Array.getElem?_append_left (by simpa using hblk), Array.getElem?_modify, if_pos rfl, f8]; rfl) (by rw [hcs']; exact f9) (by rw [hcl', hcs']; exact hle)
  (fun x hx => by
   obtain ⟨t, ht, rfl⟩ := List.mem_iff_getElem.1 hx
   rw [hcl'] at ht
   obtain ⟨v, y, _, e2, e3, _⟩ := key t ht
   rw [List.getElem?_eq_getElem (by rw [hcl']; exact ht)] at e2
   cases e2
   exact e3)
  (fun t h1 h2 => by
   rw [hcl'] at h2
   obtain ⟨v, y, e1, e2, _, e4⟩ := key t h2
   rw [List.getElem?_eq_getElem (by rw [hcl']; exact h2)] at e2
   rw [Array.getElem?_eq_getElem h1] at e1
   cases e1; cases e2
   exact e4)
 exact ⟨.tuple #[], M, .tup [], _, rfl, ⟨rfl, rfl⟩, x1, x2, .tup rfl (fun i h1 _ => absurd h1 (by simp))⟩
end
structure VOne (Rw rows : List RowA) (sz : Nat) (xs : List AV) (x : AV) : Prop where
 pre : Rw <+: rows
 calm : ∀ r ∈ rows.drop Rw.length, ∀ y ∈ r.cells, ∀ a b c, Under a b c y
 at_ : (xs = [] ∧ x = .list [] .seed) ∨ ∃ id ver, x = .vec id ver 0 xs.length ∧ 0 < xs.length ∧ Rw.length ≤ id ∧ rows[id]? = some (.vec ver sz (xs.flatMap AV.cells))
theorem VOne.none (Rw : List RowA) (sz : Nat) : VOne Rw Rw sz [] (.list [] .seed) := ⟨List.prefix_refl _, by simp, .inl ⟨rfl, rfl⟩⟩
theorem VOne.of_eq {Rw rows : List RowA} {sz : Nat} {xs ys : List AV} {x : AV} (h : VOne Rw rows sz xs x) (he : xs = ys) : VOne Rw rows sz ys x := he ▸ h
theorem VOne.len {Rw rows : List RowA} {sz : Nat} {xs : List AV} {x : AV} (h : VOne Rw rows sz xs x) : Rw.length ≤ rows.length := h.pre.length_le
theorem VOne.under {Rw rows : List RowA} {sz : Nat} {xs : List AV} {x : AV} (h : VOne Rw rows sz xs x) (nb nl : Nat) : Under nb rows.length nl x := by
 rcases h.at_ with ⟨_, rfl⟩ | ⟨id, ver, rfl, _, _, h3⟩
 ·
  exact .list (by simp) trivial
 ·
  exact .vec (List.getElem?_eq_some_iff.1 h3).1
theorem VOne.cell {Rw rows : List RowA} {sz : Nat} {xs : List AV} {x : AV} (h : VOne Rw rows sz xs x) : x.cells = [x] ∧ ZaH x = true ∧ x.pubCell.pubCell = x.pubCell := by
 rcases h.at_ with ⟨_, rfl⟩ | ⟨id, ver, rfl, _, _, h3⟩ <;> exact ⟨rfl, rfl, rfl⟩
theorem VOne.append {P : Program} {t el : TypeId} {sz by8 : Nat} {ag : Bool} {Rw rows : List RowA} {xs : List AV} {x y : AV} (h : VOne Rw rows sz xs x) (he : elT P t = some (el, sz, ag, by8)) (hz : (ZbW P el).isSome = true) (hs : 0 < sz)
  (hb : (xs.length + 1) * by8 ≤ 140737488355328) (hb2 : xs.length + 1 ≤ 4611686018427387904) (hy : y.cells.length = sz ∧ ZaH y = true) (hp : y.pub = y) (hu : ∀ c ∈ y.cells, ∀ a b d, Under a b d c) (hxs : ∀ z ∈ xs, z.cells.length = sz) :
  ∃ x' rows', VOne Rw rows' sz (xs ++ [y]) x' ∧ ∀ (B : List (List AV)) (L : List LoopA) (o2 : Own), ZaS P ⟨B, rows, L⟩ t x (.list [y] o2) = (True, x', ⟨B, rows', L⟩) := by
 have hl := h.len
 have ob : Zbk P el sz by8 xs.length [y] = True := by
  simp only [Zbk, hs, hz, List.length_singleton, hb, hb2, true_and, List.mem_singleton, forall_eq, hy, and_self]
 rcases h.at_ with ⟨rfl, rfl⟩ | ⟨id, ver, rfl, h1, h2, h3⟩
 ·
  refine ⟨.vec rows.length 0 0 1, rows ++ [.vec 0 sz y.cells], ⟨h.pre.trans (List.prefix_append _ _), fun r hr z hz' a b c => ?_, .inr ⟨rows.length, 0, rfl, by simp, hl, by simp⟩⟩, fun B L o2 => ?_⟩
  ·
   rw [List.drop_append_of_le_length hl] at hr
   rcases List.mem_append.1 hr with hr | hr
   ·
    exact h.calm r hr z hz' a b c
   ·
    simp only [List.mem_singleton] at hr; subst hr; exact hu z hz' a b c
  ·
   simp only [ZaS, he, ZaA, Zbi, List.length_singleton, List.length_nil, List.flatMap_cons, List.flatMap_nil, List.append_nil, hp]
   rw [show Zbk P el sz by8 0 [y] = True from ob]
   simp
 ·
  have hlt := (List.getElem?_eq_some_iff.1 h3).1
  have hcl : (xs.flatMap AV.cells).length = xs.length * sz := ZjC hxs
  refine ⟨.vec id (ver + 1) 0 (xs.length + 1), rows.set id (.vec (ver + 1) sz (xs.flatMap AV.cells ++ y.cells)), ⟨ZgK h.pre h2 _, fun r hr z hz' a b c => ?_, .inr ⟨id, ver + 1, by rw [List.length_append]; rfl, by simp, h2, by simp [hlt, List.flatMap_append]⟩⟩, fun B L o2 => ?_⟩
  ·
   rw [List.drop_set, if_neg (by omega)] at hr
   rcases List.mem_or_eq_of_mem_set hr with hr | rfl
   ·
    exact h.calm r hr z hz' a b c
   ·
    rcases List.mem_append.1 hz' with q | q
    ·
     exact h.calm (.vec ver sz (xs.flatMap AV.cells)) (by
      rw [List.mem_iff_getElem?]
      exact ⟨id - Rw.length, by rw [List.getElem?_drop, Nat.add_sub_cancel' h2]; exact h3⟩) z q a b c
    ·
     exact hu z q a b c
  ·
   simp only [ZaS, he, ZaA, Zbi, List.length_singleton, List.flatMap_cons, List.flatMap_nil, List.append_nil, hp, Ze4, h3, if_true]
   rw [ob]
   simp only [hcl, true_and, Nat.le_refl, and_self, Prod.mk.injEq, true_and, List.take_of_length_le (Nat.le_of_eq hcl)]
section
variable {P : Program} {w0 : World} {n : Nat} {e : Env} {st : St} {M0 : Mem} {W0 : World} {ro : Option Nat} {Q : AQ} {c : Code}
theorem tdV {B0 B bs X : List (List AV)} {Rw rows : List RowA} {L : List LoopA} {sz : Nat} {xs : List AV} {x : AV} (hN : M0.N = B0.length) (hNR : M0.NR = Rw.length) (hNL : M0.NL = L.length) (hc : Calm B0.length Rw.length L.length ⟨B, Rw, L⟩) (ho : VOne Rw rows sz xs x)
  (h : awp P w0 n M0 W0 ro c Q e ⟨B ++ bs, rows, L⟩) (hB : B.length = B0.length := by first | rfl | simp only [List.length_set])
  (hbs : ∀ cs ∈ bs, ∀ x ∈ cs, Under (B0.length + bs.length) rows.length L.length x := by (simp +decide only [go_sem, Nat.reduceAdd]) <;> (try (repeat' apply And.intro)) <;> first | omega | assumption)
  (he : Za2 (B0.length + bs.length) rows.length L.length e := by (simp +decide only [go_sem, Nat.reduceAdd, Za2]) <;> (try (repeat' apply And.intro)) <;> first | omega | assumption) : awp P w0 n M0 W0 ro c Q e ⟨B ++ (bs ++ X), rows, L⟩ := by
 rw [← hB] at hN hc hbs he
 clear hB B0
 have hl := ho.len
 have e1 : St.cut ⟨B ++ (bs ++ X), rows, L⟩ (B.length + bs.length) rows.length L.length = ⟨B ++ bs, rows, L⟩ := by
  simp only [St.cut, List.take_length, ← List.append_assoc]
  rw [List.take_left' (by simp)]
 refine Zk6 (B.length + bs.length) rows.length L.length (by simp) (Nat.le_refl _) (Nat.le_refl _) (by omega) (by omega) (by omega) ?_ he (by rw [e1]; exact h)
 rw [e1]
 refine ⟨fun r hr x hx => ?_, fun cs hcs x hx => ?_, fun la hla k x hx ht => ?_⟩
 ·
  obtain ⟨t, rfl⟩ := ho.pre
  rcases List.mem_append.1 hr with hr | hr
  ·
   exact Zbf (by omega) (by omega) (Nat.le_refl _) (hc.rows r hr x hx)
  ·
   exact ho.calm r (by simpa using hr) x hx _ _ _
 ·
  rcases List.mem_append.1 hcs with hcs | hcs
  ·
   exact Zbf (by omega) (by omega) (Nat.le_refl _) (hc.boxes cs hcs x hx)
  ·
   exact hbs cs hcs x hx
 ·
  exact Zbf (by omega) (by omega) (Nat.le_refl _) (hc.loops la hla k x hx ht)
theorem ZoD {sz : Nat} {ys : List AV} (hy : ∀ y ∈ ys, ∃ cs, y = .agg cs ∧ cs.length = sz) : Zmh sz true (ys.flatMap AV.cells) 0 ys.length = ys := by
 have hl : ∀ y ∈ ys, y.cells.length = sz := fun y h => by obtain ⟨cs, rfl, q⟩ := hy y h; exact q
 refine List.ext_getElem (by simp [Zmh]) (fun i h1 h2 => ?_)
 simp only [Zmh, List.getElem_map, List.getElem_range, Nat.zero_add, ZjR, if_true]
 obtain ⟨cs, e, q⟩ := hy _ (List.getElem_mem h2)
 rw [e]
 congr 1
 refine List.ext_getElem? fun j => ?_
 by_cases hj : j < sz
 ·
  rw [List.getElem?_take_of_lt hj, List.getElem?_drop, ZkT hl i h2 j hj, e]; rfl
 ·
  rw [List.getElem?_eq_none (by simp; omega), List.getElem?_eq_none (by omega)]
end
end Go.Ev
namespace Go.Proofs
open Go.Shelf
def Tryz.laysSort_ren : Go.Shelf.Ren := ⟨fun | 6 => 218 | 15 => 237 | 14 => 236 | 28 => 257 | 29 => 258 | 20 => 249 | 21 => 250 | 22 => 251 | 23 => 252 | 24 => 253 | 25 => 254 | 26 => 255 | 27 => 256 | 46 => 263 | 47 => 264 | 48 => 265 | 49 => 266 | 50 => 267 | 57 => 270 | n => n, fun | 22 => 44 | 24 => 75 | 25 => 155 | 3 => 3 | 39 => 180 | 0 => 0 | 53 => 220 | 55 => 216 | 4 => 4 | 46 => 239 | 45 => 238 | 50 => 111 | 5 => 5 | 9 => 9 | 66 => 249 | 70 => 84 | 76 => 254 | 77 => 170 | n => n, fun | n => n⟩
theorem Tryz.laysSort : Go.Proofs.SlLaysF0.n6 Tryz.prog Tryz.laysSort_ren := {
 mixed := by kernel_rfl
 f6 := ⟨Tryz.f218.name, by decide, Tryz.func218.trans (congrArg some (by kernel_rfl))⟩
 f14 := ⟨Tryz.f236.name, by decide, Tryz.func236.trans (congrArg some (by kernel_rfl))⟩
 f15 := Tryz.func237.trans (congrArg some (by kernel_rfl))
 f20 := ⟨Tryz.f249.name, by decide, Tryz.func249.trans (congrArg some (by kernel_rfl))⟩
 f21 := ⟨Tryz.f250.name, by decide, Tryz.func250.trans (congrArg some (by kernel_rfl))⟩
 f22 := ⟨Tryz.f251.name, by decide, Tryz.func251.trans (congrArg some (by kernel_rfl))⟩
 f23 := ⟨Tryz.f252.name, by decide, Tryz.func252.trans (congrArg some (by kernel_rfl))⟩
 f24 := ⟨Tryz.f253.name, by decide, Tryz.func253.trans (congrArg some (by kernel_rfl))⟩
 f25 := ⟨Tryz.f254.name, by decide, Tryz.func254.trans (congrArg some (by kernel_rfl))⟩
 f26 := ⟨Tryz.f255.name, by decide, Tryz.func255.trans (congrArg some (by kernel_rfl))⟩
 f27 := ⟨Tryz.f256.name, by decide, Tryz.func256.trans (congrArg some (by kernel_rfl))⟩
 f28 := Tryz.func257.trans (congrArg some (by kernel_rfl))
 f29 := Tryz.func258.trans (congrArg some (by kernel_rfl))
 f46 := ⟨Tryz.f263.name, by decide, Tryz.func263.trans (congrArg some (by kernel_rfl))⟩
 f47 := Tryz.func264.trans (congrArg some (by kernel_rfl))
 f48 := Tryz.func265.trans (congrArg some (by kernel_rfl))
 f49 := ⟨Tryz.f266.name, by decide, Tryz.func266.trans (congrArg some (by kernel_rfl))⟩
 f50 := ⟨Tryz.f267.name, by decide, Tryz.func267.trans (congrArg some (by kernel_rfl))⟩
 f57 := ⟨Tryz.f270.name, by decide, Tryz.func270.trans (congrArg some (by kernel_rfl))⟩
 t0 := Tryz.underlying0
 a0 := Tryz.isAgg0
 z0 := Tryz.sizeOf0
 v0 := Tryz.zeroValue0
 t3 := Tryz.underlying3
 a3 := Tryz.isAgg3
 z3 := Tryz.sizeOf3
 v3 := Tryz.zeroValue3
 t4 := Tryz.underlying4
 a4 := Tryz.isAgg4
 z4 := Tryz.sizeOf4
 v4 := Tryz.zeroValue4
 t5 := Tryz.underlying5
 a5 := Tryz.isAgg5
 z5 := Tryz.sizeOf5
 v5 := Tryz.zeroValue5
 t9 := Tryz.underlying9
 a9 := Tryz.isAgg9
 z9 := Tryz.sizeOf9
 v9 := Tryz.zeroValue9
 t22 := Tryz.underlying44
 a22 := Tryz.isAgg44
 z22 := Tryz.sizeOf44
 v22 := Tryz.zeroValue44
 t25 := Tryz.underlying155
 a25 := Tryz.isAgg155
 z25 := Tryz.sizeOf155
 v25 := Tryz.zeroValue155
 t39 := Tryz.underlying180
 a39 := Tryz.isAgg180
 z39 := Tryz.sizeOf180
 v39 := Tryz.zeroValue180
 t45 := Tryz.underlying238
 a45 := Tryz.isAgg238
 z45 := Tryz.sizeOf238
 v45 := Tryz.zeroValue238
 t46 := Tryz.underlying239
 a46 := Tryz.isAgg239
 z46 := Tryz.sizeOf239
 v46 := Tryz.zeroValue239
 t50 := Tryz.underlying111
 a50 := Tryz.isAgg111
 z50 := Tryz.sizeOf111
 v50 := Tryz.zeroValue111
 t53 := Tryz.underlying220
 a53 := Tryz.isAgg220
 z53 := Tryz.sizeOf220
 v53 := Tryz.zeroValue220
 t55 := Tryz.underlying216
 a55 := Tryz.isAgg216
 z55 := Tryz.sizeOf216
 v55 := Tryz.zeroValue216
 t66 := Tryz.underlying249
 a66 := Tryz.isAgg249
 z66 := Tryz.sizeOf249
 v66 := Tryz.zeroValue249
 t70 := Tryz.underlying84
 a70 := Tryz.isAgg84
 z70 := Tryz.sizeOf84
 v70 := Tryz.zeroValue84
 t76 := Tryz.underlying254
 a76 := Tryz.isAgg254
 z76 := Tryz.sizeOf254
 v76 := Tryz.zeroValue254
 t77 := Tryz.underlying170
 a77 := Tryz.isAgg170
 z77 := Tryz.sizeOf170
 v77 := Tryz.zeroValue170 }
end Go.Proofs
namespace Go.Proofs.YtgpmlelfkjfbiaaGreatDoor
open Go Go.RowKit Go.Ev Go.Shelf Go.Sort Go.Lib
theorem Znv (s s' : ByteArray) (r r' : List Value) (W : World) (h1 : r.length = 6) (h2 : r'.length = 6) (h3 : ∀ v ∈ r, v.oneCell' = true) (h4 : ∀ v ∈ r', v.oneCell' = true) :
  Calls Tryz.prog 219 #[.agg (.string s :: r).toArray, .agg (.string s' :: r').toArray] W fun e w' => e = .returned (.int .i64 (Lib.compareBytes s.data.toList s'.data.toList)) ∧ ∃ q os', w' = grow (W.drewN q) os' := by
 have hcon := fun W' => Tryz.strings_Compare s s' W'
 change ∀ W', Calls Tryz.prog 141 _ _ _ at hcon
 generalize Lib.compareBytes s.data.toList s'.data.toList = z at hcon ⊢
 match r, h1 with
 | [a1, a2, a3, a4, a5, a6], _ =>
 match r', h2 with
 | [b1, b2, b3, b4, b5, b6], _ =>
 simp only [List.mem_cons, List.not_mem_nil, or_false, forall_eq_or_imp, forall_eq] at h3 h4
 go_enter Tryz.func219, Tryz.ntmps219
 go_wp2_with (go_at_call 141; refine (hcon _).mono ?_; rintro e w' ⟨rfl, rfl⟩)
 go_ret
 exact ⟨rfl, 0, _, by rw [alloc_eq_grow, alloc_eq_grow, grow_grow]; rfl⟩
def Zhx : String := (Rows.schemaLeavesRow.laid.map (·.1)).getD 2 default
abbrev Pow10 (w : World) : Prop := Lib.TabIs Tryz.prog w Zhx .u64 Lib.pow10Tab
theorem Pow10.below {w0 w : World} (h : Pow10 w0) (hb : Below w0.heap.size w0 w) : Pow10 w := by
 unfold Pow10 Lib.TabIs World.var? at *
 cases hg : Tryz.prog.globalNamed Zhx with
 | none => rw [hg] at h; cases h
 | some g =>
  rw [hg] at h
  simp only [Option.bind_some] at h ⊢
  cases hx : w0.heap[g]? with
  | none => rw [hx] at h; cases h
  | some o =>
   rw [hb.block g (Array.getElem?_eq_some_iff.1 hx).1]
   exact h
theorem ZjX (u : Nat) : Lib.nDigits u ≤ u / 10 + 1 := by
 induction u using Nat.strongRecOn with
 | _ u ih =>
  by_cases h : u < 10
  ·
   rw [Lib.nDigits_small h]; omega
  ·
   rw [Lib.nDigits_big h]
   have := ih (u / 10) (by omega)
   omega
theorem Zod (n : Int) (h : -9223372036854775808 ≤ n ∧ n ≤ 9223372036854775807) : (Lib.itoa n).length ≤ maxLen := by
 unfold Lib.itoa maxLen
 split
 ·
  rw [List.length_cons, Lib.decDigits_length]; have := ZjX n.natAbs; omega
 ·
  rw [Lib.decDigits_length]; have := ZjX n.toNat; omega
theorem Zqx (w0 : World) (B : List (List AV)) (Rw : List RowA) (L : List LoopA) (hP : Pow10 w0) (n : Int) (hn : -9223372036854775808 ≤ n ∧ n ≤ 9223372036854775807) :
  ACalls Tryz.prog w0 157 [.val (.int .i64 n)] ⟨B, Rw, L⟩ fun v s' => v = .val (.string ⟨(Lib.itoa n).toArray⟩) ∧ s' = ⟨B, Rw, L⟩ :=
 Zgp (Zax Tryz.func157 rfl (by decide)) (by
  show decide ((Lib.itoa n).toArray.size ≤ maxLen) = true
  rw [List.size_toArray]
  exact decide_eq_true (Zod n hn)) fun M w vals hb hrow => by
  have := Zk5 (us := [.int .i64 n]) hrow
  subst this
  refine (Any.strconv_Itoa Tryz.laysM171 n hn.1 hn.2 w (hP.below hb)).mono ?_
  rintro e w' ⟨rfl, k, os, rfl⟩
  refine ⟨rfl, rfl, rfl, rfl, by simp [grow], fun i hi => ?_⟩
  show (grow (w.drewN k) os).heap[i]? = w.heap[i]?
  rw [heap_grow_old (w.drewN k) os hi]
  rfl
end Go.Proofs.YtgpmlelfkjfbiaaGreatDoor
namespace Go.Proofs.YtgpmlelfkjfbiaaGreatDoor
open Go Go.RowKit Go.Ev
theorem Zgl {B : List (List AV)} {l : Nat} {cs : List AV} (h : B[l]? = some cs) (i : Nat) : ∀ (X : List (List AV)) (c c' : List AV), (B.set i c ++ X).set l c' = (B.set i c).set l c' ++ X := fun X c c' => List.set_append_left _ _ (by rw [List.length_set]; exact (List.getElem?_eq_some_iff.1 h).1)
theorem Zai {B : List (List AV)} {l : Nat} {c : List AV} (h : B[l]? = some c) : B.set l c = B := by
 apply List.ext_getElem?
 intro i
 by_cases q : l = i
 ·
  subst q
  rw [List.getElem?_set_self (List.getElem?_eq_some_iff.1 h).1, h]
 ·
  rw [List.getElem?_set_ne q]
@[go_sem] theorem ZvX : Zf5 Tryz.prog 119 = none := by kernel_rfl
@[go_sem] theorem Zxs : Zf5 Tryz.prog 69 = none := by kernel_rfl
@[go_sem] theorem ZsW : Zfy Tryz.prog 249 = false := by kernel_rfl
@[go_sem] theorem Zpm (xs ys : List AV) : Zjr Tryz.prog .eql 106 xs ys = (obK [(none, true), (some .i64, false)] xs ys, Zjl xs ys) := Zos (by kernel_rfl) xs ys
@[go_sem] theorem ZsT : Zfm Tryz.prog 122 0 = some (0, 1, false) := by kernel_rfl
@[go_sem] theorem Ztu : Zfm Tryz.prog 122 1 = some (1, 1, false) := by kernel_rfl
@[go_sem] theorem Zvm : Zkt Tryz.prog 249 = some .u64 := by kernel_rfl
@[go_sem] theorem Zr5 : Zb3 Tryz.prog 119 = some [(0, 1), (1, 1)] := by kernel_rfl
@[go_sem] theorem Zu6 : ZeY Tryz.prog 249 = false := by kernel_rfl
@[go_sem] theorem Zwr : tyT Tryz.prog 106 = some (2, true) := by kernel_rfl
@[go_sem] theorem Zw8 : tyT Tryz.prog 120 = some (1, false) := by kernel_rfl
@[go_sem] theorem ZwN : tyT Tryz.prog 249 = some (1, false) := by kernel_rfl
@[go_sem] theorem Zut : ZbW Tryz.prog 119 = some [.val (.string ⟨#[]⟩), .val (.int .i64 0)] := by kernel_rfl
@[go_sem] theorem ZtR : ZbW Tryz.prog 249 = some [.val (.int .u64 0)] := by kernel_rfl
def ZeA (a0 : Int) : Option ByteArray :=
 if (decide (a0 < 1)) || (decide (8 ≤ a0)) then
  some ((⟨#[]⟩ : ByteArray))
 else
  if decide (a0 = 0) then
   some ((⟨#[]⟩ : ByteArray))
  else
   if decide (a0 = 1) then
    some ((⟨#[97, 100, 100, 101, 100]⟩ : ByteArray))
   else
    if decide (a0 = 2) then
     some ((⟨#[114, 101, 109, 111, 118, 101, 100]⟩ : ByteArray))
    else
     if decide (a0 = 3) then
      some ((⟨#[114, 101, 110, 97, 109, 101, 100]⟩ : ByteArray))
     else
      if decide (a0 = 4) then
       some ((⟨#[110, 101, 101, 100, 101, 100]⟩ : ByteArray))
      else
       if decide (a0 = 5) then
        some ((⟨#[114, 101, 116, 121, 112, 101, 100]⟩ : ByteArray))
       else
        if decide (a0 = 6) then
         some ((⟨#[119, 105, 100, 101, 110, 101, 100]⟩ : ByteArray))
        else
         if decide (a0 = 7) then
          some ((⟨#[110, 97, 114, 114, 111, 119, 101, 100]⟩ : ByteArray))
         else
          none
theorem ZjO (w0 : World) (B : List (List AV)) (Rw : List RowA) (L : List LoopA) (a0 : Int) (r : ByteArray) (h : ZeA a0 = some r) :
  ACalls Tryz.prog w0 35 [.val (.int .i64 a0)] ⟨B, Rw, L⟩ fun x st => x = .val (.string r) ∧ st = ⟨B, Rw, L⟩ := by
 rw [ZeA] at h
 refine hd [.tmp 2] Tryz.func35 Tryz.ntmps35 fun M0 W0 hN hNR hNL hcalm hu hO hs => ?_
 simp only [Zal]
 refine rg [0] hs ?_
 apply Zac; intro K2 hK2
 apply Zab 1 [0, 3]
 rw [Zaa]; simp +decide only [go_sem, Nat.reduceAdd, ZaW, Zat, Zar, List.getElem?_cons_zero, List.getElem?_cons_succ, List.nil_append, List.cons_append, Nat.reduceMul]
 (repeat' apply And.intro) <;> first | refine hK2 _ _ ?_ | exact cl
 clear hK2
 apply Zac; intro K3 hK3
 refine rg [0, 3, 10] hs ?_
 refine cnd h hs (fun hs h => ?_) (fun hs h => ?_)
 ·
  refine rg [2] hs ?_
  exact rt h hs hcalm hO
 refine sk [0, 3] hs hK3 ?_
 clear hK3
 apply Zac; intro K7 hK7
 rcases Bool.eq_false_or_eq_true (decide (a0 = 0)) with hf8 | hf8
 ·
  replace h := ZaC h hf8
  have hk9 : a0 = 0 := of_decide_eq_true hf8
  have hzm : 0 * 1 = 0 := rfl
  have hs := And.intro hf8 hs
  have hs := And.intro hk9 hs
  have hs := And.intro hzm hs
  refine rl [2] hs hK7 ?_
  clear hK7
  exact rt h hs hcalm hO
 ·
  replace h := ZaD h hf8
  rcases Bool.eq_false_or_eq_true (decide (a0 = 1)) with hf10 | hf10
  ·
   replace h := ZaC h hf10
   have hk11 : a0 = 1 := of_decide_eq_true hf10
   have hs := And.intro hf8 hs
   have hs := And.intro hf10 hs
   have hs := And.intro hk11 hs
   refine rl [2] hs hK7 ?_
   clear hK7
   exact rt h hs hcalm hO
  ·
   replace h := ZaD h hf10
   rcases Bool.eq_false_or_eq_true (decide (a0 = 2)) with hf12 | hf12
   ·
    replace h := ZaC h hf12
    have hk13 : a0 = 2 := of_decide_eq_true hf12
    have hs := And.intro hf8 hs
    have hs := And.intro hf10 hs
    have hs := And.intro hf12 hs
    have hs := And.intro hk13 hs
    refine rl [2] hs hK7 ?_
    clear hK7
    exact rt h hs hcalm hO
   ·
    replace h := ZaD h hf12
    rcases Bool.eq_false_or_eq_true (decide (a0 = 3)) with hf14 | hf14
    ·
     replace h := ZaC h hf14
     have hk15 : a0 = 3 := of_decide_eq_true hf14
     have hs := And.intro hf8 hs
     have hs := And.intro hf10 hs
     have hs := And.intro hf12 hs
     have hs := And.intro hf14 hs
     have hs := And.intro hk15 hs
     refine rl [2] hs hK7 ?_
     clear hK7
     exact rt h hs hcalm hO
    ·
     replace h := ZaD h hf14
     rcases Bool.eq_false_or_eq_true (decide (a0 = 4)) with hf16 | hf16
     ·
      replace h := ZaC h hf16
      have hk17 : a0 = 4 := of_decide_eq_true hf16
      have hs := And.intro hf8 hs
      have hs := And.intro hf10 hs
      have hs := And.intro hf12 hs
      have hs := And.intro hf14 hs
      have hs := And.intro hf16 hs
      have hs := And.intro hk17 hs
      refine rl [2] hs hK7 ?_
      clear hK7
      exact rt h hs hcalm hO
     ·
      replace h := ZaD h hf16
      rcases Bool.eq_false_or_eq_true (decide (a0 = 5)) with hf18 | hf18
      ·
       replace h := ZaC h hf18
       have hk19 : a0 = 5 := of_decide_eq_true hf18
       have hs := And.intro hf8 hs
       have hs := And.intro hf10 hs
       have hs := And.intro hf12 hs
       have hs := And.intro hf14 hs
       have hs := And.intro hf16 hs
       have hs := And.intro hf18 hs
       have hs := And.intro hk19 hs
       refine rl [2] hs hK7 ?_
       clear hK7
       exact rt h hs hcalm hO
      ·
       replace h := ZaD h hf18
       rcases Bool.eq_false_or_eq_true (decide (a0 = 6)) with hf20 | hf20
       ·
        replace h := ZaC h hf20
        have hk21 : a0 = 6 := of_decide_eq_true hf20
        have hs := And.intro hf8 hs
        have hs := And.intro hf10 hs
        have hs := And.intro hf12 hs
        have hs := And.intro hf14 hs
        have hs := And.intro hf16 hs
        have hs := And.intro hf18 hs
        have hs := And.intro hf20 hs
        have hs := And.intro hk21 hs
        refine rl [2] hs hK7 ?_
        clear hK7
        exact rt h hs hcalm hO
       ·
        replace h := ZaD h hf20
        rcases Bool.eq_false_or_eq_true (decide (a0 = 7)) with hf22 | hf22
        ·
         replace h := ZaC h hf22
         have hk23 : a0 = 7 := of_decide_eq_true hf22
         have hs := And.intro hf8 hs
         have hs := And.intro hf10 hs
         have hs := And.intro hf12 hs
         have hs := And.intro hf14 hs
         have hs := And.intro hf16 hs
         have hs := And.intro hf18 hs
         have hs := And.intro hf20 hs
         have hs := And.intro hf22 hs
         have hs := And.intro hk23 hs
         refine rl [2] hs hK7 ?_
         clear hK7
         exact rt h hs hcalm hO
        ·
         replace h := ZaD h hf22
         cases h
def ZeW (a0 : Int × ByteArray × Int × Ty × List Vl) (a1 : ByteArray) : Bool :=
 sEq a0.2.1 a1
theorem Zl4 (w0 : World) (B : List (List AV)) (Rw : List RowA) (L : List LoopA) (a0 : Int × ByteArray × Int × Ty × List Vl) (la1 : Nat) (a1 : ByteArray) (hla1 : B[la1]? = some ([.val (.string a1)])) (r : Bool) (h : ZeW a0 a1 = r) :
  ACalls Tryz.prog w0 71 [.agg (.val (.int .i64 a0.1) :: (.val (.string a0.2.1) :: (.val (.int .i64 a0.2.2.1) :: ((a0.2.2.2.1.cs) ++ ([.list (a0.2.2.2.2.map avV) .none]))))), .box la1 0] ⟨B, Rw, L⟩ fun x st => x = .val (.bool r) ∧ st = ⟨B, Rw, L⟩ := by
 rw [ZeW] at h
 refine hd [.tmp 3] Tryz.func71 Tryz.ntmps71 fun M0 W0 hN hNR hNL hcalm hu hO hs => ?_
 simp only [Zal]
 have hltla1 := (List.getElem?_eq_some_iff.1 hla1).1
 have hs := And.intro (Zag hla1) hs
 refine rg [1, 2] hs ?_
 refine rg [3] hs ?_
 apply Zaj; simp +decide only [go_sem, Nat.reduceAdd, Zag hla1]
 subst h
 first | refine Zaz hcalm rfl hO.pre ev ⟨?_, rfl⟩ | refine Za5 hcalm rfl hO.pre ev ⟨?_, rfl⟩
 first | rfl | (simp +decide only [go_sem, Nat.reduceAdd, Zag hla1]; done) | (simp +decide only [go_sem, Nat.reduceAdd, Vl.cs, Ty.cs, Zag hla1]; done)
theorem ZkM (w0 : World) (B : List (List AV)) (Rw : List RowA) (L : List LoopA) (a0 : Int × ByteArray × Int × Ty × List Vl) (la1 : Nat) (a1 : ByteArray) (hla1 : B[la1]? = some ([.val (.string a1)])) :
  ACalls Tryz.prog w0 71 [.agg (.val (.int .i64 a0.1) :: (.val (.string a0.2.1) :: (.val (.int .i64 a0.2.2.1) :: ((a0.2.2.2.1.cs) ++ ([.list (a0.2.2.2.2.map avV) .none]))))), .box la1 0] ⟨B, Rw, L⟩ fun x st => x = .val (.bool (ZeW a0 a1)) ∧ st = ⟨B, Rw, L⟩ := Zl4 w0 B Rw L a0 la1 a1 hla1 _ rfl
def Zhf (rec : Vl → Option Vl) (n : Nat) (a0 : Vl) (b2_k22_4 : List Vl) (b2_k22_5 : List (ByteArray × Vl)) : Option Vl :=
 some (Vl.mk a0.kind a0.int a0.scale a0.text b2_k22_4 b2_k22_5)
def ZfW (rec : Vl → Option Vl) (n : Nat) (a0 : Vl) : Nat → Int → (List Vl) → (List (ByteArray × Vl)) → Option Vl
 | 0, _, _, _ => none
 | m + 1, x29_l25, b2_l25_4, b2_l25_5 =>
  if decide (x29_l25 < ((a0.fields.length : Int))) then
   (idx a0.fields x29_l25).bind fun x31 =>
   (rec x31.2).bind fun y32 =>
   if (b2_l25_5.length + 1) * 104 ≤ 140737488355328 ∧ b2_l25_5.length + 1 ≤ 4611686018427387904 then
    if I64 (x29_l25 + 1) then
     (ZfW rec n a0 m) (x29_l25 + 1) b2_l25_4 (b2_l25_5 ++ ([(x31.1, y32)]))
    else none
   else none
  else
   Zhf rec n a0 b2_l25_4 b2_l25_5
def Ziq (rec : Vl → Option Vl) (n : Nat) (a0 : Vl) (b2_k5_4 : List Vl) : Option Vl :=
 ZfW rec n a0 n 0 b2_k5_4 ([])
def ZgX (rec : Vl → Option Vl) (n : Nat) (a0 : Vl) : Nat → Int → (List Vl) → Option Vl
 | 0, _, _ => none
 | m + 1, x14_l8, b2_l8_4 =>
  if decide (x14_l8 < ((a0.list.length : Int))) then
   (idx a0.list x14_l8).bind fun x14 =>
   (rec x14).bind fun y15 =>
   if (b2_l8_4.length + 1) * 88 ≤ 140737488355328 ∧ b2_l8_4.length + 1 ≤ 4611686018427387904 then
    if I64 (x14_l8 + 1) then
     (ZgX rec n a0 m) (x14_l8 + 1) (b2_l8_4 ++ ([y15]))
    else none
   else none
  else
   Ziq rec n a0 b2_l8_4
def ZjJ (rec : Vl → Option Vl) (n : Nat) (a0 : Vl) : Option Vl :=
 ZgX rec n a0 n 0 ([])
def Zdw : Nat → Vl → Option Vl
 | 0, _ => none
 | n + 1, a0 => ZjJ (Zdw n) n a0
def Zjo (w0 : World) (F : Vl → Option Vl) : Prop := ∀ (B : List (List AV)) (Rw : List RowA) (L : List LoopA) (a0 : Vl) (r : Vl), F a0 = some r → ACalls Tryz.prog w0 66 [.agg (a0.cs)] ⟨B, Rw, L⟩ fun x st => x = .agg (r.cs) ∧ st = ⟨B, Rw, L⟩
theorem Zl7 (w0 : World) (rec : Vl → Option Vl) (ih : Zjo w0 rec) (n : Nat) : Zjo w0 (ZjJ rec n) := by
 intro B Rw L a0 r h
 rw [ZjJ] at h
 refine hd [.cell 2 46] Tryz.func66 Tryz.ntmps66 fun M0 W0 hN hNR hNL hcalm hu hO hs => ?_
 simp only [Zal]
 refine rg [1, 2] hs ?_
 refine rg [1, 2, 3] hs ?_
 apply Zac; intro K3 hK3
 apply Zab 1 [1, 2, 3]
 rw [Zaa]; simp +decide only [go_sem, Nat.reduceAdd, Vl.cs_eqs a0]
 (repeat' apply And.intro) <;> first | refine hK3 _ _ ?_ | exact cl
 clear hK3
 refine Zak (fun e st => ∃ (b2_k5_4 : List Vl) (ob2_k5_4 : Ev.Own), Ck e st B Rw L [(1, true, .box B.length 0), (2, true, .box (B.length + 1) 0), (3, true, .box (B.length + 2) 0)] [a0.cs, [.val (.int .i64 0), .val (.int .i64 0), .val (.int .i64 0), .val (.string ((⟨#[]⟩ : ByteArray))), .list ([]) .full, .list ([]) .full], [.val (.int .i64 a0.kind), .val (.int .i64 a0.int), .val (.int .i64 a0.scale), .val (.string a0.text), .list (b2_k5_4.map avV) ob2_k5_4, .list ([]) .full]] [(6, b2_k5_4.length, ob2_k5_4)] (Ziq rec n a0 b2_k5_4 = some r)) ?_ ?_
 ·
  intro K6 hK6
  apply Zac; intro K7 hK7
  apply Zab 1 [1, 2, 3, 12, 13, 14]
  rw [Zaa]; simp +decide only [go_sem, Nat.reduceAdd, Vl.cs_eqs a0]
  (repeat' apply And.intro) <;> first | refine hK7 _ _ ?_ | exact cl
  clear hK7
  apply Zaf
  refine Zap (fun m e st => ∃ (x14_l8 : Int) (b2_l8_4 : List Vl) (ob2_l8_4 : Ev.Own), Ck e st B Rw L [(1, true, .box B.length 0), (2, true, .box (B.length + 1) 0), (3, true, .box (B.length + 2) 0), (12, true, .list (a0.list.map avV) .none), (13, true, .val (.int .i64 ((a0.list.length : Int)))), (14, true, .val (.int .i64 x14_l8))] [a0.cs, [.val (.int .i64 0), .val (.int .i64 0), .val (.int .i64 0), .val (.string ((⟨#[]⟩ : ByteArray))), .list ([]) .full, .list ([]) .full], [.val (.int .i64 a0.kind), .val (.int .i64 a0.int), .val (.int .i64 a0.scale), .val (.string a0.text), .list (b2_l8_4.map avV) ob2_l8_4, .list ([]) .full]] [(6, b2_l8_4.length, ob2_l8_4)] (ZgX rec n a0 m x14_l8 b2_l8_4 = some r)) n ⟨0, ([]), .full, ([]), Rw, by first | rfl | (simp +decide only [go_sem, Nat.reduceAdd, Vl.cs_eqs a0]; done), by first | rfl | (simp +decide only [go_sem, Nat.reduceAdd, Vl.cs_eqs a0]; done), Owns.of_eq ((hO).full 6 0) (by first | rfl | simp only [List.length_append, List.length_cons, List.length_nil, List.length_map, Nat.zero_add, Nat.add_zero]), h⟩ ?_
  rintro ml8 e st ⟨x14_l8, b2_l8_4, ob2_l8_4, Xl8, Rl8, rfl, rfl, hO, h⟩ Ul8 Vl8
  cases ml8 with
  | zero => cases h
  | succ ml8 =>
  rw [ZgX] at h
  have hU := hO.unders
  simp only [List.mem_cons, List.not_mem_nil, or_false, forall_eq_or_imp, forall_eq] at hU
  refine td hN hNR hNL hcalm hO ?_
  apply Zac; intro K9 hK9
  apply Zab 1 [1, 2, 3, 12, 13, 14, 15]
  rw [Zaa]; simp +decide only [go_sem, Nat.reduceAdd, Vl.cs_eqs a0]
  (repeat' apply And.intro) <;> first | refine hK9 _ _ ?_ | exact cl
  clear hK9
  apply Zac; intro K10 hK10
  refine Zav (decide (x14_l8 < ((a0.list.length : Int)))) ev (by first | (simp +decide only [go_sem, Nat.reduceAdd, Vl.cs_eqs a0]; done) | (simp +decide only [go_sem, Nat.reduceAdd, Vl.cs_eqs a0]; rfl)) (fun hb11 => ?_) (fun hb11 => ?_)
  rotate_left
  ·
   replace h := ZaD h hb11
   refine sx [1, 2, 3] hs hK6 ?_
   exact ⟨b2_l8_4, ob2_l8_4, ([]), Rl8, by first | rfl | (simp +decide only [go_sem, Nat.reduceAdd, Vl.cs_eqs a0, hb11]; done), by first | rfl | (simp +decide only [go_sem, Nat.reduceAdd, Vl.cs_eqs a0, hb11]; done), Owns.of_eq (hO) (by first | rfl | simp only [List.length_append, List.length_cons, List.length_nil, List.length_map, Nat.zero_add, Nat.add_zero]), h⟩
  replace h := ZaC h hb11
  refine sk [1, 2, 3, 12, 13, 14] hs hK10 ?_
  clear hK10
  apply Zac; intro K12 hK12
  apply Zaf
  apply Zac; intro K13 hK13
  obtain ⟨x14, hx14a, hx14b, hx14d, h⟩ := ix avV h
  apply Zab 1 [1, 2, 3, 5, 12, 13, 14]
  rw [Zaa]; simp +decide only [go_sem, Nat.reduceAdd, Vl.cs_eqs a0, hb11, hx14d]
  (repeat' apply And.intro) <;> first | refine hK13 _ _ ?_ | exact cl
  clear hK13
  obtain ⟨y15, hy15, h⟩ := bind_some h
  obtain ⟨hg16, h⟩ := Zae h
  obtain ⟨o17, rows18, hO, hap19⟩ := hO.append (P := Tryz.prog) Zlx (by rw [ZhE]; rfl) (by decide) 1 hg16.1 hg16.2
  replace hap19 := fun (ys : List AV) B L o2 => hap19 (b2_l8_4.map avV) ys B L o2 (by first | rfl | simp only [List.length_map, List.length_nil, List.length_append, List.length_cons, Nat.zero_add])
  replace hap19 := fun (y : AV) B L o2 => hap19 [y] B L o2 (by first | rfl | simp only [List.length_map, List.length_nil, List.length_cons]) ev
  try simp only [List.mem_singleton, List.mem_cons, List.not_mem_nil, or_false, forall_eq_or_imp, forall_eq, List.map_append, List.map_cons, List.map_nil, Zeu, Zez, Zey, Zex, Zev, Zed, Zc4, Zc8, Zew, ZbJ, ZbM, Zc7, Zc3, Zc2] at hap19
  apply Zaw mix 5 2 1 [1, 2, 3, 12, 13, 14] (by kernel_rfl)
  rw [Zaa]; simp +decide only [go_sem, Nat.reduceAdd, Vl.cs_eqs a0, hb11, hx14d, hap19]
  (repeat' apply And.intro) <;> first | refine Zad _ (ih _ _ _ x14 _ hy15) (by first | rfl | (simp +decide only [go_sem, Nat.reduceAdd, Vl.cs_eqs a0, hb11, hx14d, hap19]; done) | (simp +decide only [go_sem, Nat.reduceAdd, Vl.cs, Ty.cs, Vl.cs_eqs a0, hb11, hx14d, hap19]; done)) ?_ | exact cl
  rw [Zaa]; simp +decide only [go_sem, Nat.reduceAdd, Vl.cs_eqs a0, hb11, hx14d, hap19]
  (repeat' with_reducible apply And.intro) <;> first | (rw [Zaa]; simp +decide only [go_sem, Nat.reduceAdd, Vl.cs_eqs a0, hb11, hx14d, hap19]) | exact cl
  (repeat' apply And.intro) <;> first | refine hK12 _ _ ?_ | exact cl
  clear hK12
  obtain ⟨hg20, h⟩ := Zae h
  apply Zab 1 [1, 2, 3, 12, 13, 14]
  rw [Zaa]; simp +decide only [go_sem, Nat.reduceAdd, Vl.cs_eqs a0, hb11, hx14d, hap19]
  (repeat' apply And.intro) <;> first | refine Vl8 ml8 _ _ (Nat.lt_succ_self ml8) ⟨(x14_l8 + 1), (b2_l8_4 ++ ([y15])), o17, ([x14.cs]), rows18, by first | rfl | (simp +decide only [go_sem, Nat.reduceAdd, Vl.cs_eqs a0, hb11, hx14d, hap19]; done), by first | rfl | (simp +decide only [go_sem, Nat.reduceAdd, Vl.cs_eqs a0, hb11, hx14d, hap19]; done), Owns.of_eq (hO) (by first | rfl | simp only [List.length_append, List.length_cons, List.length_nil, List.length_map, Nat.zero_add, Nat.add_zero]), h⟩ | exact cl
 ·
  clear h; rintro e st ⟨b2_k5_4, ob2_k5_4, Xk5, Rk5, rfl, rfl, hO, h⟩
  rw [Ziq] at h
  have hU := hO.unders
  simp only [List.mem_cons, List.not_mem_nil, or_false, forall_eq_or_imp, forall_eq] at hU
  refine td hN hNR hNL hcalm hO ?_
  refine Zak (fun e st => ∃ (b2_k22_4 : List Vl) (b2_k22_5 : List (ByteArray × Vl)) (ob2_k22_4 : Ev.Own) (ob2_k22_5 : Ev.Own), Ck e st B Rw L [(2, true, .box (B.length + 1) 0), (3, true, .box (B.length + 2) 0)] [a0.cs, [.val (.int .i64 0), .val (.int .i64 0), .val (.int .i64 0), .val (.string ((⟨#[]⟩ : ByteArray))), .list ([]) .full, .list ([]) .full], [.val (.int .i64 a0.kind), .val (.int .i64 a0.int), .val (.int .i64 a0.scale), .val (.string a0.text), .list (b2_k22_4.map avV) ob2_k22_4, .list (b2_k22_5.map avF) ob2_k22_5]] [(6, b2_k22_4.length, ob2_k22_4), (7, b2_k22_5.length, ob2_k22_5)] (Zhf rec n a0 b2_k22_4 b2_k22_5 = some r)) ?_ ?_
  ·
   intro K23 hK23
   apply Zac; intro K24 hK24
   apply Zab 1 [2, 3, 27, 28, 29]
   rw [Zaa]; simp +decide only [go_sem, Nat.reduceAdd, Vl.cs_eqs a0]
   (repeat' apply And.intro) <;> first | refine hK24 _ _ ?_ | exact cl
   clear hK24
   apply Zaf
   refine Zap (fun m e st => ∃ (x29_l25 : Int) (b2_l25_4 : List Vl) (b2_l25_5 : List (ByteArray × Vl)) (ob2_l25_4 : Ev.Own) (ob2_l25_5 : Ev.Own), Ck e st B Rw L [(2, true, .box (B.length + 1) 0), (3, true, .box (B.length + 2) 0), (27, true, .list (a0.fields.map avF) .none), (28, true, .val (.int .i64 ((a0.fields.length : Int)))), (29, true, .val (.int .i64 x29_l25))] [a0.cs, [.val (.int .i64 0), .val (.int .i64 0), .val (.int .i64 0), .val (.string ((⟨#[]⟩ : ByteArray))), .list ([]) .full, .list ([]) .full], [.val (.int .i64 a0.kind), .val (.int .i64 a0.int), .val (.int .i64 a0.scale), .val (.string a0.text), .list (b2_l25_4.map avV) ob2_l25_4, .list (b2_l25_5.map avF) ob2_l25_5]] [(6, b2_l25_4.length, ob2_l25_4), (7, b2_l25_5.length, ob2_l25_5)] (ZfW rec n a0 m x29_l25 b2_l25_4 b2_l25_5 = some r)) n ⟨0, b2_k5_4, ([]), ob2_k5_4, .full, ([]), Rk5, by first | rfl | (simp +decide only [go_sem, Nat.reduceAdd, Vl.cs_eqs a0]; done), by first | rfl | (simp +decide only [go_sem, Nat.reduceAdd, Vl.cs_eqs a0]; done), Owns.of_eq (((hO).full 7 0).swap (List.Perm.swap _ _ _)) (by first | rfl | simp only [List.length_append, List.length_cons, List.length_nil, List.length_map, Nat.zero_add, Nat.add_zero]), h⟩ ?_
   rintro ml25 e st ⟨x29_l25, b2_l25_4, b2_l25_5, ob2_l25_4, ob2_l25_5, Xl25, Rl25, rfl, rfl, hO, h⟩ Ul25 Vl25
   cases ml25 with
   | zero => cases h
   | succ ml25 =>
   rw [ZfW] at h
   have hU := hO.unders
   simp only [List.mem_cons, List.not_mem_nil, or_false, forall_eq_or_imp, forall_eq] at hU
   obtain ⟨hU0, hU1⟩ := hU
   refine td hN hNR hNL hcalm hO ?_
   apply Zac; intro K26 hK26
   apply Zab 1 [2, 3, 27, 28, 29, 30]
   rw [Zaa]; simp +decide only [go_sem, Nat.reduceAdd, Vl.cs_eqs a0]
   (repeat' apply And.intro) <;> first | refine hK26 _ _ ?_ | exact cl
   clear hK26
   apply Zac; intro K27 hK27
   refine Zav (decide (x29_l25 < ((a0.fields.length : Int)))) ev (by first | (simp +decide only [go_sem, Nat.reduceAdd, Vl.cs_eqs a0]; done) | (simp +decide only [go_sem, Nat.reduceAdd, Vl.cs_eqs a0]; rfl)) (fun hb28 => ?_) (fun hb28 => ?_)
   rotate_left
   ·
    replace h := ZaD h hb28
    refine sx [2, 3] hs hK23 ?_
    exact ⟨b2_l25_4, b2_l25_5, ob2_l25_4, ob2_l25_5, ([]), Rl25, by first | rfl | (simp +decide only [go_sem, Nat.reduceAdd, Vl.cs_eqs a0, hb28]; done), by first | rfl | (simp +decide only [go_sem, Nat.reduceAdd, Vl.cs_eqs a0, hb28]; done), Owns.of_eq (((hO).swap (List.Perm.swap _ _ _)).swap (List.Perm.swap _ _ _)) (by first | rfl | simp only [List.length_append, List.length_cons, List.length_nil, List.length_map, Nat.zero_add, Nat.add_zero]), h⟩
   replace h := ZaC h hb28
   refine sk [2, 3, 27, 28, 29] hs hK27 ?_
   clear hK27
   apply Zac; intro K29 hK29
   apply Zaf
   apply Zac; intro K30 hK30
   obtain ⟨x31, hx31a, hx31b, hx31d, h⟩ := ix avF h
   apply Zab 1 [2, 3, 7, 27, 28, 29]
   rw [Zaa]; simp +decide only [go_sem, Nat.reduceAdd, Vl.cs_eqs a0, hb28, hx31d]
   (repeat' apply And.intro) <;> first | refine hK30 _ _ ?_ | exact cl
   clear hK30
   obtain ⟨y32, hy32, h⟩ := bind_some h
   obtain ⟨hg33, h⟩ := Zae h
   have hO := hO.swap (List.Perm.swap _ _ _)
   obtain ⟨o34, rows35, hO, hap36⟩ := hO.append (P := Tryz.prog) ZjB (by rw [Zf6]; rfl) (by decide) 1 hg33.1 hg33.2
   replace hap36 := fun (ys : List AV) B L o2 => hap36 (b2_l25_5.map avF) ys B L o2 (by first | rfl | simp only [List.length_map, List.length_nil, List.length_append, List.length_cons, Nat.zero_add])
   replace hap36 := fun (y : AV) B L o2 => hap36 [y] B L o2 (by first | rfl | simp only [List.length_map, List.length_nil, List.length_cons]) ev
   try simp only [List.mem_singleton, List.mem_cons, List.not_mem_nil, or_false, forall_eq_or_imp, forall_eq, List.map_append, List.map_cons, List.map_nil, Zeu, Zez, Zey, Zex, Zev, Zed, Zc4, Zc8, Zew, ZbJ, ZbM, Zc7, Zc3, Zc2] at hap36
   apply Zaw mix 9 2 1 [2, 3, 27, 28, 29] (by kernel_rfl)
   rw [Zaa]; simp +decide only [go_sem, Nat.reduceAdd, Vl.cs_eqs a0, hb28, hx31d, hap36, ZaW, Zat, Zar]
   (repeat' apply And.intro) <;> first | refine Zad _ (ih _ _ _ x31.2 _ hy32) (by first | rfl | (simp +decide only [go_sem, Nat.reduceAdd, Vl.cs_eqs a0, hb28, hx31d, hap36, ZaW, Zat, Zar]; done) | (simp +decide only [go_sem, Nat.reduceAdd, Vl.cs, Ty.cs, Vl.cs_eqs a0, hb28, hx31d, hap36, ZaW, Zat, Zar]; done)) ?_ | exact cl
   rw [Zaa]; simp +decide only [go_sem, Nat.reduceAdd, Vl.cs_eqs a0, hb28, hx31d, hap36, ZaW, Zat, Zar]
   (repeat' with_reducible apply And.intro) <;> first | (rw [Zaa]; simp +decide only [go_sem, Nat.reduceAdd, Vl.cs_eqs a0, hb28, hx31d, hap36, ZaW, Zat, Zar]) | exact cl
   (repeat' apply And.intro) <;> first | refine hK29 _ _ ?_ | exact cl
   clear hK29
   obtain ⟨hg37, h⟩ := Zae h
   apply Zab 1 [2, 3, 27, 28, 29]
   rw [Zaa]; simp +decide only [go_sem, Nat.reduceAdd, Vl.cs_eqs a0, hb28, hx31d, hap36]
   (repeat' apply And.intro) <;> first | refine Vl25 ml25 _ _ (Nat.lt_succ_self ml25) ⟨(x29_l25 + 1), b2_l25_4, (b2_l25_5 ++ ([(x31.1, y32)])), ob2_l25_4, o34, ([.val (.string x31.1) :: (x31.2.cs)]), rows35, by first | rfl | (simp +decide only [go_sem, Nat.reduceAdd, Vl.cs_eqs a0, hb28, hx31d, hap36]; done), by first | rfl | (simp +decide only [go_sem, Nat.reduceAdd, Vl.cs_eqs a0, hb28, hx31d, hap36]; done), Owns.of_eq ((hO).swap (List.Perm.swap _ _ _)) (by first | rfl | simp only [List.length_append, List.length_cons, List.length_nil, List.length_map, Nat.zero_add, Nat.add_zero]), h⟩ | exact cl
  ·
   clear h; rintro e st ⟨b2_k22_4, b2_k22_5, ob2_k22_4, ob2_k22_5, Xk22, Rk22, rfl, rfl, hO, h⟩
   rw [Zhf] at h
   have hU := hO.unders
   simp only [List.mem_cons, List.not_mem_nil, or_false, forall_eq_or_imp, forall_eq] at hU
   obtain ⟨hU0, hU1⟩ := hU
   refine td hN hNR hNL hcalm hO ?_
   apply Zac; intro K38 hK38
   apply Zab 1 [2]
   rw [Zaa]; simp +decide only [go_sem, Nat.reduceAdd, Vl.cs_eqs a0]
   (repeat' apply And.intro) <;> first | refine hK38 _ _ ?_ | exact cl
   clear hK38
   apply Zaj; simp +decide only [go_sem, Nat.reduceAdd, Vl.cs_eqs a0]
   have hgt := Option.some.inj h; subst hgt
   first | refine Zaz hcalm rfl hO.pre ev ⟨?_, rfl⟩ | refine Za5 hcalm rfl hO.pre ev ⟨?_, rfl⟩
   first | rfl | (simp +decide only [go_sem, Nat.reduceAdd, Vl.cs_eqs a0]; done) | (simp +decide only [go_sem, Nat.reduceAdd, Vl.cs, Ty.cs, Vl.cs_eqs a0]; done)
theorem Zdp (w0 : World) : ∀ n : Nat, Zjo w0 (Zdw n)
 | 0 => fun _ _ _ _ _ h => (nomatch h)
 | n + 1 => Zl7 w0 (Zdw n) (Zdp w0 n) n
def ZeR (rec : Ty → Option Ty) (n : Nat) (a0 : Int × ByteArray × Int × Ty × List Vl) (y3 : Ty) (x3_k8 : List Vl) : Option ((Int × ByteArray × Int × Ty × List Vl)) :=
 some ((a0.1, a0.2.1, a0.2.2.1, y3, x3_k8))
def Zde (rec : Ty → Option Ty) (n : Nat) (a0 : Int × ByteArray × Int × Ty × List Vl) (y3 : Ty) : Nat → (List Vl) → Int → Option ((Int × ByteArray × Int × Ty × List Vl))
 | 0, _, _ => none
 | m + 1, x3_l11, x17_l11 =>
  if decide (x17_l11 < ((a0.2.2.2.2.length : Int))) then
   (idx a0.2.2.2.2 x17_l11).bind fun x17 =>
   (Zdw n x17).bind fun y18 =>
   if (x3_l11.length + 1) * 88 ≤ 140737488355328 ∧ x3_l11.length + 1 ≤ 4611686018427387904 then
    if I64 (x17_l11 + 1) then
     (Zde rec n a0 y3 m) (x3_l11 ++ ([y18])) (x17_l11 + 1)
    else none
   else none
  else
   ZeR rec n a0 y3 x3_l11
def Zd4 (rec : Ty → Option Ty) (n : Nat) (a0 : Int × ByteArray × Int × Ty × List Vl) : Option ((Int × ByteArray × Int × Ty × List Vl)) :=
 (rec a0.2.2.2.1).bind fun y3 =>
 if 0 ≤ (a0.2.2.2.2.length : Int) ∧ ((a0.2.2.2.2.length : Int)) * 88 ≤ 140737488355328 ∧ (a0.2.2.2.2.length : Int) ≤ 4611686018427387904 then
  Zde rec n a0 y3 n ([]) 0
 else none
theorem Zgt (w0 : World) (rec : Ty → Option Ty) (ih : ∀ (B : List (List AV)) (Rw : List RowA) (L : List LoopA) (a0 : Ty) (r : Ty) (h : rec a0 = some r), ACalls Tryz.prog w0 57 [.agg (a0.cs)] ⟨B, Rw, L⟩ fun x st => x = .agg (r.cs) ∧ st = ⟨B, Rw, L⟩) (n : Nat) (B : List (List AV)) (Rw : List RowA) (L : List LoopA) (a0 : Int × ByteArray × Int × Ty × List Vl) (r : (Int × ByteArray × Int × Ty × List Vl)) (h : Zd4 rec n a0 = some r) :
  ACalls Tryz.prog w0 105 [.agg (.val (.int .i64 a0.1) :: (.val (.string a0.2.1) :: (.val (.int .i64 a0.2.2.1) :: ((a0.2.2.2.1.cs) ++ ([.list (a0.2.2.2.2.map avV) .none])))))] ⟨B, Rw, L⟩ fun x st => x = .agg (.val (.int .i64 r.1) :: (.val (.string r.2.1) :: (.val (.int .i64 r.2.2.1) :: ((r.2.2.2.1.cs) ++ ([.list (r.2.2.2.2.map avV) .none]))))) ∧ st = ⟨B, Rw, L⟩ := by
 rw [Zd4] at h
 refine hd [.cell 2 54] Tryz.func105 Tryz.ntmps105 fun M0 W0 hN hNR hNL hcalm hu hO hs => ?_
 simp only [Zal]
 refine rg [1, 2] hs ?_
 apply Zac; intro K2 hK2
 obtain ⟨y3, hy3, h⟩ := bind_some h
 apply Zab 2 [1, 2]
 rw [Zaa]; simp +decide only [go_sem, Nat.reduceAdd, Ty.cs_eqs a0.2.2.2.1, Ty.cs_eqs y3]
 (repeat' apply And.intro) <;> first | refine Zad _ (ih _ _ _ a0.2.2.2.1 _ hy3) (by first | rfl | (simp +decide only [go_sem, Nat.reduceAdd, Ty.cs_eqs a0.2.2.2.1, Ty.cs_eqs y3]; done) | (simp +decide only [go_sem, Nat.reduceAdd, Vl.cs, Ty.cs, Ty.cs_eqs a0.2.2.2.1, Ty.cs_eqs y3]; done)) ?_ | exact cl
 rw [Zaa]; simp +decide only [go_sem, Nat.reduceAdd, Ty.cs_eqs a0.2.2.2.1, Ty.cs_eqs y3]
 (repeat' apply And.intro) <;> first | refine hK2 _ _ ?_ | exact cl
 clear hK2
 apply Zac; intro K4 hK4
 obtain ⟨hg5, h⟩ := Zae h
 have hO := hO.make 6 0
 apply Zab 1 [1, 2, 3]
 rw [Zaa]; simp +decide only [go_sem, Nat.reduceAdd, Ty.cs_eqs a0.2.2.2.1, Ty.cs_eqs y3]
 (repeat' apply And.intro) <;> first | refine hK4 _ _ ?_ | exact cl
 clear hK4
 refine Zak (fun e st => ∃ (x3_k8 : List Vl) (ox3_k8 : Ev.Own), Ck e st B Rw L [(1, true, .box B.length 0), (2, true, .box (B.length + 1) 0), (3, true, .list (x3_k8.map avV) ox3_k8)] [[.val (.int .i64 a0.1), .val (.string a0.2.1), .val (.int .i64 a0.2.2.1), .val (.int .i64 y3.kind), .val (.int .i64 y3.min), .val (.int .i64 y3.max), .val (.int .i64 y3.scale), .list (y3.words.map avS) .none, .list (y3.elem.map avT) .none, .list (y3.fields.map Zdz) .none, .list (a0.2.2.2.2.map avV) .none], [.val (.int .i64 0), .val (.string ((⟨#[]⟩ : ByteArray))), .val (.int .i64 0), .val (.int .i64 0), .val (.int .i64 0), .val (.int .i64 0), .val (.int .i64 0), .list ([]) .full, .list ([]) .full, .list ([]) .full, .list ([]) .full]] [(6, x3_k8.length, ox3_k8)] (ZeR rec n a0 y3 x3_k8 = some r)) ?_ ?_
 ·
  intro K9 hK9
  apply Zac; intro K10 hK10
  apply Zab 1 [1, 2, 3, 15, 16, 17]
  rw [Zaa]; simp +decide only [go_sem, Nat.reduceAdd, Ty.cs_eqs a0.2.2.2.1, Ty.cs_eqs y3]
  (repeat' apply And.intro) <;> first | refine hK10 _ _ ?_ | exact cl
  clear hK10
  apply Zaf
  refine Zap (fun m e st => ∃ (x3_l11 : List Vl) (x17_l11 : Int) (ox3_l11 : Ev.Own), Ck e st B Rw L [(1, true, .box B.length 0), (2, true, .box (B.length + 1) 0), (3, true, .list (x3_l11.map avV) ox3_l11), (15, true, .list (a0.2.2.2.2.map avV) .none), (16, true, .val (.int .i64 ((a0.2.2.2.2.length : Int)))), (17, true, .val (.int .i64 x17_l11))] [[.val (.int .i64 a0.1), .val (.string a0.2.1), .val (.int .i64 a0.2.2.1), .val (.int .i64 y3.kind), .val (.int .i64 y3.min), .val (.int .i64 y3.max), .val (.int .i64 y3.scale), .list (y3.words.map avS) .none, .list (y3.elem.map avT) .none, .list (y3.fields.map Zdz) .none, .list (a0.2.2.2.2.map avV) .none], [.val (.int .i64 0), .val (.string ((⟨#[]⟩ : ByteArray))), .val (.int .i64 0), .val (.int .i64 0), .val (.int .i64 0), .val (.int .i64 0), .val (.int .i64 0), .list ([]) .full, .list ([]) .full, .list ([]) .full, .list ([]) .full]] [(6, x3_l11.length, ox3_l11)] (Zde rec n a0 y3 m x3_l11 x17_l11 = some r)) n ⟨([]), 0, ((.row Rw.length)), ([]), ((Rw ++ [.grow 0 6])), by first | rfl | (simp +decide only [go_sem, Nat.reduceAdd, Ty.cs_eqs a0.2.2.2.1, Ty.cs_eqs y3]; done), by first | rfl | (simp +decide only [go_sem, Nat.reduceAdd, Ty.cs_eqs a0.2.2.2.1, Ty.cs_eqs y3]; done), Owns.of_eq (hO) (by first | rfl | simp only [List.length_append, List.length_cons, List.length_nil, List.length_map, Nat.zero_add, Nat.add_zero]), h⟩ ?_
  rintro ml11 e st ⟨x3_l11, x17_l11, ox3_l11, Xl11, Rl11, rfl, rfl, hO, h⟩ Ul11 Vl11
  cases ml11 with
  | zero => cases h
  | succ ml11 =>
  rw [Zde] at h
  have hU := hO.unders
  simp only [List.mem_cons, List.not_mem_nil, or_false, forall_eq_or_imp, forall_eq] at hU
  refine td hN hNR hNL hcalm hO ?_
  apply Zac; intro K12 hK12
  apply Zab 1 [1, 2, 3, 15, 16, 17, 18]
  rw [Zaa]; simp +decide only [go_sem, Nat.reduceAdd, Ty.cs_eqs a0.2.2.2.1, Ty.cs_eqs y3]
  (repeat' apply And.intro) <;> first | refine hK12 _ _ ?_ | exact cl
  clear hK12
  apply Zac; intro K13 hK13
  refine Zav (decide (x17_l11 < ((a0.2.2.2.2.length : Int)))) ev (by first | (simp +decide only [go_sem, Nat.reduceAdd, Ty.cs_eqs a0.2.2.2.1, Ty.cs_eqs y3]; done) | (simp +decide only [go_sem, Nat.reduceAdd, Ty.cs_eqs a0.2.2.2.1, Ty.cs_eqs y3]; rfl)) (fun hb14 => ?_) (fun hb14 => ?_)
  rotate_left
  ·
   replace h := ZaD h hb14
   refine sx [1, 2, 3] hs hK9 ?_
   exact ⟨x3_l11, ox3_l11, ([]), Rl11, by first | rfl | (simp +decide only [go_sem, Nat.reduceAdd, Ty.cs_eqs a0.2.2.2.1, Ty.cs_eqs y3, hb14]; done), by first | rfl | (simp +decide only [go_sem, Nat.reduceAdd, Ty.cs_eqs a0.2.2.2.1, Ty.cs_eqs y3, hb14]; done), Owns.of_eq (hO) (by first | rfl | simp only [List.length_append, List.length_cons, List.length_nil, List.length_map, Nat.zero_add, Nat.add_zero]), h⟩
  replace h := ZaC h hb14
  refine sk [1, 2, 3, 15, 16, 17] hs hK13 ?_
  clear hK13
  apply Zac; intro K15 hK15
  apply Zaf
  apply Zac; intro K16 hK16
  obtain ⟨x17, hx17a, hx17b, hx17d, h⟩ := ix avV h
  apply Zab 1 [1, 2, 3, 5, 15, 16, 17]
  rw [Zaa]; simp +decide only [go_sem, Nat.reduceAdd, Ty.cs_eqs a0.2.2.2.1, Ty.cs_eqs y3, hb14, hx17d]
  (repeat' apply And.intro) <;> first | refine hK16 _ _ ?_ | exact cl
  clear hK16
  obtain ⟨y18, hy18, h⟩ := bind_some h
  obtain ⟨hg19, h⟩ := Zae h
  obtain ⟨o20, rows21, hO, hap22⟩ := hO.append (P := Tryz.prog) Zlx (by rw [ZhE]; rfl) (by decide) 1 hg19.1 hg19.2
  replace hap22 := fun (ys : List AV) B L o2 => hap22 (x3_l11.map avV) ys B L o2 (by first | rfl | simp only [List.length_map, List.length_nil, List.length_append, List.length_cons, Nat.zero_add])
  replace hap22 := fun (y : AV) B L o2 => hap22 [y] B L o2 (by first | rfl | simp only [List.length_map, List.length_nil, List.length_cons]) ev
  try simp only [List.mem_singleton, List.mem_cons, List.not_mem_nil, or_false, forall_eq_or_imp, forall_eq, List.map_append, List.map_cons, List.map_nil, Zeu, Zez, Zey, Zex, Zev, Zed, Zc4, Zc8, Zew, ZbJ, ZbM, Zc7, Zc3, Zc2] at hap22
  apply Zab 2 [1, 2, 3, 15, 16, 17]
  rw [Zaa]; simp +decide only [go_sem, Nat.reduceAdd, Ty.cs_eqs a0.2.2.2.1, Ty.cs_eqs y3, hb14, hx17d, hap22]
  (repeat' apply And.intro) <;> first | refine Zad _ (Zdp w0 n _ _ _ x17 _ hy18) (by first | rfl | (simp +decide only [go_sem, Nat.reduceAdd, Ty.cs_eqs a0.2.2.2.1, Ty.cs_eqs y3, hb14, hx17d, hap22]; done) | (simp +decide only [go_sem, Nat.reduceAdd, Vl.cs, Ty.cs, Ty.cs_eqs a0.2.2.2.1, Ty.cs_eqs y3, hb14, hx17d, hap22]; done)) ?_ | exact cl
  rw [Zaa]; simp +decide only [go_sem, Nat.reduceAdd, Ty.cs_eqs a0.2.2.2.1, Ty.cs_eqs y3, hb14, hx17d, hap22]
  (repeat' apply And.intro) <;> first | refine hK15 _ _ ?_ | exact cl
  clear hK15
  obtain ⟨hg23, h⟩ := Zae h
  apply Zab 1 [1, 2, 3, 15, 16, 17]
  rw [Zaa]; simp +decide only [go_sem, Nat.reduceAdd, Ty.cs_eqs a0.2.2.2.1, Ty.cs_eqs y3, hb14, hx17d, hap22]
  (repeat' apply And.intro) <;> first | refine Vl11 ml11 _ _ (Nat.lt_succ_self ml11) ⟨(x3_l11 ++ ([y18])), (x17_l11 + 1), o20, ([x17.cs]), rows21, by first | rfl | (simp +decide only [go_sem, Nat.reduceAdd, Ty.cs_eqs a0.2.2.2.1, Ty.cs_eqs y3, hb14, hx17d, hap22]; done), by first | rfl | (simp +decide only [go_sem, Nat.reduceAdd, Ty.cs_eqs a0.2.2.2.1, Ty.cs_eqs y3, hb14, hx17d, hap22]; done), Owns.of_eq (hO) (by first | rfl | simp only [List.length_append, List.length_cons, List.length_nil, List.length_map, Nat.zero_add, Nat.add_zero]), h⟩ | exact cl
 ·
  clear h; rintro e st ⟨x3_k8, ox3_k8, Xk8, Rk8, rfl, rfl, hO, h⟩
  rw [ZeR] at h
  have hU := hO.unders
  simp only [List.mem_cons, List.not_mem_nil, or_false, forall_eq_or_imp, forall_eq] at hU
  refine td hN hNR hNL hcalm hO ?_
  apply Zac; intro K24 hK24
  apply Zab 1 [1, 2]
  rw [Zaa]; simp +decide only [go_sem, Nat.reduceAdd, Ty.cs_eqs a0.2.2.2.1, Ty.cs_eqs y3]
  (repeat' apply And.intro) <;> first | refine hK24 _ _ ?_ | exact cl
  clear hK24
  apply Zac; intro K25 hK25
  apply Zab 1 [2]
  rw [Zaa]; simp +decide only [go_sem, Nat.reduceAdd, Ty.cs_eqs a0.2.2.2.1, Ty.cs_eqs y3]
  (repeat' apply And.intro) <;> first | refine hK25 _ _ ?_ | exact cl
  clear hK25
  apply Zaj; simp +decide only [go_sem, Nat.reduceAdd, Ty.cs_eqs a0.2.2.2.1, Ty.cs_eqs y3]
  have hgt := Option.some.inj h; subst hgt
  first | refine Zaz hcalm rfl hO.pre ev ⟨?_, rfl⟩ | refine Za5 hcalm rfl hO.pre ev ⟨?_, rfl⟩
  first | rfl | (simp +decide only [go_sem, Nat.reduceAdd, Ty.cs_eqs a0.2.2.2.1, Ty.cs_eqs y3]; done) | (simp +decide only [go_sem, Nat.reduceAdd, Vl.cs, Ty.cs, Ty.cs_eqs a0.2.2.2.1, Ty.cs_eqs y3]; done)
def Zhi (rec : Ty → Option Ty) (n : Nat) (a0 : Ty) (x3_k26 : List Ty) (x6_k26 : List (Int × ByteArray × Int × Ty × List Vl)) : Option Ty :=
 if a0.words.length * 16 ≤ 140737488355328 then
  some (Ty.mk a0.kind a0.min a0.max a0.scale a0.words x3_k26 x6_k26)
 else none
def ZfV (rec : Ty → Option Ty) (n : Nat) (a0 : Ty) : Nat → (List Ty) → (List (Int × ByteArray × Int × Ty × List Vl)) → Int → Option Ty
 | 0, _, _, _ => none
 | m + 1, x3_l29, x6_l29, x33_l29 =>
  if decide (x33_l29 < ((a0.fields.length : Int))) then
   (idx a0.fields x33_l29).bind fun x35 =>
   (Zd4 rec n x35).bind fun y36 =>
   if (x6_l29.length + 1) * 160 ≤ 140737488355328 ∧ x6_l29.length + 1 ≤ 4611686018427387904 then
    if I64 (x33_l29 + 1) then
     (ZfV rec n a0 m) x3_l29 (x6_l29 ++ ([y36])) (x33_l29 + 1)
    else none
   else none
  else
   Zhi rec n a0 x3_l29 x6_l29
def Zid (rec : Ty → Option Ty) (n : Nat) (a0 : Ty) (x3_k6 : List Ty) : Option Ty :=
 if 0 ≤ (a0.fields.length : Int) ∧ ((a0.fields.length : Int)) * 160 ≤ 140737488355328 ∧ (a0.fields.length : Int) ≤ 4611686018427387904 then
  ZfV rec n a0 n x3_k6 ([]) 0
 else none
def ZgV (rec : Ty → Option Ty) (n : Nat) (a0 : Ty) : Nat → (List Ty) → Int → Option Ty
 | 0, _, _ => none
 | m + 1, x3_l9, x16_l9 =>
  if decide (x16_l9 < ((a0.elem.length : Int))) then
   (idx a0.elem x16_l9).bind fun x15 =>
   (rec x15).bind fun y16 =>
   if (x3_l9.length + 1) * 104 ≤ 140737488355328 ∧ x3_l9.length + 1 ≤ 4611686018427387904 then
    if I64 (x16_l9 + 1) then
     (ZgV rec n a0 m) (x3_l9 ++ ([y16])) (x16_l9 + 1)
    else none
   else none
  else
   Zid rec n a0 x3_l9
def Zjy (rec : Ty → Option Ty) (n : Nat) (a0 : Ty) : Option Ty :=
 if 0 ≤ (a0.elem.length : Int) ∧ ((a0.elem.length : Int)) * 104 ≤ 140737488355328 ∧ (a0.elem.length : Int) ≤ 4611686018427387904 then
  ZgV rec n a0 n ([]) 0
 else none
def Zgh : Nat → Ty → Option Ty
 | 0, _ => none
 | n + 1, a0 => Zjy (Zgh n) n a0
def Zjj (w0 : World) (F : Ty → Option Ty) : Prop := ∀ (B : List (List AV)) (Rw : List RowA) (L : List LoopA) (a0 : Ty) (r : Ty), F a0 = some r → ACalls Tryz.prog w0 57 [.agg (a0.cs)] ⟨B, Rw, L⟩ fun x st => x = .agg (r.cs) ∧ st = ⟨B, Rw, L⟩
theorem Zld (w0 : World) (rec : Ty → Option Ty) (ih : Zjj w0 rec) (n : Nat) : Zjj w0 (Zjy rec n) := by
 intro B Rw L a0 r h
 rw [Zjy] at h
 refine hd [.cell 2 26] Tryz.func57 Tryz.ntmps57 fun M0 W0 hN hNR hNL hcalm hu hO hs => ?_
 simp only [Zal]
 refine rg [1, 2] hs ?_
 obtain ⟨hg3, h⟩ := Zae h
 have hO := hO.make 7 0
 refine rg [1, 2, 3] hs ?_
 refine Zak (fun e st => ∃ (x3_k6 : List Ty) (ox3_k6 : Ev.Own), Ck e st B Rw L [(1, true, .box B.length 0), (2, true, .box (B.length + 1) 0), (3, true, .list (x3_k6.map avT) ox3_k6)] [a0.cs, [.val (.int .i64 0), .val (.int .i64 0), .val (.int .i64 0), .val (.int .i64 0), .list ([]) .full, .list ([]) .full, .list ([]) .full]] [(7, x3_k6.length, ox3_k6)] (Zid rec n a0 x3_k6 = some r)) ?_ ?_
 ·
  intro K7 hK7
  refine rg [1, 2, 3, 14, 15, 16] hs ?_
  apply Zaf
  refine Zap (fun m e st => ∃ (x3_l9 : List Ty) (x16_l9 : Int) (ox3_l9 : Ev.Own), Ck e st B Rw L [(1, true, .box B.length 0), (2, true, .box (B.length + 1) 0), (3, true, .list (x3_l9.map avT) ox3_l9), (14, true, .list (a0.elem.map avT) .none), (15, true, .val (.int .i64 ((a0.elem.length : Int)))), (16, true, .val (.int .i64 x16_l9))] [a0.cs, [.val (.int .i64 0), .val (.int .i64 0), .val (.int .i64 0), .val (.int .i64 0), .list ([]) .full, .list ([]) .full, .list ([]) .full]] [(7, x3_l9.length, ox3_l9)] (ZgV rec n a0 m x3_l9 x16_l9 = some r)) n ⟨([]), 0, ((.row Rw.length)), ([]), ((Rw ++ [.grow 0 7])), ef hs, ef hs, Owns.of_eq (hO) (by first | rfl | simp only [List.length_append, List.length_cons, List.length_nil, List.length_map, Nat.zero_add, Nat.add_zero]), h⟩ ?_
  rintro ml9 e st ⟨x3_l9, x16_l9, ox3_l9, Xl9, Rl9, rfl, rfl, hO, h⟩ Ul9 Vl9
  cases ml9 with
  | zero => cases h
  | succ ml9 =>
  rw [ZgV] at h
  have hU := hO.unders
  simp only [List.mem_cons, List.not_mem_nil, or_false, forall_eq_or_imp, forall_eq] at hU
  refine td hN hNR hNL hcalm hO ?_
  refine rg [1, 2, 3, 14, 15, 16, 17] hs ?_
  apply Zac; intro K11 hK11
  refine cnd h hs (fun hs h => ?_) (fun hs h => ?_)
  rotate_left
  ·
   refine sx [1, 2, 3] hs hK7 ?_
   exact ⟨x3_l9, ox3_l9, ([]), Rl9, ef hs, ef hs, Owns.of_eq (hO) (by first | rfl | simp only [List.length_append, List.length_cons, List.length_nil, List.length_map, Nat.zero_add, Nat.add_zero]), h⟩
  refine sk [1, 2, 3, 14, 15, 16] hs hK11 ?_
  clear hK11
  apply Zac; intro K13 hK13
  apply Zaf
  obtain ⟨x15, hx15, h⟩ := bind_some h
  obtain ⟨hx15a, hx15b, hx15c⟩ := Zam hx15
  have hx15d := Zao (f := avT) hx15c
  have hs := And.intro hx15d hs
  refine rg [1, 2, 3, 5, 14, 15, 16] hs ?_
  obtain ⟨y16, hy16, h⟩ := bind_some h
  obtain ⟨hg17, h⟩ := Zae h
  obtain ⟨o18, rows19, hO, hap20⟩ := hO.append (P := Tryz.prog) ZrD (by rw [ZmN]; rfl) (by decide) 1 hg17.1 hg17.2
  replace hap20 := fun (ys : List AV) B L o2 => hap20 (x3_l9.map avT) ys B L o2 (by first | rfl | simp only [List.length_map, List.length_nil, List.length_append, List.length_cons, Nat.zero_add])
  replace hap20 := fun (y : AV) B L o2 => hap20 [y] B L o2 (by first | rfl | simp only [List.length_map, List.length_nil, List.length_cons]) ev
  try simp only [List.mem_singleton, List.mem_cons, List.not_mem_nil, or_false, forall_eq_or_imp, forall_eq, List.map_append, List.map_cons, List.map_nil, Zeu, Zez, Zey, Zex, Zev, Zed, Zc4, Zc8, Zew, ZbJ, ZbM, Zc7, Zc3, Zc2] at hap20
  have hs := And.intro hap20 hs
  refine rk 2 [1, 2, 3, 14, 15, 16] hs ?_
  refine Zad _ (ih _ _ _ x15 _ hy16) (hv hs) ?_
  refine ne hs hK13 ?_
  clear hK13
  obtain ⟨hg21, h⟩ := Zae h
  refine rl [1, 2, 3, 14, 15, 16] hs (fun e s => Vl9 ml9 e s (Nat.lt_succ_self _)) ?_
  exact ⟨(x3_l9 ++ ([y16])), (x16_l9 + 1), o18, ([x15.cs]), rows19, ef hs, ef hs, Owns.of_eq (hO) (by first | rfl | simp only [List.length_append, List.length_cons, List.length_nil, List.length_map, Nat.zero_add, Nat.add_zero]), h⟩
 ·
  clear h; rintro e st ⟨x3_k6, ox3_k6, Xk6, Rk6, rfl, rfl, hO, h⟩
  rw [Zid] at h
  have hU := hO.unders
  simp only [List.mem_cons, List.not_mem_nil, or_false, forall_eq_or_imp, forall_eq] at hU
  refine td hN hNR hNL hcalm hO ?_
  obtain ⟨hg23, h⟩ := Zae h
  have hO := hO.make 11 0
  refine rg [1, 2, 3, 6] hs ?_
  refine Zak (fun e st => ∃ (x3_k26 : List Ty) (x6_k26 : List (Int × ByteArray × Int × Ty × List Vl)) (ox3_k26 : Ev.Own) (ox6_k26 : Ev.Own), Ck e st B Rw L [(1, true, .box B.length 0), (2, true, .box (B.length + 1) 0), (3, true, .list (x3_k26.map avT) ox3_k26), (6, true, .list (x6_k26.map Zdz) ox6_k26)] [a0.cs, [.val (.int .i64 0), .val (.int .i64 0), .val (.int .i64 0), .val (.int .i64 0), .list ([]) .full, .list ([]) .full, .list ([]) .full]] [(7, x3_k26.length, ox3_k26), (11, x6_k26.length, ox6_k26)] (Zhi rec n a0 x3_k26 x6_k26 = some r)) ?_ ?_
  ·
   intro K27 hK27
   refine rg [1, 2, 3, 6, 31, 32, 33] hs ?_
   apply Zaf
   refine Zap (fun m e st => ∃ (x3_l29 : List Ty) (x6_l29 : List (Int × ByteArray × Int × Ty × List Vl)) (x33_l29 : Int) (ox3_l29 : Ev.Own) (ox6_l29 : Ev.Own), Ck e st B Rw L [(1, true, .box B.length 0), (2, true, .box (B.length + 1) 0), (3, true, .list (x3_l29.map avT) ox3_l29), (6, true, .list (x6_l29.map Zdz) ox6_l29), (31, true, .list (a0.fields.map Zdz) .none), (32, true, .val (.int .i64 ((a0.fields.length : Int)))), (33, true, .val (.int .i64 x33_l29))] [a0.cs, [.val (.int .i64 0), .val (.int .i64 0), .val (.int .i64 0), .val (.int .i64 0), .list ([]) .full, .list ([]) .full, .list ([]) .full]] [(7, x3_l29.length, ox3_l29), (11, x6_l29.length, ox6_l29)] (ZfV rec n a0 m x3_l29 x6_l29 x33_l29 = some r)) n ⟨x3_k6, ([]), 0, ox3_k6, ((.row Rk6.length)), ([]), ((Rk6 ++ [.grow 0 11])), ef hs, ef hs, Owns.of_eq ((hO).swap (List.Perm.swap _ _ _)) (by first | rfl | simp only [List.length_append, List.length_cons, List.length_nil, List.length_map, Nat.zero_add, Nat.add_zero]), h⟩ ?_
   rintro ml29 e st ⟨x3_l29, x6_l29, x33_l29, ox3_l29, ox6_l29, Xl29, Rl29, rfl, rfl, hO, h⟩ Ul29 Vl29
   cases ml29 with
   | zero => cases h
   | succ ml29 =>
   rw [ZfV] at h
   have hU := hO.unders
   simp only [List.mem_cons, List.not_mem_nil, or_false, forall_eq_or_imp, forall_eq] at hU
   obtain ⟨hU0, hU1⟩ := hU
   refine td hN hNR hNL hcalm hO ?_
   refine rg [1, 2, 3, 6, 31, 32, 33, 34] hs ?_
   apply Zac; intro K31 hK31
   refine cnd h hs (fun hs h => ?_) (fun hs h => ?_)
   rotate_left
   ·
    refine sx [1, 2, 3, 6] hs hK27 ?_
    exact ⟨x3_l29, x6_l29, ox3_l29, ox6_l29, ([]), Rl29, ef hs, ef hs, Owns.of_eq (((hO).swap (List.Perm.swap _ _ _)).swap (List.Perm.swap _ _ _)) (by first | rfl | simp only [List.length_append, List.length_cons, List.length_nil, List.length_map, Nat.zero_add, Nat.add_zero]), h⟩
   refine sk [1, 2, 3, 6, 31, 32, 33] hs hK31 ?_
   clear hK31
   apply Zac; intro K33 hK33
   apply Zaf
   obtain ⟨x35, hx35, h⟩ := bind_some h
   obtain ⟨hx35a, hx35b, hx35c⟩ := Zam hx35
   have hx35d := Zao (f := Zdz) hx35c
   have hs := And.intro hx35d hs
   refine rg [1, 2, 3, 6, 8, 31, 32, 33] hs ?_
   obtain ⟨y36, hy36, h⟩ := bind_some h
   obtain ⟨hg37, h⟩ := Zae h
   have hO := hO.swap (List.Perm.swap _ _ _)
   obtain ⟨o38, rows39, hO, hap40⟩ := hO.append (P := Tryz.prog) Zuy (by rw [ZqW]; rfl) (by decide) 1 hg37.1 hg37.2
   replace hap40 := fun (ys : List AV) B L o2 => hap40 (x6_l29.map Zdz) ys B L o2 (by first | rfl | simp only [List.length_map, List.length_nil, List.length_append, List.length_cons, Nat.zero_add])
   replace hap40 := fun (y : AV) B L o2 => hap40 [y] B L o2 (by first | rfl | simp only [List.length_map, List.length_nil, List.length_cons]) ev
   try simp only [List.mem_singleton, List.mem_cons, List.not_mem_nil, or_false, forall_eq_or_imp, forall_eq, List.map_append, List.map_cons, List.map_nil, Zeu, Zez, Zey, Zex, Zev, Zed, Zc4, Zc8, Zew, ZbJ, ZbM, Zc7, Zc3, Zc2] at hap40
   have hs := And.intro hap40 hs
   refine rk 2 [1, 2, 3, 6, 31, 32, 33] hs ?_
   refine Zad _ (Zgt w0 rec ih n _ _ _ x35 _ hy36) (hv hs) ?_
   refine ne hs hK33 ?_
   clear hK33
   obtain ⟨hg41, h⟩ := Zae h
   refine rl [1, 2, 3, 6, 31, 32, 33] hs (fun e s => Vl29 ml29 e s (Nat.lt_succ_self _)) ?_
   exact ⟨x3_l29, (x6_l29 ++ ([y36])), (x33_l29 + 1), ox3_l29, o38, ([.val (.int .i64 x35.1) :: (.val (.string x35.2.1) :: (.val (.int .i64 x35.2.2.1) :: ((x35.2.2.2.1.cs) ++ ([.list (x35.2.2.2.2.map avV) .none]))))]), rows39, ef hs, ef hs, Owns.of_eq ((hO).swap (List.Perm.swap _ _ _)) (by first | rfl | simp only [List.length_append, List.length_cons, List.length_nil, List.length_map, Nat.zero_add, Nat.add_zero]), h⟩
  ·
   clear h; rintro e st ⟨x3_k26, x6_k26, ox3_k26, ox6_k26, Xk26, Rk26, rfl, rfl, hO, h⟩
   rw [Zhi] at h
   have hU := hO.unders
   simp only [List.mem_cons, List.not_mem_nil, or_false, forall_eq_or_imp, forall_eq] at hU
   obtain ⟨hU0, hU1⟩ := hU
   refine td hN hNR hNL hcalm hO ?_
   apply Zac; intro K42 hK42
   obtain ⟨hg43, h⟩ := Zae h
   apply Zab 2 [1, 2]
   rw [Zaa]; simp +decide only [go_sem, Nat.reduceAdd, Ty.cs_eqs a0]
   (repeat' apply And.intro) <;> first | refine Zad _ (ZhC w0 _ _ _ a0.words hg43) (by first | rfl | (simp +decide only [go_sem, Nat.reduceAdd, Ty.cs_eqs a0]; done) | (simp +decide only [go_sem, Nat.reduceAdd, Vl.cs, Ty.cs, Ty.cs_eqs a0]; done)) ?_ | exact cl
   rw [Zaa]; simp +decide only [go_sem, Nat.reduceAdd, Ty.cs_eqs a0]
   (repeat' apply And.intro) <;> first | refine hK42 _ _ ?_ | exact cl
   clear hK42
   apply Zac; intro K44 hK44
   apply Zab 1 [2]
   rw [Zaa]; simp +decide only [go_sem, Nat.reduceAdd, Ty.cs_eqs a0]
   (repeat' apply And.intro) <;> first | refine hK44 _ _ ?_ | exact cl
   clear hK44
   apply Zaj; simp +decide only [go_sem, Nat.reduceAdd, Ty.cs_eqs a0]
   have hgt := Option.some.inj h; subst hgt
   first | refine Zaz hcalm rfl hO.pre ev ⟨?_, rfl⟩ | refine Za5 hcalm rfl hO.pre ev ⟨?_, rfl⟩
   first | rfl | (simp +decide only [go_sem, Nat.reduceAdd, Ty.cs_eqs a0]; done) | (simp +decide only [go_sem, Nat.reduceAdd, Vl.cs, Ty.cs, Ty.cs_eqs a0]; done)
theorem Zkk (w0 : World) : ∀ n : Nat, Zjj w0 (Zgh n)
 | 0 => fun _ _ _ _ _ h => (nomatch h)
 | n + 1 => Zld w0 (Zgh n) (Zkk w0 n) n
def ZbT (n : Nat)  : Option Int :=
 some ((-1))
def Zbe (n : Nat) (a0 : List (Int × ByteArray × Int × Ty × List Vl)) (a1 : (Int × ByteArray × Int × Ty × List Vl) → Option Bool) : Nat → Int → Option Int
 | 0, _ => none
 | m + 1, x8_l6 =>
  if decide (x8_l6 < ((a0.length : Int))) then
   (idx a0 x8_l6).bind fun x13 =>
   (a1 x13).bind fun y14 =>
   if y14 then
    some (x8_l6)
   else
    if I64 (x8_l6 + 1) then
     (Zbe n a0 a1 m) (x8_l6 + 1)
    else none
  else
   ZbT n 
def ZaQ (n : Nat) (a0 : List (Int × ByteArray × Int × Ty × List Vl)) (a1 : (Int × ByteArray × Int × Ty × List Vl) → Option Bool) : Option Int :=
 Zbe n a0 a1 n 0
theorem Zbd (w0 : World) (n : Nat) (B : List (List AV)) (Rw : List RowA) (L : List LoopA) (a0 : List (Int × ByteArray × Int × Ty × List Vl)) (fa1 : FuncId) (ca1 : List AV) (a1 : (Int × ByteArray × Int × Ty × List Vl) → Option Bool) (ha1 : ∀ (x0 : Int × ByteArray × Int × Ty × List Vl) r, a1 x0 = some r → ∀ B' rows, B <+: B' → Rw <+: rows → ACalls Tryz.prog w0 fa1 ([.agg (.val (.int .i64 x0.1) :: (.val (.string x0.2.1) :: (.val (.int .i64 x0.2.2.1) :: ((x0.2.2.2.1.cs) ++ ([.list (x0.2.2.2.2.map avV) .none])))))] ++ ca1) ⟨B', rows, L⟩ fun v s => v = .val (.bool r) ∧ s = ⟨B', rows, L⟩) (r : Int) (h : ZaQ n a0 a1 = some r) :
  ACalls Tryz.prog w0 127 [.list (a0.map Zdz) .none, .clo fa1 ca1] ⟨B, Rw, L⟩ fun x st => x = .val (.int .i64 r) ∧ st = ⟨B, Rw, L⟩ := by
 rw [ZaQ] at h
 refine hd [.tmp 4] Tryz.func127 Tryz.ntmps127 fun M0 W0 hN hNR hNL hcalm hu hO hs => ?_
 simp only [Zal]
 have hU_a1 := Za0 (hu (.clo fa1 ca1) (by simp))
 refine rg [0, 1] hs ?_
 refine Zak (fun e st => Ck e st B Rw L [] [] [] (ZbT n  = some r)) ?_ ?_
 ·
  intro K4 hK4
  refine rg [0, 1, 7, 8] hs ?_
  apply Zaf
  refine Zap (fun m e st => ∃ (x8_l6 : Int), Ck e st B Rw L [(0, true, .list (a0.map Zdz) .none), (1, true, .clo fa1 ca1), (7, true, .val (.int .i64 ((a0.length : Int)))), (8, true, .val (.int .i64 x8_l6))] [] [] (Zbe n a0 a1 m x8_l6 = some r)) n ⟨0, ([]), Rw, ef hs, ef hs, hO, h⟩ ?_
  rintro ml6 e st ⟨x8_l6, Xl6, Rl6, rfl, rfl, hO, h⟩ Ul6 Vl6
  cases ml6 with
  | zero => cases h
  | succ ml6 =>
  rw [Zbe] at h
  refine Zas hN hNR hNL rfl hcalm hO (by (simp +decide only [go_sem, Nat.reduceAdd]) <;> (try (repeat' apply And.intro)) <;> first | omega | assumption | exact hU_a1 _ _ _ (by omega) (by have := hO.len; omega) (by omega)) (by (simp +decide only [go_sem, Nat.reduceAdd, Za2]) <;> (try (repeat' apply And.intro)) <;> first | omega | assumption | exact hU_a1 _ _ _ (by omega) (by have := hO.len; omega) (by omega)) ?_
  refine rg [0, 1, 7, 8, 9] hs ?_
  apply Zac; intro K8 hK8
  refine cnd h hs (fun hs h => ?_) (fun hs h => ?_)
  rotate_left
  ·
   refine sx [] hs hK4 ?_
   exact ⟨([]), Rl6, ef hs, ef hs, hO, h⟩
  refine sk [0, 1, 7, 8] hs hK8 ?_
  clear hK8
  apply Zac; intro K10 hK10
  apply Zaf
  refine rg [0, 1, 5, 7, 8] hs ?_
  obtain ⟨x13, hx13, h⟩ := bind_some h
  obtain ⟨hx13a, hx13b, hx13c⟩ := Zam hx13
  have hx13d := Zao (f := Zdz) hx13c
  obtain ⟨y14, hy14, h⟩ := bind_some h
  have hs := And.intro hx13d hs
  refine rc 2 [0, 1, 5, 7, 8, 16] hs ?_; intro K12 hK12
  refine Zdl _ (ha1 x13 _ hy14 _ _ (by first | exact List.prefix_append _ _ | exact List.prefix_refl _) hO.pre) (hv hs) ?_
  refine ne hs hK12 ?_
  clear hK12
  refine cnd h hs (fun hs h => ?_) (fun hs h => ?_)
  ·
   refine rg [4] hs ?_
   exact rt h hs hcalm hO
  refine sk [0, 1, 7, 8] hs hK10 ?_
  clear hK10
  obtain ⟨hg17, h⟩ := Zae h
  refine rl [0, 1, 7, 8] hs (fun e s => Vl6 ml6 e s (Nat.lt_succ_self _)) ?_
  exact ⟨(x8_l6 + 1), ([]), Rl6, ef hs, ef hs, hO, h⟩
 ·
  clear h; rintro e st ⟨Xk3, Rk3, rfl, rfl, hO, h⟩
  rw [ZbT] at h
  refine Zas hN hNR hNL rfl hcalm hO (by (simp +decide only [go_sem, Nat.reduceAdd]) <;> (try (repeat' apply And.intro)) <;> first | omega | assumption | exact hU_a1 _ _ _ (by omega) (by have := hO.len; omega) (by omega)) (by (simp +decide only [go_sem, Nat.reduceAdd, Za2]) <;> (try (repeat' apply And.intro)) <;> first | omega | assumption | exact hU_a1 _ _ _ (by omega) (by have := hO.len; omega) (by omega)) ?_
  refine rg [4] hs ?_
  exact rt h hs hcalm hO
def Zk2 (n : Nat) (a0 : Ty) (a1 : (Int × ByteArray × Int × Ty × List Vl) → Option Bool) : Option ((Int × ByteArray × Int × Ty × List Vl) × Bool) :=
 if (!(decide (a0.kind = 9))) && (!(decide (a0.kind = 10))) then
  some (((0, (⟨#[]⟩ : ByteArray), 0, Ty.mk 0 0 0 0 ([]) ([]) ([]), []), false))
 else
  (ZaQ n a0.fields a1).bind fun y7 =>
  if decide (y7 < 0) then
   some (((0, (⟨#[]⟩ : ByteArray), 0, Ty.mk 0 0 0 0 ([]) ([]) ([]), []), false))
  else
   (idx a0.fields y7).bind fun x13 =>
   (Zd4 (Zgh n) n x13).bind fun y14 =>
   some ((y14, true))
theorem ZoP (w0 : World) (n : Nat) (B : List (List AV)) (Rw : List RowA) (L : List LoopA) (a0 : Ty) (fa1 : FuncId) (ca1 : List AV) (a1 : (Int × ByteArray × Int × Ty × List Vl) → Option Bool) (ha1 : ∀ (x0 : Int × ByteArray × Int × Ty × List Vl) r, a1 x0 = some r → ∀ B' rows, B <+: B' → Rw <+: rows → ACalls Tryz.prog w0 fa1 ([.agg (.val (.int .i64 x0.1) :: (.val (.string x0.2.1) :: (.val (.int .i64 x0.2.2.1) :: ((x0.2.2.2.1.cs) ++ ([.list (x0.2.2.2.2.map avV) .none])))))] ++ ca1) ⟨B', rows, L⟩ fun v s => v = .val (.bool r) ∧ s = ⟨B', rows, L⟩) (r : (Int × ByteArray × Int × Ty × List Vl) × Bool) (h : Zk2 n a0 a1 = some r) :
  ACalls Tryz.prog w0 70 [.agg (a0.cs), .clo fa1 ca1] ⟨B, Rw, L⟩ fun x st => x = .tup [.agg (.val (.int .i64 r.1.1) :: (.val (.string r.1.2.1) :: (.val (.int .i64 r.1.2.2.1) :: ((r.1.2.2.2.1.cs) ++ ([.list (r.1.2.2.2.2.map avV) .none]))))), .val (.bool r.2)] ∧ st = ⟨B, Rw, L⟩ := by
 rw [Zk2] at h
 refine hd [.cell 4 54, .tmp 5] Tryz.func70 Tryz.ntmps70 fun M0 W0 hN hNR hNL hcalm hu hO hs => ?_
 simp only [Zal]
 have hU_a1 := Za0 (hu (.clo fa1 ca1) (by simp))
 refine rg [1, 2, 4] hs ?_
 apply Zac; intro K2 hK2
 refine rg [1, 2, 4, 14] hs ?_
 refine cnd h hs (fun hs h => ?_) (fun hs h => ?_)
 ·
  have hb4 := hs.1
  apply Zac; intro K5 hK5
  apply Zab 1 [4, 5]
  rw [Zaa]; simp +decide only [go_sem, Nat.reduceAdd, hb4, ZaW, Zat, Zar]
  (repeat' apply And.intro) <;> first | refine hK5 _ _ ?_ | exact cl
  clear hK5
  exact rt h hs hcalm hO
 have hb4 := hs.1
 refine sk [1, 2, 4] hs hK2 ?_
 clear hK2
 obtain ⟨y7, hy7, h⟩ := bind_some h
 refine rc 2 [2, 4, 6] hs ?_; intro K6 hK6
 refine Zad _ (Zbd w0 n _ _ _ a0.fields fa1 ca1 a1 (fun x0 r hx B'' rows'' q1 q2 => ha1 x0 r hx B'' rows'' (List.IsPrefix.trans (by first | exact List.prefix_append _ _ | exact List.prefix_refl _) q1) (hO.pre.trans q2)) _ hy7) (hv hs) ?_
 refine ne hs hK6 ?_
 clear hK6
 apply Zac; intro K8 hK8
 refine rg [2, 4, 6, 21] hs ?_
 refine cnd h hs (fun hs h => ?_) (fun hs h => ?_)
 ·
  have hb10 := hs.1
  apply Zac; intro K11 hK11
  apply Zab 1 [4, 5]
  rw [Zaa]; simp +decide only [go_sem, Nat.reduceAdd, hb4, hb10, ZaW, Zat, Zar]
  (repeat' apply And.intro) <;> first | refine hK11 _ _ ?_ | exact cl
  clear hK11
  exact rt h hs hcalm hO
 have hb10 := hs.1
 refine sk [2, 4, 6] hs hK8 ?_
 clear hK8
 obtain ⟨x13, hx13, h⟩ := bind_some h
 obtain ⟨hx13a, hx13b, hx13c⟩ := Zam hx13
 have hx13d := Zao (f := Zdz) hx13c
 obtain ⟨y14, hy14, h⟩ := bind_some h
 have hs := And.intro hx13d hs
 refine rc 2 [4, 5] hs ?_; intro K12 hK12
 refine Zad _ (Zgt w0 (Zgh n) (Zkk w0 n) n _ _ _ x13 _ hy14) (hv hs) ?_
 refine ne hs hK12 ?_
 clear hK12
 exact rt h hs hcalm hO
def Zgr (n : Nat) (a0 : Ty) (a1 : ByteArray) : Option ((Int × ByteArray × Int × Ty × List Vl) × Bool) :=
 (Zk2 n a0 (fun (x0 : Int × ByteArray × Int × Ty × List Vl) => some (ZeW x0 a1))).bind fun y3 =>
 some ((y3.1, y3.2))
theorem Zin (w0 : World) (n : Nat) (B : List (List AV)) (Rw : List RowA) (L : List LoopA) (a0 : Ty) (a1 : ByteArray) (r : (Int × ByteArray × Int × Ty × List Vl) × Bool) (h : Zgr n a0 a1 = some r) :
  ACalls Tryz.prog w0 25 [.agg (a0.cs), .val (.string a1)] ⟨B, Rw, L⟩ fun x st => x = .tup [.agg (.val (.int .i64 r.1.1) :: (.val (.string r.1.2.1) :: (.val (.int .i64 r.1.2.2.1) :: ((r.1.2.2.2.1.cs) ++ ([.list (r.1.2.2.2.2.map avV) .none]))))), .val (.bool r.2)] ∧ st = ⟨B, Rw, L⟩ := by
 rw [Zgr] at h
 refine hd [.cell 4 54, .tmp 5] Tryz.func25 Tryz.ntmps25 fun M0 W0 hN hNR hNL hcalm hu hO hs => ?_
 simp only [Zal]
 refine rg [2, 3, 4] hs ?_
 obtain ⟨y3, hy3, h⟩ := bind_some h
 refine rc 2 [4, 5] hs ?_; intro K2 hK2
 refine Zad _ (ZoP w0 n _ _ _ a0 71 [.box (B.length + 1) 0] (fun (x0 : Int × ByteArray × Int × Ty × List Vl) => some (ZeW x0 a1)) (fun x0 r hx B' rows' hB' hR' => by cases hx; exact ZkM w0 _ _ _ x0 _ a1 (ZbC hB' ev)) _ hy3) (hv hs) ?_
 refine ne hs hK2 ?_
 clear hK2
 exact rt h hs hcalm hO
def ZhP (rec : Ty → Vl → Option Bool) (a0 : Vl) (a1 : Ty) : Option Bool :=
 (idx a1.elem 0).bind fun x3 =>
 (rec x3 a0).bind fun y4 =>
 some (!y4)
theorem ZnF (w0 : World) (rec : Ty → Vl → Option Bool) (ih : ∀ (B : List (List AV)) (Rw : List RowA) (L : List LoopA) (a0 : Ty) (a1 : Vl) (r : Bool) (h : rec a0 a1 = some r), ACalls Tryz.prog w0 107 [.agg (a0.cs), .agg (a1.cs)] ⟨B, Rw, L⟩ fun x st => x = .val (.bool r) ∧ st = ⟨B, Rw, L⟩) (B : List (List AV)) (Rw : List RowA) (L : List LoopA) (a0 : Vl) (la1 : Nat) (a1 : Ty) (hla1 : B[la1]? = some (a1.cs)) (r : Bool) (h : ZhP rec a0 a1 = some r) :
  ACalls Tryz.prog w0 183 [.agg (a0.cs), .box la1 0] ⟨B, Rw, L⟩ fun x st => x = .val (.bool r) ∧ st = ⟨B, Rw, L⟩ := by
 rw [ZhP] at h
 refine hd [.tmp 3] Tryz.func183 Tryz.ntmps183 fun M0 W0 hN hNR hNL hcalm hu hO hs => ?_
 simp only [Zal]
 have hltla1 := (List.getElem?_eq_some_iff.1 hla1).1
 have hs := And.intro (Zag hla1) hs
 refine rg [1, 2] hs ?_
 apply Zac; intro K2 hK2
 obtain ⟨x3, hx3a, hx3b, hx3d, h⟩ := ix avT h
 have hx3e : (a1.elem.map avT).getD 0 .junk = _ := hx3d
 obtain ⟨y4, hy4, h⟩ := bind_some h
 apply Zaw mix 8 2 1 [3] (by kernel_rfl)
 rw [Zaa]; simp +decide only [go_sem, Nat.reduceAdd, Zag hla1, hx3d, hx3e]
 have hs := And.intro hx3d hs
 have hs := And.intro hx3e hs
 (repeat' apply And.intro) <;> first | refine Zad _ (ih _ _ _ x3 a0 _ hy4) (hv hs) ?_ | exact cl
 rw [Zaa]; simp +decide only [go_sem, Nat.reduceAdd, Zag hla1, hx3d, hx3e]
 (repeat' with_reducible apply And.intro) <;> first | (rw [Zaa]; simp +decide only [go_sem, Nat.reduceAdd, Zag hla1, hx3d, hx3e]) | exact cl
 (repeat' apply And.intro) <;> first | refine hK2 _ _ ?_ | exact cl
 clear hK2
 exact rt h hs hcalm hO
def ZcS (n : Nat)  : Option Int :=
 some ((-1))
def ZbH (n : Nat) (a0 : List (ByteArray × Vl)) (a1 : (ByteArray × Vl) → Option Bool) : Nat → Int → Option Int
 | 0, _ => none
 | m + 1, x8_l6 =>
  if decide (x8_l6 < ((a0.length : Int))) then
   (idx a0 x8_l6).bind fun x13 =>
   (a1 x13).bind fun y14 =>
   if y14 then
    some (x8_l6)
   else
    if I64 (x8_l6 + 1) then
     (ZbH n a0 a1 m) (x8_l6 + 1)
    else none
  else
   ZcS n 
def ZbY (n : Nat) (a0 : List (ByteArray × Vl)) (a1 : (ByteArray × Vl) → Option Bool) : Option Int :=
 ZbH n a0 a1 n 0
theorem Zee (w0 : World) (n : Nat) (B : List (List AV)) (Rw : List RowA) (L : List LoopA) (a0 : List (ByteArray × Vl)) (fa1 : FuncId) (ca1 : List AV) (a1 : (ByteArray × Vl) → Option Bool) (ha1 : ∀ (x0 : ByteArray × Vl) r, a1 x0 = some r → ∀ B' rows, B <+: B' → Rw <+: rows → ACalls Tryz.prog w0 fa1 ([.agg (.val (.string x0.1) :: (x0.2.cs))] ++ ca1) ⟨B', rows, L⟩ fun v s => v = .val (.bool r) ∧ s = ⟨B', rows, L⟩) (r : Int) (h : ZbY n a0 a1 = some r) :
  ACalls Tryz.prog w0 67 [.list (a0.map avF) .none, .clo fa1 ca1] ⟨B, Rw, L⟩ fun x st => x = .val (.int .i64 r) ∧ st = ⟨B, Rw, L⟩ := by
 rw [ZbY] at h
 refine hd [.tmp 4] Tryz.func67 Tryz.ntmps67 fun M0 W0 hN hNR hNL hcalm hu hO hs => ?_
 simp only [Zal]
 have hU_a1 := Za0 (hu (.clo fa1 ca1) (by simp))
 refine rg [0, 1] hs ?_
 refine Zak (fun e st => Ck e st B Rw L [] [] [] (ZcS n  = some r)) ?_ ?_
 ·
  intro K4 hK4
  refine rg [0, 1, 7, 8] hs ?_
  apply Zaf
  refine Zap (fun m e st => ∃ (x8_l6 : Int), Ck e st B Rw L [(0, true, .list (a0.map avF) .none), (1, true, .clo fa1 ca1), (7, true, .val (.int .i64 ((a0.length : Int)))), (8, true, .val (.int .i64 x8_l6))] [] [] (ZbH n a0 a1 m x8_l6 = some r)) n ⟨0, ([]), Rw, ef hs, ef hs, hO, h⟩ ?_
  rintro ml6 e st ⟨x8_l6, Xl6, Rl6, rfl, rfl, hO, h⟩ Ul6 Vl6
  cases ml6 with
  | zero => cases h
  | succ ml6 =>
  rw [ZbH] at h
  refine Zas hN hNR hNL rfl hcalm hO (by (simp +decide only [go_sem, Nat.reduceAdd]) <;> (try (repeat' apply And.intro)) <;> first | omega | assumption | exact hU_a1 _ _ _ (by omega) (by have := hO.len; omega) (by omega)) (by (simp +decide only [go_sem, Nat.reduceAdd, Za2]) <;> (try (repeat' apply And.intro)) <;> first | omega | assumption | exact hU_a1 _ _ _ (by omega) (by have := hO.len; omega) (by omega)) ?_
  refine rg [0, 1, 7, 8, 9] hs ?_
  apply Zac; intro K8 hK8
  refine cnd h hs (fun hs h => ?_) (fun hs h => ?_)
  rotate_left
  ·
   refine sx [] hs hK4 ?_
   exact ⟨([]), Rl6, ef hs, ef hs, hO, h⟩
  refine sk [0, 1, 7, 8] hs hK8 ?_
  clear hK8
  apply Zac; intro K10 hK10
  apply Zaf
  refine rg [0, 1, 5, 7, 8] hs ?_
  obtain ⟨x13, hx13, h⟩ := bind_some h
  obtain ⟨hx13a, hx13b, hx13c⟩ := Zam hx13
  have hx13d := Zao (f := avF) hx13c
  obtain ⟨y14, hy14, h⟩ := bind_some h
  have hs := And.intro hx13d hs
  refine rc 2 [0, 1, 5, 7, 8, 16] hs ?_; intro K12 hK12
  refine Zdl _ (ha1 x13 _ hy14 _ _ (by first | exact List.prefix_append _ _ | exact List.prefix_refl _) hO.pre) (hv hs) ?_
  refine ne hs hK12 ?_
  clear hK12
  refine cnd h hs (fun hs h => ?_) (fun hs h => ?_)
  ·
   refine rg [4] hs ?_
   exact rt h hs hcalm hO
  refine sk [0, 1, 7, 8] hs hK10 ?_
  clear hK10
  obtain ⟨hg17, h⟩ := Zae h
  refine rl [0, 1, 7, 8] hs (fun e s => Vl6 ml6 e s (Nat.lt_succ_self _)) ?_
  exact ⟨(x8_l6 + 1), ([]), Rl6, ef hs, ef hs, hO, h⟩
 ·
  clear h; rintro e st ⟨Xk3, Rk3, rfl, rfl, hO, h⟩
  rw [ZcS] at h
  refine Zas hN hNR hNL rfl hcalm hO (by (simp +decide only [go_sem, Nat.reduceAdd]) <;> (try (repeat' apply And.intro)) <;> first | omega | assumption | exact hU_a1 _ _ _ (by omega) (by have := hO.len; omega) (by omega)) (by (simp +decide only [go_sem, Nat.reduceAdd, Za2]) <;> (try (repeat' apply And.intro)) <;> first | omega | assumption | exact hU_a1 _ _ _ (by omega) (by have := hO.len; omega) (by omega)) ?_
  refine rg [4] hs ?_
  exact rt h hs hcalm hO
def ZeK (a0 : ByteArray × Vl) (a1 : ByteArray) : Bool :=
 sEq a0.1 a1
theorem Zll (w0 : World) (B : List (List AV)) (Rw : List RowA) (L : List LoopA) (a0 : ByteArray × Vl) (la1 : Nat) (a1 : ByteArray) (hla1 : B[la1]? = some ([.val (.string a1)])) (r : Bool) (h : ZeK a0 a1 = r) :
  ACalls Tryz.prog w0 124 [.agg (.val (.string a0.1) :: (a0.2.cs)), .box la1 0] ⟨B, Rw, L⟩ fun x st => x = .val (.bool r) ∧ st = ⟨B, Rw, L⟩ := by
 rw [ZeK] at h
 refine hd [.tmp 3] Tryz.func124 Tryz.ntmps124 fun M0 W0 hN hNR hNL hcalm hu hO hs => ?_
 simp only [Zal]
 have hltla1 := (List.getElem?_eq_some_iff.1 hla1).1
 have hs := And.intro (Zag hla1) hs
 refine rg [1, 2] hs ?_
 refine rg [3] hs ?_
 apply Zaj; simp +decide only [go_sem, Nat.reduceAdd, Zag hla1]
 subst h
 first | refine Zaz hcalm rfl hO.pre ev ⟨?_, rfl⟩ | refine Za5 hcalm rfl hO.pre ev ⟨?_, rfl⟩
 first | rfl | (simp +decide only [go_sem, Nat.reduceAdd, Zag hla1]; done) | (simp +decide only [go_sem, Nat.reduceAdd, Vl.cs, Ty.cs, Zag hla1]; done)
theorem Zkx (w0 : World) (B : List (List AV)) (Rw : List RowA) (L : List LoopA) (a0 : ByteArray × Vl) (la1 : Nat) (a1 : ByteArray) (hla1 : B[la1]? = some ([.val (.string a1)])) :
  ACalls Tryz.prog w0 124 [.agg (.val (.string a0.1) :: (a0.2.cs)), .box la1 0] ⟨B, Rw, L⟩ fun x st => x = .val (.bool (ZeK a0 a1)) ∧ st = ⟨B, Rw, L⟩ := Zll w0 B Rw L a0 la1 a1 hla1 _ rfl
def Zi7 (n : Nat) (a0 : Vl) (a1 : ByteArray) : Option Int :=
 (ZbY n a0.fields (fun (x0 : ByteArray × Vl) => some (ZeK x0 a1))).bind fun y3 =>
 some (y3)
theorem ZnD (w0 : World) (n : Nat) (B : List (List AV)) (Rw : List RowA) (L : List LoopA) (a0 : Vl) (a1 : ByteArray) (r : Int) (h : Zi7 n a0 a1 = some r) :
  ACalls Tryz.prog w0 64 [.agg (a0.cs), .val (.string a1)] ⟨B, Rw, L⟩ fun x st => x = .val (.int .i64 r) ∧ st = ⟨B, Rw, L⟩ := by
 rw [Zi7] at h
 refine hd [.tmp 4] Tryz.func64 Tryz.ntmps64 fun M0 W0 hN hNR hNL hcalm hu hO hs => ?_
 simp only [Zal]
 refine rg [2, 3] hs ?_
 obtain ⟨y3, hy3, h⟩ := bind_some h
 refine rc 2 [4] hs ?_; intro K2 hK2
 refine Zad _ (Zee w0 n _ _ _ a0.fields 124 [.box (B.length + 1) 0] (fun (x0 : ByteArray × Vl) => some (ZeK x0 a1)) (fun x0 r hx B' rows' hB' hR' => by cases hx; exact Zkx w0 _ _ _ x0 _ a1 (ZbC hB' ev)) _ hy3) (hv hs) ?_
 refine ne hs hK2 ?_
 clear hK2
 exact rt h hs hcalm hO
def Zgk (n : Nat) (a0 : Vl) (a1 : ByteArray) : Option (Vl × Bool) :=
 (Zi7 n a0 a1).bind fun y3 =>
 if (!(decide (a0.kind = 9))) || (decide (y3 < 0)) then
  some ((Vl.mk 0 0 0 ((⟨#[]⟩ : ByteArray)) ([]) ([]), false))
 else
  (idx a0.fields y3).bind fun x9 =>
  (Zdw n x9.2).bind fun y10 =>
  some ((y10, true))
theorem Zih (w0 : World) (n : Nat) (B : List (List AV)) (Rw : List RowA) (L : List LoopA) (a0 : Vl) (a1 : ByteArray) (r : Vl × Bool) (h : Zgk n a0 a1 = some r) :
  ACalls Tryz.prog w0 185 [.agg (a0.cs), .val (.string a1)] ⟨B, Rw, L⟩ fun x st => x = .tup [.agg (r.1.cs), .val (.bool r.2)] ∧ st = ⟨B, Rw, L⟩ := by
 rw [Zgk] at h
 refine hd [.cell 4 46, .tmp 5] Tryz.func185 Tryz.ntmps185 fun M0 W0 hN hNR hNL hcalm hu hO hs => ?_
 simp only [Zal]
 refine rg [1, 2, 4] hs ?_
 obtain ⟨y3, hy3, h⟩ := bind_some h
 refine rc 2 [2, 4, 6] hs ?_; intro K2 hK2
 refine Zad _ (ZnD w0 n _ _ _ a0 a1 _ hy3) (hv hs) ?_
 refine ne hs hK2 ?_
 clear hK2
 apply Zac; intro K4 hK4
 refine rg [2, 4, 6, 16] hs ?_
 refine cnd h hs (fun hs h => ?_) (fun hs h => ?_)
 ·
  have hb6 := hs.1
  apply Zac; intro K7 hK7
  apply Zab 1 [4, 5]
  rw [Zaa]; simp +decide only [go_sem, Nat.reduceAdd, hb6, ZaW, Zat, Zar]
  (repeat' apply And.intro) <;> first | refine hK7 _ _ ?_ | exact cl
  clear hK7
  exact rt h hs hcalm hO
 have hb6 := hs.1
 refine sk [2, 4, 6] hs hK4 ?_
 clear hK4
 obtain ⟨x9, hx9, h⟩ := bind_some h
 obtain ⟨hx9a, hx9b, hx9c⟩ := Zam hx9
 have hx9d := Zao (f := avF) hx9c
 obtain ⟨y10, hy10, h⟩ := bind_some h
 have hs := And.intro hx9d hs
 refine rc 2 [4, 5] hs ?_; intro K8 hK8
 refine Zad _ (Zdp w0 n _ _ _ x9.2 _ hy10) (hv hs) ?_
 refine ne hs hK8 ?_
 clear hK8
 exact rt h hs hcalm hO
def ZhW (n : Nat) (a0 : Int × ByteArray × Int × Ty × List Vl) (a1 : Vl) : Option Bool :=
 (Zgk n a1 a0.2.1).bind fun y3 =>
 some ((!y3.2) && (!(decide (a0.2.2.1 = 2))))
theorem ZnL (w0 : World) (n : Nat) (B : List (List AV)) (Rw : List RowA) (L : List LoopA) (a0 : Int × ByteArray × Int × Ty × List Vl) (la1 : Nat) (a1 : Vl) (hla1 : B[la1]? = some (a1.cs)) (r : Bool) (h : ZhW n a0 a1 = some r) :
  ACalls Tryz.prog w0 184 [.agg (.val (.int .i64 a0.1) :: (.val (.string a0.2.1) :: (.val (.int .i64 a0.2.2.1) :: ((a0.2.2.2.1.cs) ++ ([.list (a0.2.2.2.2.map avV) .none]))))), .box la1 0] ⟨B, Rw, L⟩ fun x st => x = .val (.bool r) ∧ st = ⟨B, Rw, L⟩ := by
 rw [ZhW] at h
 refine hd [.tmp 3] Tryz.func184 Tryz.ntmps184 fun M0 W0 hN hNR hNL hcalm hu hO hs => ?_
 simp only [Zal]
 have hltla1 := (List.getElem?_eq_some_iff.1 hla1).1
 have hs := And.intro (Zag hla1) hs
 refine rg [1, 2] hs ?_
 obtain ⟨y3, hy3, h⟩ := bind_some h
 refine rc 2 [2, 5] hs ?_; intro K2 hK2
 refine Zad _ (Zih w0 n _ _ _ a1 a0.2.1 _ hy3) (hv hs) ?_
 refine ne hs hK2 ?_
 clear hK2
 refine rg [3] hs ?_
 exact rt h hs hcalm hO
def ZaF (n : Nat) (a0 : List (Int × ByteArray × Int × Ty × List Vl)) (a1 : (Int × ByteArray × Int × Ty × List Vl) → Option Bool) : Option Bool :=
 (ZaQ n a0 a1).bind fun y3 =>
 some (decide (0 ≤ y3))
theorem Za4 (w0 : World) (n : Nat) (B : List (List AV)) (Rw : List RowA) (L : List LoopA) (a0 : List (Int × ByteArray × Int × Ty × List Vl)) (fa1 : FuncId) (ca1 : List AV) (a1 : (Int × ByteArray × Int × Ty × List Vl) → Option Bool) (ha1 : ∀ (x0 : Int × ByteArray × Int × Ty × List Vl) r, a1 x0 = some r → ∀ B' rows, B <+: B' → Rw <+: rows → ACalls Tryz.prog w0 fa1 ([.agg (.val (.int .i64 x0.1) :: (.val (.string x0.2.1) :: (.val (.int .i64 x0.2.2.1) :: ((x0.2.2.2.1.cs) ++ ([.list (x0.2.2.2.2.map avV) .none])))))] ++ ca1) ⟨B', rows, L⟩ fun v s => v = .val (.bool r) ∧ s = ⟨B', rows, L⟩) (r : Bool) (h : ZaF n a0 a1 = some r) :
  ACalls Tryz.prog w0 150 [.list (a0.map Zdz) .none, .clo fa1 ca1] ⟨B, Rw, L⟩ fun x st => x = .val (.bool r) ∧ st = ⟨B, Rw, L⟩ := by
 rw [ZaF] at h
 refine hd [.tmp 4] Tryz.func150 Tryz.ntmps150 fun M0 W0 hN hNR hNL hcalm hu hO hs => ?_
 simp only [Zal]
 have hU_a1 := Za0 (hu (.clo fa1 ca1) (by simp))
 refine rg [0, 1] hs ?_
 obtain ⟨y3, hy3, h⟩ := bind_some h
 refine rc 2 [4] hs ?_; intro K2 hK2
 refine Zad _ (Zbd w0 n _ _ _ a0 fa1 ca1 a1 (fun x0 r hx B'' rows'' q1 q2 => ha1 x0 r hx B'' rows'' (List.IsPrefix.trans (by first | exact List.prefix_append _ _ | exact List.prefix_refl _) q1) (hO.pre.trans q2)) _ hy3) (hv hs) ?_
 refine ne hs hK2 ?_
 clear hK2
 exact rt h hs hcalm hO
end Go.Proofs.YtgpmlelfkjfbiaaGreatDoor
