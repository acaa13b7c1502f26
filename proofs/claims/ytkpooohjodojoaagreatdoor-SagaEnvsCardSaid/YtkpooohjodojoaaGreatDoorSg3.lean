/-
  Part 3 of the proof: rules and walks that the claim's last text uses.
-/
import Derived.Carry
import Derived.ChangeOld
import Derived.ChangeSlices
import Derived.Deep.DeepHandedRow
import Derived.Deep.DeepWitnessRowRef
import Derived.Ground.Names2Prog
import Derived.Ground.NamesProg
import Derived.Ground.SlgfProg
import Derived.Ground.SlgnProg
import Derived.Ground.SlsfProg
import Derived.Lib.AppendZeros
import Derived.Lib.Bytealg
import Derived.Lib.LaidIn
import Derived.Lib.LaidU8T
import Derived.PinnedBridge
import Derived.ProofKit
import Derived.SevenTiedAt
import Derived.Shelf.LaysC
import Derived.Shelf.LaysM
import Derived.Shelf.SlSortCmp.NoneTotal
import Derived.Shelf.SlSortCmp.WholeK
import Derived.Shelf.SlicesE.Clone
import Derived.Shelf.Small.Bits
import Derived.Shelf.Small.Strs
import Derived.Shelf.Small.Utf8
import Derived.Shelf.Strconv.Atoi
import Derived.Shelf.Strconv.AtoiAll
import Derived.Shelf.Strconv.AtoiErrFast
import Derived.Shelf.Strconv.AtoiFail
import Derived.Shelf.Strconv.AtoiInnerAll
import Derived.Shelf.Strconv.AtoiLong
import Derived.Shelf.Strconv.Clone
import Derived.Shelf.Strconv.Itoa0
import Derived.Shelf.Strconv.Itoa1
import Derived.Shelf.Strconv.Itoa2
import Derived.Shelf.Strconv.Itoa3
import Derived.Shelf.Strconv.Lower
import Derived.Shelf.Strconv.ParseInt10
import Derived.Shelf.Strconv.ParseIntEmpty
import Derived.Shelf.Strconv.ParseUint10
import Derived.Shelf.Strconv.ParseUint10Any
import Derived.Shelf.Strconv.ParseUint10Empty
import Derived.Shelf.Strconv.RangeError
import Derived.Shelf.Strconv.SyntaxError
import Derived.Shelf.Strconv.ToError
import Derived.Shelf.Strconv.ToErrorRange
import Derived.Shelf.Strings.AsciiSet
import Derived.Shelf.Strings.Cut
import Derived.Shelf.Strings.IndexAny
import Derived.Shelf.Strings.IndexAnyAll
import Derived.Shelf.Strings.Repeat
import Derived.Shelf.Strings.Runes
import Derived.Shelf.Strings.Search1
import Derived.Shelf.Strings.Search2
import Derived.Shelf.Strings.Shaped
import Derived.Shelf.Unicode.Decode
import Derived.Shelf.Unicode.DecodeAny
import Derived.Shelf.Unicode.DecodeSlow
import Derived.Shelf.Unicode.ValidAny
import Derived.SizedLaws
import Derived.Sort.Lot0
import Derived.Test.YtkpooohjodojoaaGreatDoorCards
import Derived.Test.YtkpooohjodojoaaGreatDoorProg
import Derived.Test.YtkpooohjodojoaaGreatDoorRows
import Derived.Test.YtkpooohjodojoaaGreatDoorTie
import Derived.Test.YtkpooohjodojoaaGreatDoorSg2
set_option linter.unusedSimpArgs false
set_option linter.unusedVariables false
set_option maxRecDepth 100000
set_option maxHeartbeats 4000000
namespace Go.Ev
open Go Go.RowKit
section
universe u v
variable {α : Type u} {β : Type v} {r : β}
theorem guard_some {c : Prop} [Decidable c] {x : Option β} (h : (if c then x else none) = some r) : c ∧ x = some r := by
 by_cases q : c
 ·
  rw [if_pos q] at h; exact ⟨q, h⟩
 ·
  rw [if_neg q] at h; cases h
theorem bind_some {o : Option α} {f : α → Option β} (h : o.bind f = some r) : ∃ x, o = some x ∧ f x = some r := by
 cases o with
 | none => cases h
 | some x => exact ⟨x, rfl, h⟩
theorem ite_tt {b : Bool} {x y : β} (h : (if b = true then x else y) = r) (hb : b = true) : x = r := by rwa [if_pos hb] at h
theorem ite_ff {b : Bool} {x y : β} (h : (if b = true then x else y) = r) (hb : b = false) : y = r := by rwa [if_neg (by simp [hb])] at h
def idx (xs : List α) (i : Int) : Option α := if 0 ≤ i then xs[i.toNat]? else none
theorem idx_some {xs : List α} {i : Int} {x : α} (h : idx xs i = some x) : 0 ≤ i ∧ i < xs.length ∧ xs[i.toNat]? = some x := by
 unfold idx at h
 obtain ⟨h1, h2⟩ := guard_some h
 have := (List.getElem?_eq_some_iff.1 h2).1
 exact ⟨h1, by omega, h2⟩
theorem idx_of {xs : List α} {i : Nat} (h : i < xs.length) : idx xs (i : Int) = some xs[i] := by simp [idx, h]
theorem getD_map {f : α → AV} {xs : List α} {i : Nat} {x : α} (h : xs[i]? = some x) : (xs.map f).getD i .junk = f x := by simp [List.getD, h]
end
abbrev I64 (n : Int) : Prop := -9223372036854775808 ≤ n ∧ n ≤ 9223372036854775807
theorem under_up {nb nr nl nb' nr' nl' : Nat} {x : AV} (h1 : nb ≤ nb') (h2 : nr ≤ nr') (h3 : nl ≤ nl') (h : Under nb nr nl x) : Under nb' nr' nl' x := by
 induction h with
 | val v => exact .val v
 | list h ho ih => exact .list ih (by rename_i o; cases o <;> first | trivial | exact Nat.lt_of_lt_of_le ho h2)
 | elem h ih => exact .elem ih
 | box h => exact .box (by omega)
 | clo h ih => exact .clo ih
 | agg h ih => exact .agg ih
 | tup h ih => exact .tup ih
 | yld h => exact .yld (by omega)
 | mp h => exact .mp (by omega)
 | tab => exact .tab
 | vec h => exact .vec (by omega)
 | vel h => exact .vel (by omega)
def OwnsAt (lo : Nat) (ho : Own) (rows : List RowA) (x : Nat × Nat × Own) : Prop := x.2.2 = .full ∨ ∃ id, x.2.2 = .row id ∧ (lo ≤ id ∨ ho = .row id) ∧ rows[id]? = some (.grow x.2.1 x.1)
inductive VO where
 | nil
 | row (id ver : Nat)
abbrev VE := VO × Nat × List AV
def VAt (lo : Nat) (ho : Own) (rows : List RowA) (x : VE) : Prop := (x.1 = .nil ∧ x.2.2 = []) ∨ ∃ id ver, x.1 = .row id ver ∧ (lo ≤ id ∨ ho = .row id) ∧ rows[id]? = some (.vec ver x.2.1 x.2.2)
def offV (v : List VE) (i : Nat) : Prop := ∀ x ∈ v, ∀ ver, x.1 ≠ .row i ver
theorem offV_nil (i : Nat) : offV [] i := fun _ h => (nomatch h)
structure Owns (Rw rows : List RowA) (l : List (Nat × Nat × Own)) (ho : Own := .none) (v : List VE := []) : Prop where
 len : Rw.length ≤ rows.length
 keep : ∀ i, i < Rw.length → ho ≠ .row i → rows[i]? = Rw[i]?
 calm : ∀ i r, rows[i]? = some r → (Rw.length ≤ i ∨ ho = .row i) → offV v i → r.cells = []
 each : ∀ x ∈ l, OwnsAt Rw.length ho rows x
 apart : l.Pairwise fun x y => ∀ id, x.2.2 = .row id → y.2.2 ≠ .row id
 veach : ∀ x ∈ v, VAt Rw.length ho rows x
 vapart : v.Pairwise fun x y => ∀ id a b, x.1 = .row id a → y.1 ≠ .row id b
section
variable {Rw rows : List RowA} {l : List (Nat × Nat × Own)} {ho : Own} {v : List VE}
theorem Owns.none (Rw : List RowA) : Owns Rw Rw [] := by
 refine ⟨Nat.le_refl _, fun _ _ _ => rfl, fun i r h q _ => ?_, by simp, .nil, by simp, .nil⟩
 have := (List.getElem?_eq_some_iff.1 h).1
 rcases q with q | q
 ·
  omega
 ·
  cases q
theorem Owns.pre (h : Owns Rw rows l .none v) : Rw <+: rows := by
 rw [List.prefix_iff_getElem?]
 intro i hi
 rw [h.keep i hi (fun q => by cases q), List.getElem?_eq_getElem hi]
theorem Owns.sub {l' : List (Nat × Nat × Own)} (h : Owns Rw rows l ho v) (hs : l'.Sublist l) : Owns Rw rows l' ho v :=
 ⟨h.len, h.keep, h.calm, fun x hx => h.each x (hs.subset hx), h.apart.sublist hs, h.veach, h.vapart⟩
theorem Owns.full (h : Owns Rw rows l ho v) (sz n : Nat) : Owns Rw rows ((sz, n, .full) :: l) ho v :=
 ⟨h.len, h.keep, h.calm, fun x hx => by
  rcases List.mem_cons.1 hx with rfl | hx
  ·
   exact .inl rfl
  ·
   exact h.each x hx, List.pairwise_cons.2 ⟨fun _ _ id q => (nomatch q), h.apart⟩, h.veach, h.vapart⟩
theorem VAt.up {lo : Nat} {x : VE} (h : VAt lo ho rows x) (r : List RowA) : VAt lo ho (rows ++ r) x := by
 rcases h with h | ⟨id, ver, h1, h2, h3⟩
 ·
  exact .inl h
 ·
  exact .inr ⟨id, ver, h1, h2, by rw [List.getElem?_append_left (List.getElem?_eq_some_iff.1 h3).1]; exact h3⟩
theorem VAt.set {lo : Nat} {x : VE} (h : VAt lo ho rows x) {i : Nat} (hi : ∀ ver, x.1 ≠ .row i ver) (r : RowA) : VAt lo ho (rows.set i r) x := by
 rcases h with h | ⟨id, ver, h1, h2, h3⟩
 ·
  exact .inl h
 ·
  exact .inr ⟨id, ver, h1, h2, by rw [List.getElem?_set_ne (fun (e : i = id) => hi ver (by rw [e]; exact h1))]; exact h3⟩
theorem Owns.make (h : Owns Rw rows l ho v) (sz n : Nat) : Owns Rw (rows ++ [.grow n sz]) ((sz, n, .row rows.length) :: l) ho v := by
 have hl := h.len
 refine ⟨by simp; omega, fun i hi hn => ?_, fun i r hr q qv => ?_, fun x hx => ?_, List.pairwise_cons.2 ⟨fun y hy id q k => ?_, h.apart⟩, fun x hx => (h.veach x hx).up _, h.vapart⟩
 ·
  rw [List.getElem?_append_left (by omega)]; exact h.keep i hi hn
 ·
  by_cases hi : i < rows.length
  ·
   rw [List.getElem?_append_left hi] at hr; exact h.calm i r hr q qv
  ·
   rw [List.getElem?_append_right (by omega)] at hr
   have := List.mem_of_getElem? hr
   simp only [List.mem_singleton] at this; subst this; rfl
 ·
  rcases List.mem_cons.1 hx with rfl | hx
  ·
   exact .inr ⟨_, rfl, .inl hl, by simp⟩
  ·
   rcases h.each x hx with q | ⟨id, q1, q2, q3⟩
   ·
    exact .inl q
   ·
    exact .inr ⟨id, q1, q2, by rw [List.getElem?_append_left (List.getElem?_eq_some_iff.1 q3).1]; exact q3⟩
 ·
  rcases h.each y hy with q' | ⟨id', q1, q2, q3⟩
  ·
   rw [q'] at k; cases k
  ·
   rw [q1] at k; cases k; cases q
   exact absurd (List.getElem?_eq_some_iff.1 q3).1 (Nat.lt_irrefl _)
theorem Owns.unders (h : Owns Rw rows l ho v) : ∀ x ∈ l, x.2.2.under rows.length := fun x hx => by
 rcases h.each x hx with q | ⟨id, q1, q2, q3⟩
 ·
  rw [q]; trivial
 ·
  rw [q1]; exact (List.getElem?_eq_some_iff.1 q3).1
theorem Owns.of_eq {l' : List (Nat × Nat × Own)} (h : Owns Rw rows l ho v) (he : l = l') : Owns Rw rows l' ho v := he ▸ h
theorem Owns.swap {l' : List (Nat × Nat × Own)} (h : Owns Rw rows l ho v) (hp : l.Perm l') : Owns Rw rows l' ho v :=
 ⟨h.len, h.keep, h.calm, fun x hx => h.each x (hp.mem_iff.2 hx), (hp.pairwise_iff (R := fun x y : Nat × Nat × Own => ∀ id, x.2.2 = .row id → y.2.2 ≠ .row id) (fun q id a b => q id b a)).1 h.apart, h.veach, h.vapart⟩
theorem Owns.grow_off (h : Owns Rw rows l ho v) {sz n id : Nat} (hx : (sz, n, Own.row id) ∈ l) : offV v id := by
 intro x hv ver e
 rcases h.each _ hx with q | ⟨id', q1, q2, q3⟩
 ·
  cases q
 ·
  cases q1
  rcases h.veach x hv with w | ⟨id2, ver2, w1, w2, w3⟩
  ·
   rw [w.1] at e; cases e
  ·
   rw [w1] at e; cases e
   rw [w3] at q3; cases q3
end
theorem set_grow_pre {Rw rows : List RowA} (h : Rw <+: rows) {id : Nat} (hi : Rw.length ≤ id) (x : RowA) : Rw <+: rows.set id x := by
 obtain ⟨t, rfl⟩ := h
 rw [List.set_append_right _ _ hi]
 exact List.prefix_append _ _
theorem Owns.more {Rw rows : List RowA} {l : List (Nat × Nat × Own)} {ho : Own} {v : List VE} {sz n id : Nat} (h : Owns Rw rows ((sz, n, .row id) :: l) ho v) (m : Nat) : Owns Rw (rows.set id (.grow m sz)) ((sz, m, .row id) :: l) ho v := by
 have hoff := h.grow_off (List.mem_cons_self ..)
 obtain ⟨h0, h1, h2, h3, h4, h5, h6⟩ := h
 obtain ⟨hid, hrow⟩ : (Rw.length ≤ id ∨ ho = .row id) ∧ rows[id]? = some (.grow n sz) := by
  rcases h3 _ (List.mem_cons_self ..) with q | ⟨id', q1, q2, q3⟩
  ·
   cases q
  ·
   cases q1; exact ⟨q2, q3⟩
 have hlt := (List.getElem?_eq_some_iff.1 hrow).1
 obtain ⟨p1, p2⟩ := List.pairwise_cons.1 h4
 refine ⟨by simpa using h0, fun i hi hn => ?_, fun i r hr q qv => ?_, fun x hx => ?_, List.pairwise_cons.2 ⟨fun y hy => p1 y hy, p2⟩, fun x hx => (h5 x hx).set (hoff x hx) _, h6⟩
 ·
  have : id ≠ i := by
   rintro rfl
   rcases hid with q | q
   ·
    omega
   ·
    exact hn q
  rw [List.getElem?_set_ne this]; exact h1 i hi hn
 ·
  by_cases e : id = i
  ·
   subst e
   rw [List.getElem?_set_self hlt] at hr
   cases hr; rfl
  ·
   rw [List.getElem?_set_ne e] at hr; exact h2 i r hr q qv
 ·
  rcases List.mem_cons.1 hx with rfl | hx
  ·
   exact .inr ⟨id, rfl, hid, by simp [hlt]⟩
  ·
   rcases h3 x (List.mem_cons_of_mem _ hx) with q | ⟨id', q1, q2, q3⟩
   ·
    exact .inl q
   ·
    have : id' ≠ id := fun e => p1 x hx id rfl (e ▸ q1)
    exact .inr ⟨id', q1, q2, by rw [List.getElem?_set_ne (Ne.symm this)]; exact q3⟩
theorem Owns.inV {Rw rows : List RowA} {l : List (Nat × Nat × Own)} {ho : Own} {v : List VE} (h : Owns Rw rows l ho v) {i : Nat} {r : RowA} (hr : rows[i]? = some r) (hi : ¬ offV v i) : ∃ x ∈ v, r.cells = x.2.2 ∧ (Rw.length ≤ i ∨ ho = .row i) := by
 simp only [offV, ne_eq, Classical.not_forall, Classical.not_not] at hi
 obtain ⟨x, hx, ver, e⟩ := hi
 rcases h.veach x hx with w | ⟨id, ver', w1, w2, w3⟩
 ·
  rw [w.1] at e; cases e
 ·
  rw [w1] at e; cases e
  rw [w3] at hr; cases hr
  exact ⟨x, hx, rfl, w2⟩
theorem Owns.rowsCalm {Rw rows : List RowA} {l : List (Nat × Nat × Own)} {ho : Own} {v : List VE} (h : Owns Rw rows l ho v) {nb nb' nl : Nat} (hb : nb ≤ nb') (hc : ∀ r ∈ Rw, ∀ x ∈ r.cells, Under nb Rw.length nl x) (hv : ∀ x ∈ v, ∀ y ∈ x.2.2, Under nb' rows.length nl y := by intro x hx; cases hx) : ∀ r ∈ rows, ∀ x ∈ r.cells, Under nb' rows.length nl x := fun r hr x hx => by
 obtain ⟨i, hi, rfl⟩ := List.mem_iff_getElem.1 hr
 have hg : rows[i]? = some rows[i] := List.getElem?_eq_getElem hi
 by_cases qv : offV v i
 case neg =>
  obtain ⟨y, hy, e, _⟩ := h.inV hg qv
  rw [e] at hx
  exact hv y hy x hx
 by_cases q : Rw.length ≤ i ∨ ho = .row i
 ·
  rw [h.calm i _ hg q qv] at hx; cases hx
 ·
  have hlt : i < Rw.length := by omega
  have := h.keep i hlt (fun e => q (.inr e))
  rw [hg, List.getElem?_eq_getElem hlt] at this
  rw [Option.some.inj this] at hx
  exact under_up hb h.len (Nat.le_refl _) (hc _ (List.getElem_mem hlt) x hx)
theorem Owns.call {Rw rows rows' : List RowA} {l : List (Nat × Nat × Own)} {ho o o' : Own} {v : List VE} {sz n n' : Nat} (h : Owns Rw rows ((sz, n, o) :: l) ho v) (hc : Owns rows rows' [(sz, n', o')] o) : Owns Rw rows' ((sz, n', o') :: l) ho v := by
 have hx := h.each _ (List.mem_cons_self ..)
 have hoff : ∀ i, o = .row i → offV v i := fun i e => h.grow_off (sz := sz) (n := n) (by rw [← e]; exact List.mem_cons_self ..)
 obtain ⟨p1, p2⟩ := List.pairwise_cons.1 h.apart
 have own : ∀ i, o = .row i → (Rw.length ≤ i ∨ ho = .row i) ∧ i < rows.length := fun i e => by
  rcases hx with q | ⟨id, q1, q2, q3⟩
  ·
   simp only at q; rw [e] at q; cases q
  ·
   simp only at q1; rw [e] at q1; cases q1
   exact ⟨q2, (List.getElem?_eq_some_iff.1 q3).1⟩
 have l1 := h.len
 have l2 := hc.len
 have ho' := hc.each _ (List.mem_cons_self ..)
 refine ⟨by omega, fun i hi hn => ?_, fun i r hr q qv => ?_, fun x hxm => ?_, List.pairwise_cons.2 ⟨fun y hy id e => ?_, p2⟩, fun x hx => ?_, h.vapart⟩
 ·
  have : o ≠ .row i := fun e => by
   rcases (own i e).1 with q | q
   ·
    omega
   ·
    exact hn q
  rw [hc.keep i (by omega) this]; exact h.keep i hi hn
 ·
  by_cases e : rows.length ≤ i ∨ o = .row i
  ·
   exact hc.calm i r hr e (offV_nil i)
  ·
   rw [hc.keep i (by omega) (fun k => e (.inr k))] at hr
   exact h.calm i r hr q qv
 ·
  rcases List.mem_cons.1 hxm with rfl | hxm
  ·
   rcases ho' with q | ⟨id, q1, q2, q3⟩
   ·
    exact .inl q
   ·
    refine .inr ⟨id, q1, ?_, q3⟩
    rcases q2 with q2 | q2
    ·
     exact .inl (by omega)
    ·
     exact (own id q2).1
  ·
   rcases h.each x (List.mem_cons_of_mem _ hxm) with q | ⟨id, q1, q2, q3⟩
   ·
    exact .inl q
   ·
    refine .inr ⟨id, q1, q2, ?_⟩
    rw [hc.keep id (List.getElem?_eq_some_iff.1 q3).1 (fun e => p1 x hxm id e q1)]
    exact q3
 ·
  intro k
  rcases ho' with q | ⟨id', q1, q2, q3⟩
  ·
   simp only at q e; rw [q] at e; cases e
  ·
   simp only at q1 e
   rw [q1] at e; cases e
   rcases q2 with q2 | q2
   ·
    rcases h.each y (List.mem_cons_of_mem _ hy) with w | ⟨id, w1, w2, w3⟩
    ·
     rw [w] at k; cases k
    ·
     rw [w1] at k; cases k
     have := (List.getElem?_eq_some_iff.1 w3).1
     omega
   ·
    exact p1 y hy _ q2 k
 ·
  rcases h.veach x hx with w | ⟨id, ver, w1, w2, w3⟩
  ·
   exact .inl w
  ·
   refine .inr ⟨id, ver, w1, w2, ?_⟩
   rw [hc.keep id (List.getElem?_eq_some_iff.1 w3).1 (fun e => hoff id e x hx ver w1)]
   exact w3
theorem Owns.append {P : Program} {t el : TypeId} {sz by8 n : Nat} {ag : Bool} {Rw rows : List RowA} {l : List (Nat × Nat × Own)} {o ho : Own} {v : List VE} (h : Owns Rw rows ((sz, n, o) :: l) ho v) (he : elT P t = some (el, sz, ag, by8)) (hz : (zeroT P el).isSome = true) (hs : 0 < sz) (m : Nat)
  (hb : (n + m) * by8 ≤ 140737488355328) (hb2 : n + m ≤ 4611686018427387904) : ∃ o' rows', Owns Rw rows' ((sz, n + m, o') :: l) ho v ∧
   ∀ (xs ys : List AV) (B : List (List AV)) (L : List LoopA) (o2 : Own), xs.length = n → ys.length = m → (∀ y ∈ xs, y.cells.length = sz) →
    evAppend P ⟨B, rows, L⟩ t (.list xs o) (.list ys o2) = ((∀ y ∈ ys, y.cells.length = sz ∧ notTup y = true), .list (xs ++ ys.map AV.pub) o', ⟨B, rows', L⟩) := by
 have key : ∀ (ys : List AV), ys.length = m → appendOb P el sz by8 n ys = (∀ y ∈ ys, y.cells.length = sz ∧ notTup y = true) := by
  intro ys hy
  simp only [appendOb, hs, hz, hy, hb, hb2, true_and]
 rcases h.each _ (List.mem_cons_self ..) with q | ⟨id, q1, q2, q3⟩
 ·
  simp only at q; subst q
  have h' := h.sub (List.sublist_cons_self _ _)
  by_cases hm : m = 0
  ·
   subst hm
   refine ⟨.full, rows, h'.full _ _, fun xs ys B L o2 h1 h2 h3 => ?_⟩
   have : ys = [] := List.length_eq_zero_iff.1 h2
   subst this
   simp [evAppend, he, listOf, isList, hs]
  ·
   refine ⟨.row rows.length, rows ++ [.grow (n + m) sz], h'.make _ _, fun xs ys B L o2 h1 h2 h3 => ?_⟩
   simp only [evAppend, he, listOf, isList]
   rw [if_neg (by omega), h1, key ys h2, h2]
   simp only [true_and, Prod.mk.injEq, eq_iff_iff, and_true]
   exact ⟨fun q => q.1, fun q => ⟨q, h3⟩⟩
 ·
  simp only at q1; subst q1
  refine ⟨.row id, _, h.more (n + m), fun xs ys B L o2 h1 h2 h3 => ?_⟩
  simp only [evAppend, he, listOf, isList]
  rw [h1, key ys h2, h2]
  simp only [true_and, Prod.mk.injEq, eq_iff_iff, and_true]
  exact ⟨fun q => q.1, fun q => ⟨q, h3, q3⟩⟩
section
variable {P : Program} {w0 : World} {n : Nat} {e : Env} {st : St} {M0 : Mem} {W0 : World} {ro : Option Nat} {Q : AQ} {c : Code}
theorem under_caps {nb nr nl : Nat} {f : FuncId} {cs : List AV} (h : Under nb nr nl (.clo f cs)) : ∀ nb' nr' nl', nb ≤ nb' → nr ≤ nr' → nl ≤ nl' → ∀ x ∈ cs, Under nb' nr' nl' x :=
 fun _ _ _ h1 h2 h3 x hx => under_up h1 h2 h3 (under_clo.1 h x hx)
theorem awp_tidy {B0 B bs X : List (List AV)} {Rw rows : List RowA} {L : List LoopA} {l : List (Nat × Nat × Own)} {oh : Own} {v : List VE} (hN : M0.N = B0.length) (hNR : M0.NR = Rw.length) (hNL : M0.NL = L.length) (hB : B.length = B0.length) (hc : Calm B0.length Rw.length L.length ⟨B, Rw, L⟩) (ho : Owns Rw rows l oh v)
  (hbs : ∀ cs ∈ bs, ∀ x ∈ cs, Under (B0.length + bs.length) rows.length L.length x) (he : calmE (B0.length + bs.length) rows.length L.length e)
  (h : awp P w0 n M0 W0 ro c Q e ⟨B ++ bs, rows, L⟩) (hv : ∀ x ∈ v, ∀ y ∈ x.2.2, Under (B0.length + bs.length) rows.length L.length y := by intro x hx; cases hx) : awp P w0 n M0 W0 ro c Q e ⟨B ++ (bs ++ X), rows, L⟩ := by
 rw [← hB] at hN hc hbs he hv
 clear hB B0
 have hl := ho.len
 have e1 : St.cut ⟨B ++ (bs ++ X), rows, L⟩ (B.length + bs.length) rows.length L.length = ⟨B ++ bs, rows, L⟩ := by
  simp only [St.cut, List.take_length, ← List.append_assoc]
  rw [List.take_left' (by simp)]
 refine awp_cut (B.length + bs.length) rows.length L.length (by simp) (Nat.le_refl _) (Nat.le_refl _) (by omega) (by omega) (by omega) ?_ he (by rw [e1]; exact h)
 rw [e1]
 refine ⟨fun r hr x hx => ?_, fun cs hcs x hx => ?_, fun la hla k x hx ht => ?_⟩
 ·
  exact ho.rowsCalm (by omega) hc.rows hv r hr x hx
 ·
  rcases List.mem_append.1 hcs with hcs | hcs
  ·
   exact under_up (by omega) (by omega) (Nat.le_refl _) (hc.boxes cs hcs x hx)
  ·
   exact hbs cs hcs x hx
 ·
  exact under_up (by omega) (by omega) (Nat.le_refl _) (hc.loops la hla k x hx ht)
end
section
variable {P : Program} {w0 : World} {st : St}
theorem callK_q {c d : Bool} {f : FuncId} {cs args args' : List AV} {k : AV → St → Prop} (v : AV)
  (h : ACalls P w0 f args' st fun r s => r = v ∧ s = st) (he : args ++ cs = args') (hk : k v st) : callK P w0 c d (.clo f cs) args st k := .inl ⟨v, fun _ => by
 show ACalls P w0 f (args ++ cs) st _
 rw [he]; exact h, hk⟩
theorem callK_skip {d : Bool} {fv : AV} {args : List AV} {k : AV → St → Prop} (h : k .junk st) : callK P w0 false d fv args st k := .inl ⟨.junk, fun q => (nomatch q), h⟩
theorem fin_q {B B' X : List (List AV)} {Rw rows : List RowA} {L : List LoopA} {Post : AV → St → Prop} {v : AV} (hc : Calm B.length Rw.length L.length ⟨B', Rw, L⟩) (hB : B'.length = B.length) (h2 : Rw <+: rows) (hu : Under B.length Rw.length L.length v.pubA) (hp : Post v.pubA ⟨B', Rw, L⟩) :
  Go.Ev.finP ⟨B, Rw, L⟩ Post v ⟨B' ++ X, rows, L⟩ := by
 obtain ⟨r, rfl⟩ := h2
 have e : St.cut ⟨B' ++ X, Rw ++ r, L⟩ B.length Rw.length L.length = ⟨B', Rw, L⟩ := by simp [St.cut, ← hB]
 exact ⟨by simp [hB], by simp, by simp, by simp only [e]; exact hc, hu, by simp only [e]; exact hp⟩
end
theorem fin_q0 {B B' : List (List AV)} {Rw rows : List RowA} {L : List LoopA} {Post : AV → St → Prop} {v : AV} (hc : Calm B.length Rw.length L.length ⟨B', Rw, L⟩) (hB : B'.length = B.length) (h2 : Rw <+: rows) (hu : Under B.length Rw.length L.length v.pubA) (hp : Post v.pubA ⟨B', Rw, L⟩) :
  Go.Ev.finP ⟨B, Rw, L⟩ Post v ⟨B', rows, L⟩ := by
 have := fin_q (X := []) hc hB h2 hu hp
 rwa [List.append_nil] at this
theorem calm_set {nb nr nl : Nat} {B : List (List AV)} {Rw : List RowA} {L : List LoopA} {l : Nat} {cs : List AV} (h : Calm nb nr nl ⟨B, Rw, L⟩) (hc : ∀ x ∈ cs, Under nb nr nl x) : Calm nb nr nl ⟨B.set l cs, Rw, L⟩ :=
 ⟨h.rows, fun ds hd x hx => by
  rcases List.mem_or_eq_of_mem_set hd with hd | rfl
  ·
   exact h.boxes ds hd x hx
  ·
   exact hc x hx, h.loops⟩
theorem ptr_of {B : List (List AV)} {l : Nat} {cs : List AV} (h : B[l]? = some cs) :
  (∀ X R L o, isRef ⟨B ++ X, R, L⟩ (.box l o) = true) ∧ (∀ R L o, isRef ⟨B, R, L⟩ (.box l o) = true) ∧ (∀ X R L o, cellsAt ⟨B ++ X, R, L⟩ (.box l o) = cs) ∧ (∀ R L o, cellsAt ⟨B, R, L⟩ (.box l o) = cs) ∧
  (∀ X, (B ++ X)[l]? = some cs) ∧ B[l]? = some cs ∧ (∀ X, (B ++ X).getD l [] = cs) ∧ B.getD l [] = cs ∧ (∀ X c, (B ++ X).set l c = B.set l c ++ X) ∧
  (∀ X R L o c, isRef ⟨B.set l c ++ X, R, L⟩ (.box l o) = true) ∧ (∀ R L o c, isRef ⟨B.set l c, R, L⟩ (.box l o) = true) ∧ (∀ X R L o c, cellsAt ⟨B.set l c ++ X, R, L⟩ (.box l o) = c) ∧ (∀ R L o c, cellsAt ⟨B.set l c, R, L⟩ (.box l o) = c) ∧
  (∀ X c, (B.set l c ++ X)[l]? = some c) ∧ (∀ c, (B.set l c)[l]? = some c) ∧ (∀ X c, (B.set l c ++ X).getD l [] = c) ∧ (∀ c, (B.set l c).getD l [] = c) ∧ (∀ X c d, (B.set l c ++ X).set l d = B.set l d ++ X) ∧ (∀ c d, (B.set l c).set l d = B.set l d) ∧ B.set l cs = B := by
 have hl := (List.getElem?_eq_some_iff.1 h).1
 have e1 : ∀ X, (B ++ X)[l]? = some cs := fun X => by rw [List.getElem?_append_left hl]; exact h
 have e2 : ∀ X c, (B.set l c ++ X)[l]? = some c := fun X c => by rw [List.getElem?_append_left (by simpa using hl)]; simp [hl]
 have e3 : ∀ c, (B.set l c)[l]? = some c := fun c => by simp [hl]
 refine ⟨?_, ?_, ?_, ?_, e1, h, ?_, ?_, ?_, ?_, ?_, ?_, ?_, e2, e3, ?_, ?_, ?_, ?_, ?_⟩
 ·
  intro X R L o; simp [isRef]; omega
 ·
  intro R L o; simp [isRef, hl]
 ·
  intro X R L o; simp only [cellsAt, List.getD_eq_getElem?_getD, e1, Option.getD_some]
 ·
  intro R L o; simp only [cellsAt, List.getD_eq_getElem?_getD, h, Option.getD_some]
 ·
  intro X; rw [List.getD_eq_getElem?_getD, e1]; rfl
 ·
  rw [List.getD_eq_getElem?_getD, h]; rfl
 ·
  intro X c; exact List.set_append_left _ _ hl
 ·
  intro X R L o c; simp [isRef]; omega
 ·
  intro R L o c; simp [isRef, hl]
 ·
  intro X R L o c; simp only [cellsAt, List.getD_eq_getElem?_getD, e2, Option.getD_some]
 ·
  intro R L o c; simp only [cellsAt, List.getD_eq_getElem?_getD, e3, Option.getD_some]
 ·
  intro X c; rw [List.getD_eq_getElem?_getD, e2]; rfl
 ·
  intro c; rw [List.getD_eq_getElem?_getD, e3]; rfl
 ·
  intro X c d; rw [List.set_append_left _ _ (by simpa using hl), List.set_set]
 ·
  intro c d; exact List.set_set ..
 ·
  obtain ⟨h1, rfl⟩ := List.getElem?_eq_some_iff.1 h; exact List.set_getElem_self _
@[go_sem] theorem isRef_sown (B X : List (List AV)) (R : List RowA) (L : List LoopA) (i k o : Nat) (c : List AV) : isRef ⟨B.set i c ++ X, R, L⟩ (.box (B.length + k) o) = decide (k < X.length) := by simp [isRef]
@[go_sem] theorem isRef_sown0 (B X : List (List AV)) (R : List RowA) (L : List LoopA) (i o : Nat) (c : List AV) : isRef ⟨B.set i c ++ X, R, L⟩ (.box B.length o) = decide (0 < X.length) := by simp [isRef]
@[go_sem] theorem getD_sown (B X : List (List AV)) (i k : Nat) (c : List AV) : (B.set i c ++ X).getD (B.length + k) [] = X.getD k [] := by
 have := getD_own (B.set i c) X k
 rwa [List.length_set] at this
@[go_sem] theorem getD_sown0 (B X : List (List AV)) (i : Nat) (c : List AV) : (B.set i c ++ X).getD B.length [] = X.getD 0 [] := by
 have := getD_own0 (B.set i c) X
 rwa [List.length_set] at this
@[go_sem] theorem cellsAt_sown (B X : List (List AV)) (R : List RowA) (L : List LoopA) (i k o : Nat) (c : List AV) : cellsAt ⟨B.set i c ++ X, R, L⟩ (.box (B.length + k) o) = X.getD k [] := getD_sown B X i k c
@[go_sem] theorem cellsAt_sown0 (B X : List (List AV)) (R : List RowA) (L : List LoopA) (i o : Nat) (c : List AV) : cellsAt ⟨B.set i c ++ X, R, L⟩ (.box B.length o) = X.getD 0 [] := getD_sown0 B X i c
@[go_sem] theorem set_sown (B X : List (List AV)) (i k : Nat) (c x : List AV) : (B.set i c ++ X).set (B.length + k) x = B.set i c ++ X.set k x := by
 have := set_own (B.set i c) X k x
 rwa [List.length_set] at this
@[go_sem] theorem set_sown0 (B X : List (List AV)) (i : Nat) (c x : List AV) : (B.set i c ++ X).set B.length x = B.set i c ++ X.set 0 x := by
 have := set_own0 (B.set i c) X x
 rwa [List.length_set] at this
@[go_sem] theorem box_sown (B X : List (List AV)) (i k : Nat) (c : List AV) : (B.set i c ++ X)[B.length + k]? = X[k]? := by
 rw [List.getElem?_append_right (by simp), List.length_set, Nat.add_sub_cancel_left]
@[go_sem] theorem box_sown0 (B X : List (List AV)) (i : Nat) (c : List AV) : (B.set i c ++ X)[B.length]? = X[0]? := by
 rw [List.getElem?_append_right (by simp), List.length_set, Nat.sub_self]
attribute [go_sem] List.length_set
theorem prefix_get {α : Type} {B B' : List α} {l : Nat} {c : α} (h : B <+: B') (hl : B[l]? = some c) : B'[l]? = some c := by
 obtain ⟨t, rfl⟩ := h
 rw [List.getElem?_append_left (List.getElem?_eq_some_iff.1 hl).1]; exact hl
@[go_sem] theorem splice_nil (l : List AV) : splice l 0 [] = l := by simp [splice]
@[go_sem] theorem splice_cons0 (a x : AV) (l xs : List AV) : splice (a :: l) 0 (x :: xs) = x :: splice l 0 xs := by simp [splice]
@[go_sem] theorem splice_succ (a : AV) (l xs : List AV) (n : Nat) : splice (a :: l) (n + 1) xs = a :: splice l n xs := by simp [splice, Nat.succ_add]
@[go_sem] theorem box_own (B l : List (List AV)) (k : Nat) : (B ++ l)[B.length + k]? = l[k]? := by rw [List.getElem?_append_right (by omega), Nat.add_sub_cancel_left]
@[go_sem] theorem box_own0 (B l : List (List AV)) : (B ++ l)[B.length]? = l[0]? := by rw [List.getElem?_append_right (by omega), Nat.sub_self]
theorem Owns.enter {Rw rows : List RowA} {l : List (Nat × Nat × Own)} {ho o : Own} {v : List VE} {sz n : Nat} (h : Owns Rw rows ((sz, n, o) :: l) ho v) : Owns rows rows [(sz, n, o)] o := by
 have hx := h.each _ (List.mem_cons_self ..)
 refine ⟨Nat.le_refl _, fun _ _ _ => rfl, fun i r hr q _ => ?_, fun x hm => ?_, by simp, by simp, .nil⟩
 ·
  rcases q with q | q
  ·
   have := (List.getElem?_eq_some_iff.1 hr).1; omega
  ·
   rcases hx with w | ⟨id, w1, w2, w3⟩
   ·
    simp only at w; rw [q] at w; cases w
   ·
    simp only at w1 w3; rw [q] at w1; cases w1
    rw [hr] at w3; rw [Option.some.inj w3]; rfl
 ·
  rw [List.mem_singleton.1 hm]
  rcases hx with w | ⟨id, w1, w2, w3⟩
  ·
   exact .inl w
  ·
   exact .inr ⟨id, w1, .inr w1, w3⟩
def maskOf (acc : List Nat) (o : Oper) : Nat := o.after.toList.foldl (fun m e => if Region.binds .any e then m ||| 2 ^ e.on ||| acc.getD e.on 0 else m) 0
def masks : List Oper → List Nat → List Nat
 | [], acc => acc
 | o :: os, acc => masks os (acc ++ [maskOf acc o])
def ancB (ms : List Nat) (i j : Nat) : Bool := (ms.getD i 0).testBit j
theorem fold_bit (acc : List Nat) (j : Nat) : ∀ (es : List Edge) (m : Nat), (es.foldl (fun m e => if Region.binds .any e then m ||| 2 ^ e.on ||| acc.getD e.on 0 else m) m).testBit j = true → m.testBit j = true ∨ ∃ e ∈ es, Region.binds .any e = true ∧ (e.on = j ∨ ancB acc e.on j = true)
 | [], m, h => .inl h
 | e :: es, m, h => by
  simp only [List.foldl_cons] at h
  rcases fold_bit acc j es _ h with h | ⟨e', h1, h2⟩
  ·
   by_cases c : Region.binds .any e = true
   ·
    rw [if_pos c] at h
    simp only [Nat.testBit_or, Bool.or_eq_true, Nat.testBit_two_pow, decide_eq_true_eq] at h
    rcases h with (h | h) | h
    ·
     exact .inl h
    ·
     exact .inr ⟨e, List.mem_cons_self .., c, .inl h⟩
    ·
     exact .inr ⟨e, List.mem_cons_self .., c, .inr h⟩
   ·
    rw [if_neg c] at h; exact .inl h
  ·
   exact .inr ⟨e', List.mem_cons_of_mem _ h1, h2⟩
theorem fold_congr (acc acc' : List Nat) : ∀ (es : List Edge) (m : Nat), (∀ e ∈ es, Region.binds .any e = true → acc.getD e.on 0 = acc'.getD e.on 0) →
  es.foldl (fun m e => if Region.binds .any e then m ||| 2 ^ e.on ||| acc.getD e.on 0 else m) m = es.foldl (fun m e => if Region.binds .any e then m ||| 2 ^ e.on ||| acc'.getD e.on 0 else m) m
 | [], _, _ => rfl
 | e :: es, m, h => by
  simp only [List.foldl_cons]
  have : (if Region.binds .any e = true then m ||| 2 ^ e.on ||| acc.getD e.on 0 else m) = if Region.binds .any e = true then m ||| 2 ^ e.on ||| acc'.getD e.on 0 else m := by
   by_cases c : Region.binds .any e = true
   ·
    rw [if_pos c, if_pos c, h e (List.mem_cons_self ..) c]
   ·
    rw [if_neg c, if_neg c]
  rw [this]
  exact fold_congr acc acc' es _ fun e' h' => h e' (List.mem_cons_of_mem _ h')
theorem masks_pre : ∀ (os : List Oper) (acc : List Nat) (i : Nat), i < acc.length → (masks os acc).getD i 0 = acc.getD i 0
 | [], _, _, _ => rfl
 | o :: os, acc, i, h => by
  rw [masks, masks_pre os _ i (by simp; omega), List.getD_eq_getElem?_getD, List.getElem?_append_left h, List.getD_eq_getElem?_getD]
theorem masks_at : ∀ (os : List Oper) (acc : List Nat) (k : Nat) (o : Oper), os[k]? = some o → (∀ (k : Nat) (o : Oper), os[k]? = some o → ∀ e ∈ o.after, Region.binds .any e = true → e.on < acc.length + k) → (masks os acc).getD (acc.length + k) 0 = maskOf (masks os acc) o
 | [], _, _, _, h, _ => by simp at h
 | o' :: os, acc, 0, o, h, hb => by
  simp only [List.getElem?_cons_zero, Option.some.injEq] at h
  subst h
  rw [masks, masks_pre os _ _ (by simp)]
  have e1 : (acc ++ [maskOf acc o']).getD (acc.length + 0) 0 = maskOf acc o' := by simp [List.getD_eq_getElem?_getD]
  rw [e1]
  refine fold_congr _ _ _ _ fun e he hbd => ?_
  have := hb 0 o' rfl e (by simpa using he) hbd
  rw [masks_pre os _ _ (by simp; omega), List.getD_eq_getElem?_getD, List.getD_eq_getElem?_getD, List.getElem?_append_left (by omega)]
 | o' :: os, acc, k + 1, o, h, hb => by
  rw [masks]
  have := masks_at os (acc ++ [maskOf acc o']) k o (by simpa using h) (fun k o h e he hbd => by
   have := hb (k + 1) o (by simpa using h) e he hbd
   simp; omega)
  rw [List.length_append, List.length_singleton, Nat.add_assoc, Nat.add_comm 1 k] at this
  exact this
def lookOkB (ef : List Nat) (ms : List Nat) (i j : Nat) : Bool :=
 if ef.contains i then ef.contains j || ancB ms i j else if ef.contains j then ancB ms j i else decide (j < i) && ancB ms i j
def sameOkB (ef : List Nat) (ms : List Nat) (i j : Nat) : Bool :=
 if ef.contains i then ef.contains j || ancB ms i j else ef.contains j && ancB ms j i
def orderB (l : List Oper) (ef : List Nat) : Bool := (ef.all fun i => decide (i < l.length)) &&
 (List.range l.length).all fun i => match l[i]? with
  | some o => (o.after.toList.all fun e => !Region.binds .any e || decide (e.on < i)) && (List.range l.length).all fun j => match l[j]? with
   | some p => match p.dst with
    | some s => (decide (i = j) || o.dst != some s || sameOkB ef (masks l []) i j) && (!(looks l o).contains s || lookOkB ef (masks l []) i j)
    | none => true
   | none => true
  | none => true
theorem orderB_spec {l : List Oper} {ef : List Nat} (hB : orderB l ef = true) {i : Nat} {o : Oper} (ho : l[i]? = some o) :
  (∀ e ∈ o.after, Region.binds .any e = true → e.on < i) ∧ ∀ j p s, l[j]? = some p → p.dst = some s → (o.dst = some s → i = j ∨ sameOkB ef (masks l []) i j = true) ∧ (s ∈ looks l o → lookOkB ef (masks l []) i j = true) := by
 have h1 := List.all_eq_true.1 (Bool.and_eq_true_iff.1 hB).2 i (List.mem_range.2 (List.getElem?_eq_some_iff.1 ho).1)
 simp only [ho, Bool.and_eq_true] at h1
 refine ⟨fun e he hb => ?_, fun j p s hp hs => ?_⟩
 ·
  have := List.all_eq_true.1 h1.1 e (by simpa using he)
  simpa [hb] using this
 ·
  have h2 := List.all_eq_true.1 h1.2 j (List.mem_range.2 (List.getElem?_eq_some_iff.1 hp).1)
  simp only [hp, hs, Bool.and_eq_true, Bool.or_eq_true, decide_eq_true_eq, bne_iff_ne, Bool.not_eq_true'] at h2
  refine ⟨fun hd => ?_, fun hm => ?_⟩
  ·
   rcases h2.1 with (h | h) | h
   ·
    exact .inl h
   ·
    exact absurd hd h
   ·
    exact .inr h
  ·
   rcases h2.2 with h3 | h3
   ·
    have : (looks l o).contains s = true := by simpa using hm
    rw [h3] at this; cases this
   ·
    exact h3
theorem anc_listed {l : List Oper} {ef : List Nat} (hB : orderB l ef = true) {listed : Array Bool} (closed : ∀ (j : Nat) (oj : Oper), l[j]? = some oj → listed.getD j false = true → ∀ e ∈ oj.after, Region.binds .any e = true → listed.getD e.on false = true) (j : Nat) :
  ∀ (i : Nat) (o : Oper), l[i]? = some o → (∀ e ∈ o.after, Region.binds .any e = true → listed.getD e.on false = true) → ancB (masks l []) i j = true → listed.getD j false = true := by
 intro i
 induction i using Nat.strongRecOn with
 | _ i ih =>
  intro o ho ha hanc
  have hm := masks_at l [] i o ho (fun k o h e he hb => by have := (orderB_spec hB h).1 e he hb; simpa using this)
  simp only [List.length_nil, Nat.zero_add] at hm
  unfold ancB at hanc
  rw [hm] at hanc
  rcases fold_bit _ _ _ _ hanc with h | ⟨e, h1, h2, h3⟩
  ·
   simp at h
  ·
   have he : e ∈ o.after := by simpa using h1
   have hon := ha e he h2
   have hlt := (orderB_spec hB ho).1 e he h2
   rcases h3 with rfl | h3
   ·
    exact hon
   ·
    have hil := (List.getElem?_eq_some_iff.1 ho).1
    exact ih e.on hlt _ (List.getElem?_eq_getElem (by omega)) (closed e.on _ (List.getElem?_eq_getElem (by omega)) hon) h3
def skipE (ef : List Nat) : Nat → List Oper → List Oper
 | _, [] => []
 | i, o :: os => (if ef.contains i then { o with dst := none, op := .move (.const (.bool true)), guard := none } else o) :: skipE ef (i + 1) os
theorem skipE_get (ef : List Nat) : ∀ (l : List Oper) (k i : Nat), (skipE ef k l)[i]? = (l[i]?).map fun o => if ef.contains (k + i) then { o with dst := none, op := .move (.const (.bool true)), guard := none } else o
 | [], _, _ => by simp [skipE]
 | o :: os, k, 0 => by simp [skipE]
 | o :: os, k, i + 1 => by simp only [skipE, List.getElem?_cons_succ]; rw [skipE_get ef os (k + 1) i, Nat.add_assoc, Nat.add_comm 1 i]
theorem skipE_length (ef : List Nat) : ∀ (l : List Oper) (k : Nat), (skipE ef k l).length = l.length
 | [], _ => rfl
 | o :: os, k => by simp [skipE, skipE_length ef os]
section
variable {P : Program} {w0 : World} {n : Nat}
def StepOk (P : Program) (w0 : World) (ev : Env) (s : St) (o : Oper) (v : AV) (s' : St) : Prop :=
 match o.op with
 | .call ⟨.value f, args, _⟩ => argOk ev true f ∧ (∀ x ∈ args.toList, argOk ev true x) ∧ VCalls P w0 (argV ev f) (args.toList.map fun x => argP ev (argV ev x)) s fun r t => r = v ∧ t = s'
 | op => (evOp P ev true s op).1 ∧ (evOp P ev true s op).2.1 = v ∧ (evOp P ev true s op).2.2 = s'
theorem stepOk_other {ev : Env} {s s' : St} {o : Oper} {v : AV} (hc : ¬ isCallF o.op = true) : StepOk P w0 ev s o v s' = ((evOp P ev true s o.op).1 ∧ (evOp P ev true s o.op).2.1 = v ∧ (evOp P ev true s o.op).2.2 = s') := by
 obtain ⟨dst, op, type, pos, after, guard⟩ := o
 cases op with
 | call cc =>
  obtain ⟨callee, args, ts⟩ := cc
  cases callee with
  | value f => exact absurd rfl hc
  | _ => rfl
 | _ => rfl
def StepP (P : Program) (w0 : World) (ev : Env) (s : St) (o : Oper) (Post : AV → St → Prop) : Prop :=
 (isCallF o.op = true ∧ match o.op with
  | .call ⟨.value f, args, _⟩ => argOk ev true f ∧ (∀ x ∈ args.toList, argOk ev true x) ∧ VCalls P w0 (argV ev f) (args.toList.map fun x => argP ev (argV ev x)) s Post
  | _ => False) ∨ ∃ v s', StepOk P w0 ev s o v s' ∧ ∀ r t, r = v ∧ t = s' → Post r t
theorem stepOk_sound {M : Mem} {ev : Env} {s s' : St} {a : Act} {w : World} (h : Rel w0 n M ev s a w) (ro : Option Nat) (m : Nat) {o : Oper} {v : AV} (hv : StepOk P w0 ev s o v s')
  (Q : Exit → Act → World → Prop) (K : Act → World → Prop) (hK : ∀ u w' M', Ext w0 M w M' w' → RelSt w0 M' s' w' → R w0 M' w' u v → K (a.put o.dst u) w') : o.wpIn (FW ro) m P a w K Q := by
 by_cases hc : isCallF o.op = true
 ·
  obtain ⟨dst, op, type, pos, after, guard⟩ := o
  cases op <;> try cases hc
  rename_i cc
  obtain ⟨callee, args, ts⟩ := cc
  cases callee <;> try cases hc
  rename_i f
  obtain ⟨b1, b2, b3⟩ := hv
  refine call_sound h ro m b1 b2 b3 Q _ (fun r t hp u w' M' hx hst hu => ?_)
  obtain ⟨rfl, rfl⟩ := hp
  exact hK u w' M' hx hst hu
 ·
  rw [stepOk_other hc] at hv
  obtain ⟨b1, b2, b3⟩ := hv
  refine one_sound h ro m o b1 Q _ (fun u w' M' hx hst hu => ?_)
  rw [b3] at hst
  rw [b2] at hu
  exact hK u w' M' hx hst hu
theorem stepP_sound {M : Mem} {ev : Env} {s : St} {a : Act} {w : World} (h : Rel w0 n M ev s a w) (ro : Option Nat) (m : Nat) {o : Oper} {Post : AV → St → Prop} (hv : StepP P w0 ev s o Post)
  (Q : Exit → Act → World → Prop) (K : Act → World → Prop) (hK : ∀ v s' u w' M', Post v s' → Ext w0 M w M' w' → RelSt w0 M' s' w' → R w0 M' w' u v → K (a.put o.dst u) w') : o.wpIn (FW ro) m P a w K Q := by
 rcases hv with ⟨hc, hv⟩ | ⟨v, s', hv, hp⟩
 ·
  obtain ⟨dst, op, type, pos, after, guard⟩ := o
  cases op <;> try cases hc
  rename_i cc
  obtain ⟨callee, args, ts⟩ := cc
  cases callee <;> try cases hc
  rename_i f
  obtain ⟨b1, b2, b3⟩ := hv
  exact call_sound h ro m b1 b2 b3 Q _ (fun r t hp u w' M' hx hst hu => hK r t u w' M' hp hx hst hu)
 ·
  exact stepOk_sound h ro m hv Q K fun u w' M' hx hst hu => hK v s' u w' M' (hp _ _ ⟨rfl, rfl⟩) hx hst hu
def GoodD (P : Program) (w0 : World) (n : Nat) (l : List Oper) (ef : List Nat) (F : List Nat → St → Prop) (T : Env → St → Prop) : Nat → List Nat → Env → St → Prop
 | 0, _, _, _ => False
 | k + 1, dn, ev, s => F dn s ∧ ((ef.all fun i => dn.contains i) = true → T ev s) ∧ ∀ i ∈ ef, dn.contains i = false → (ef.all fun j => !ancB (masks l []) i j || dn.contains j) = true →
   ∃ o, l[i]? = some o ∧ o.guard = none ∧ dstOk n o.dst ∧ ∃ Post : AV → St → Prop, StepP P w0 (view true l o ev) s o Post ∧ ∀ v s', Post v s' → GoodD P w0 n l ef F T k (i :: dn) (putE ev o.dst true v) s'
abbrev Good (P : Program) (w0 : World) (n : Nat) (l : List Oper) (ef : List Nat) (F : St → Prop) (T : Env → St → Prop) : Nat → List Nat → Env → St → Prop := GoodD P w0 n l ef (fun _ => F) T
structure AInv (w0 : World) (n : Nat) (l : List Oper) (ef : List Nat) (s0 : St) (e e1 : Env) (M1 : Mem) (w1 : World) (ds : List Deferred) (dn : List Nat) (ev : Env) (s : St) (listed : Array Bool) (a : Act) (w : World) (M : Mem) : Prop where
 size : listed.size = l.length
 ini : dn = [] → s = s0
 closed : ∀ (j : Nat) (oj : Oper), l[j]? = some oj → listed.getD j false = true → ∀ e ∈ oj.after, Region.binds .any e = true → listed.getD e.on false = true
 eff : ∀ i ∈ ef, (listed.getD i false = true ↔ i ∈ dn)
 sub : ∀ i ∈ dn, i ∈ ef
 rel : RelSt w0 M s w
 tmps : a.tmps.size = n
 defers : a.defers = ds
 ext : Ext w0 M1 w1 M w
 evn : ∀ t, (∀ j ∈ dn, ∀ o, l[j]? = some o → o.dst ≠ some t) → look ev t = look e1 t
 done : ∀ t x, (∃ j ∈ dn, ∃ o, l[j]? = some o ∧ o.dst = some t) → look ev t = some x → entryOk w0 M w (a.tmps.getD t undef) x
 new : ∀ t x, (∀ j ∈ dn, ∀ o, l[j]? = some o → o.dst ≠ some t) → (∃ i o, i ∉ ef ∧ l[i]? = some o ∧ o.dst = some t ∧ listed.getD i false = true) → look e1 t = some x → entryOk w0 M w (a.tmps.getD t undef) x
 old : ∀ t x, (∀ i o, l[i]? = some o → o.dst = some t → listed.getD i false = false) → look e t = some x → entryOk w0 M w (a.tmps.getD t undef) x
def earlyB (l : List Oper) (ef el : List Nat) : Bool := ef.all fun i => el.all fun j => ancB (masks l []) i j
def AtOk (P : Program) (w0 : World) (n : Nat) (l : List Oper) (e1 : Env) (s : St) (o : Oper) : Prop :=
 ∃ (Ei : Env) (v : AV), guardOk l (view true l o Ei) o.guard ∧ dstOk n o.dst ∧ OneOk P w0 (view true l o Ei) (guardC l (view true l o Ei) o.guard) s o v ∧ (∀ t ∈ looks l o, look Ei t = look e1 t) ∧ ∀ t, o.dst = some t → look e1 t = some (guardC l (view true l o Ei) o.guard, v)
theorem skip_get {l : List Oper} {ef : List Nat} {i : Nat} {o : Oper} (hi : i ∉ ef) (ho : l[i]? = some o) : (skipE ef 0 l)[i]? = some o := by
 rw [skipE_get, ho]
 simp [hi]
theorem skip_get' {l : List Oper} {ef : List Nat} {i : Nat} {o : Oper} {t : Nat} (hi : (skipE ef 0 l)[i]? = some o) (hd : o.dst = some t) : i ∉ ef ∧ l[i]? = some o := by
 rw [skipE_get] at hi
 cases hl : l[i]? with
 | none => simp [hl] at hi
 | some p =>
  rw [hl] at hi
  simp only [Option.map_some, Nat.zero_add, Option.some.injEq] at hi
  by_cases c : i ∈ ef
  ·
   simp [c] at hi
   subst hi
   cases hd
  ·
   simp [c] at hi
   subst hi
   exact ⟨c, rfl⟩
theorem skip_uniq {l : List Oper} {ef ef' : List Nat} (hB : orderB l ef = true) (hs : ∀ i ∈ ef, i ∈ ef') : ∀ (i j : Nat) (o p : Oper) (t : Nat), (skipE ef' 0 l)[i]? = some o → (skipE ef' 0 l)[j]? = some p → o.dst = some t → p.dst = some t → i = j := by
 intro i j o p t hi hj h1 h2
 obtain ⟨a1, a2⟩ := skip_get' hi h1
 obtain ⟨b1, b2⟩ := skip_get' hj h2
 have a3 : i ∉ ef := fun h => a1 (hs i h)
 have b3 : j ∉ ef := fun h => b1 (hs j h)
 rcases ((orderB_spec hB a2).2 j p t b2 h2).1 h1 with h | h
 ·
  exact h
 ·
  simp [sameOkB, a3, b3] at h
theorem at_all {l : List Oper} {ef : List Nat} {e e1 : Env} {s : St} (hB : orderB l ef = true) (h : ∃ c, evK P w0 n true l (fun e' s' => e' = e1 ∧ s' = s) c (skipE ef 0 l) e s) :
  (∀ t, (∀ i o, i ∉ ef → l[i]? = some o → o.dst ≠ some t) → look e1 t = look e t) ∧ ∀ i o, i ∉ ef → l[i]? = some o → AtOk P w0 n l e1 s o := by
 obtain ⟨c, hc⟩ := h
 obtain ⟨E, C, V, T', he, _⟩ := trail_of c _ _ hc
 rw [skipE_length] at he
 have lk : ∀ t j, j ≤ l.length → _ := fun t j hj => trail_look T' (skip_uniq hB fun _ h => h) t j (by rw [skipE_length]; exact hj)
 have no1 : ∀ t, (∀ i o, i ∉ ef → l[i]? = some o → o.dst ≠ some t) → look e1 t = look e t := by
  intro t ht
  have := (lk t l.length (Nat.le_refl _)).1 fun i o _ hi hd => by
   obtain ⟨a1, a2⟩ := skip_get' hi hd
   exact ht i o a1 a2 hd
  rwa [he] at this
 refine ⟨no1, fun i o hie ho' => ?_⟩
 have hil : i < l.length := (List.getElem?_eq_some_iff.1 ho').1
 obtain ⟨_, t2, t3, t4, t5⟩ := T'.step i o (skip_get hie ho')
 refine ⟨E i, V i, t2, t3, by rw [t4]; exact t5, fun t hm => ?_, fun t hd => ?_⟩
 ·
  by_cases Bf : ∃ i o, i ∉ ef ∧ l[i]? = some o ∧ o.dst = some t
  ·
   obtain ⟨j, p, b1, b2, b3⟩ := Bf
   have hl := ((orderB_spec hB ho').2 j p t b2 b3).2 hm
   have hl' : j < i ∧ ancB (masks l []) i j = true := by simpa [lookOkB, hie, b1] using hl
   rw [(lk t i (Nat.le_of_lt hil)).2 j p hl'.1 (skip_get b1 b2) b3, ← he, (lk t l.length (Nat.le_refl _)).2 j p (by omega) (skip_get b1 b2) b3]
  ·
   rw [no1 t fun i o b1 b2 b3 => Bf ⟨i, o, b1, b2, b3⟩]
   exact (lk t i (Nat.le_of_lt hil)).1 fun j p _ hj hd => by
    obtain ⟨a1, a2⟩ := skip_get' hj hd
    exact Bf ⟨j, p, a1, a2, hd⟩
 ·
  rw [t4, ← he]
  exact (lk t l.length (Nat.le_refl _)).2 i o hil (skip_get hie ho') hd
inductive PreOk (e1 : Env) : Env → Prop where
 | nil : PreOk e1 e1
 | cons {k : Nat} {v : Bool × AV} {r : Env} (h : look e1 k = some v) (h' : PreOk e1 r) : PreOk e1 ((k, v) :: r)
theorem PreOk.look {e1 e' : Env} (h : PreOk e1 e') (t : Nat) : Go.Ev.look e' t = Go.Ev.look e1 t := by
 induction h with
 | nil => rfl
 | @cons k v r h _ ih =>
  show (if k = t then some v else Go.Ev.look r t) = _
  split
  ·
   rename_i q
   rw [← q, h]
  ·
   exact ih
theorem at_late {l : List Oper} {ef el : List Nat} {e1 : Env} {s : St} (hB : orderB l ef = true) (h : ∃ c, evK P w0 n true l (fun e' s' => s' = s ∧ PreOk e1 e') c (skipE (ef ++ el) 0 l) e1 s) (i : Nat) (o : Oper) (hie : i ∉ ef) (hil : i ∉ el) (ho' : l[i]? = some o) : AtOk P w0 n l e1 s o := by
 obtain ⟨c, hc⟩ := h
 obtain ⟨E, C, V, T', _, hp⟩ := trail_of c _ _ hc
 rw [skipE_length] at hp
 have lk : ∀ t j, j ≤ l.length → _ := fun t j hj => trail_look T' (skip_uniq hB fun _ h => List.mem_append_left _ h) t j (by rw [skipE_length]; exact hj)
 have hi : i < l.length := (List.getElem?_eq_some_iff.1 ho').1
 have hie' : i ∉ ef ++ el := fun h => (List.mem_append.1 h).elim hie hil
 have fin : ∀ t, look (E l.length) t = look e1 t := hp.look
 obtain ⟨_, t2, t3, t4, t5⟩ := T'.step i o (skip_get hie' ho')
 refine ⟨E i, V i, t2, t3, by rw [t4]; exact t5, fun t _ => ?_, fun t hd => ?_⟩
 ·
  by_cases Bf : ∃ j p, j < i ∧ (skipE (ef ++ el) 0 l)[j]? = some p ∧ p.dst = some t
  ·
   obtain ⟨j, p, b1, b2, b3⟩ := Bf
   rw [(lk t i (Nat.le_of_lt hi)).2 j p b1 b2 b3, ← fin t, (lk t l.length (Nat.le_refl _)).2 j p (by omega) b2 b3]
  ·
   exact (lk t i (Nat.le_of_lt hi)).1 fun j p hj hq hd => Bf ⟨j, p, hj, hq, hd⟩
 ·
  rw [t4, ← fin t]
  exact (lk t l.length (Nat.le_refl _)).2 i o hi (skip_get hie' ho') hd
theorem any_order {l : List Oper} {ef el : List Nat} {s0 : St} {e e1 : Env} {F : List Nat → St → Prop} {T : Env → St → Prop} {M1 : Mem} {w1 : World} {ds : List Deferred} {ro : Option Nat} {m : Nat} {Q : Exit → Act → World → Prop} (hB : orderB l ef = true) (hel : earlyB l ef el = true)
  (noE1 : ∀ t, (∀ i o, i ∉ ef → l[i]? = some o → o.dst ≠ some t) → look e1 t = look e t)
  (hF : ∀ dn s, F dn s → ∀ i o, i ∉ ef → (∀ j ∈ dn, ancB (masks l []) j i = false) → (i ∈ el → s = s0) → l[i]? = some o → AtOk P w0 n l e1 s o)
  (hT : ∀ ev s M a w, T ev s → Rel w0 n M ev s a w → Ext w0 M1 w1 M w → a.defers = ds → Q .normal a w) :
  ∀ fuel listed a w M k dn ev s, fuel = listed.toList.count false → GoodD P w0 n l ef F T k dn ev s → AInv w0 n l ef s0 e e1 M1 w1 ds dn ev s listed a w M → wpAnyIn (FW ro) m P .any l.toArray Q fuel listed a w := by
 intro fuel
 induction fuel with
 | zero =>
  intro listed a w M k dn ev s hf hg inv
  have hall : ∀ j, j < l.length → listed.getD j false = true := by
   intro j hj
   cases hq : listed.getD j false with
   | true => rfl
   | false =>
    exfalso
    have hj' : j < listed.size := by rw [inv.size]; omega
    have : false ∈ listed.toList := by
     have e1 : listed[j] = false := by simpa [hj'] using hq
     rw [← e1]; simp
    have := List.count_pos_iff.2 this
    omega
  cases k with
  | zero => exact hg.elim
  | succ k =>
  obtain ⟨g1, g2, _⟩ := hg
  have hdn : (ef.all fun i => dn.contains i) = true := by
   refine List.all_eq_true.2 fun i hi => ?_
   have c : i < l.length := by simpa using List.all_eq_true.1 (Bool.and_eq_true_iff.1 hB).1 i hi
   simpa using (inv.eff i hi).1 (hall i c)
  refine ⟨?_, hT ev s M a w (g2 hdn) ⟨inv.rel, inv.tmps, fun t x hx => ?_⟩ inv.ext inv.defers⟩
  ·
   refine List.eq_nil_iff_forall_not_mem.2 fun i hi => ?_
   obtain ⟨hun, o, ho, _⟩ := mem_ready.1 hi
   have ho' : l[i]? = some o := by simpa using ho
   have := hall i (List.getElem?_eq_some_iff.1 ho').1
   obtain ⟨q1, q2⟩ := getD_false hun
   obtain ⟨q3, q4⟩ := getD_true this
   rw [q2] at q4; cases q4
  ·
   by_cases A : ∃ j ∈ dn, ∃ o, l[j]? = some o ∧ o.dst = some t
   ·
    exact inv.done t x A hx
   ·
    have A' : ∀ j ∈ dn, ∀ o, l[j]? = some o → o.dst ≠ some t := fun j hj o ho hd => A ⟨j, hj, o, ho, hd⟩
    rw [inv.evn t A'] at hx
    by_cases Bf : ∃ i o, i ∉ ef ∧ l[i]? = some o ∧ o.dst = some t
    ·
     obtain ⟨i, o, b1, b2, b3⟩ := Bf
     exact inv.new t x A' ⟨i, o, b1, b2, b3, hall i (List.getElem?_eq_some_iff.1 b2).1⟩ hx
    ·
     rw [noE1 t fun i o b1 b2 b3 => Bf ⟨i, o, b1, b2, b3⟩] at hx
     refine inv.old t x (fun i o ho hd => ?_) hx
     by_cases c : i ∈ ef
     ·
      exact absurd hd (A' i ((inv.eff i c).1 (hall i (List.getElem?_eq_some_iff.1 ho).1)) o ho)
     ·
      exact absurd ⟨i, o, c, ho, hd⟩ Bf
 | succ fuel ih =>
  intro listed a w M k dn ev s hf hg inv
  cases k with
  | zero => exact hg.elim
  | succ k =>
  obtain ⟨g1, g2, g3⟩ := hg
  have hsome : ∃ j, j < l.length ∧ listed.getD j false = false ∧ ∀ i, i < j → listed.getD i false = true := by
   refine least_false fun hall => ?_
   have : 0 < listed.toList.count false := by omega
   have hm := List.count_pos_iff.1 this
   obtain ⟨i, hi, he⟩ := List.mem_iff_getElem.1 hm
   have hi' : i < listed.size := by simpa using hi
   have := hall i (by rw [← inv.size]; exact hi')
   simp only [Array.getD_eq_getD_getElem?, Array.getElem?_eq_getElem hi', Option.getD_some] at this
   rw [Array.getElem_toList] at he
   rw [he] at this; cases this
  obtain ⟨k0, hk1, hk2, hk3⟩ := hsome
  have hk' : k0 < listed.size := by rw [inv.size]; omega
  have hkl : l[k0]? = some l[k0] := List.getElem?_eq_getElem hk1
  have hready : k0 ∈ Region.ready .any l.toArray listed :=
   mem_ready.2 ⟨by simpa [hk'] using hk2, l[k0], by simp, fun ed he hb => hk3 _ ((orderB_spec hB hkl).1 ed he hb)⟩
  refine ⟨fun h0 => absurd hready (by rw [h0]; simp), fun i hi => ?_⟩
  obtain ⟨hun, o, ho, haft⟩ := mem_ready.1 hi
  have ho' : l[i]? = some o := by simpa using ho
  have hil : i < l.length := (List.getElem?_eq_some_iff.1 ho').1
  have hi' : i < listed.size := by rw [inv.size]; omega
  have hunl : listed.getD i false = false := by simpa [hi'] using hun
  have hanc : ∀ j, ancB (masks l []) i j = true → listed.getD j false = true := fun j hj => anc_listed hB inv.closed j i o ho' haft hj
  have hcnt : fuel = (listed.setIfInBounds i true).toList.count false := by
   have hiu : listed[i] = false := by simpa [hi'] using hun
   have hpos : 0 < listed.toList.count false := List.count_pos_iff.2 (by rw [← hiu]; simp)
   rw [Array.toList_setIfInBounds, List.count_set (by simpa using hi')]
   simp only [Array.getElem_toList, hiu]
   rw [if_pos (show (false == false) = true from rfl), if_neg (show ¬ (true == false) = true by decide)]
   omega
  have hclosed : ∀ (j : Nat) (oj : Oper), l[j]? = some oj → (listed.setIfInBounds i true).getD j false = true → ∀ ed ∈ oj.after, Region.binds .any ed = true → (listed.setIfInBounds i true).getD ed.on false = true := by
   intro j oj hj hl ed he hb
   rw [getD_set' hi'] at hl ⊢
   split
   ·
    rfl
   ·
    by_cases c : i = j
    ·
     subst c
     rw [ho'] at hj; cases hj
     exact haft ed he hb
    ·
     rw [if_neg c] at hl
     exact inv.closed j oj hj hl ed he hb
  unfold wpOpIn
  simp only [ho]
  by_cases hie : i ∈ ef
  ·
   -- an effect
   have hnd : dn.contains i = false := by
    cases hq : dn.contains i with
    | false => rfl
    | true => have := (inv.eff i hie).2 (by simpa using hq); rw [hunl] at this; cases this
   obtain ⟨o2, q1, q2, q3, Post, q4, q5'⟩ := g3 i hie hnd (by
    refine List.all_eq_true.2 fun j hj => ?_
    cases hq : ancB (masks l []) i j with
    | false => rfl
    | true => simpa using (inv.eff j hj).1 (hanc j hq))
   rw [ho'] at q1; cases q1
   have hrel : Rel w0 n M (view true l o ev) s a w := by
    refine ⟨inv.rel, inv.tmps, fun t x hs => ?_⟩
    simp only [view, if_true] at hs
    have hm := mem_keepL _ _ _ _ hs
    have hx := look_keepL _ _ _ _ hs
    by_cases A : ∃ j ∈ dn, ∃ o, l[j]? = some o ∧ o.dst = some t
    ·
     exact inv.done t x A hx
    ·
     have A' : ∀ j ∈ dn, ∀ o, l[j]? = some o → o.dst ≠ some t := fun j hj o ho hd => A ⟨j, hj, o, ho, hd⟩
     rw [inv.evn t A'] at hx
     by_cases Bf : ∃ i o, i ∉ ef ∧ l[i]? = some o ∧ o.dst = some t
     ·
      obtain ⟨j, p, b1, b2, b3⟩ := Bf
      have hl := ((orderB_spec hB ho').2 j p t b2 b3).2 hm
      have : ancB (masks l []) i j = true := by simpa [lookOkB, hie, b1] using hl
      exact inv.new t x A' ⟨j, p, b1, b2, b3, hanc j this⟩ hx
     ·
      rw [noE1 t fun i o b1 b2 b3 => Bf ⟨i, o, b1, b2, b3⟩] at hx
      refine inv.old t x (fun j p hp hd => ?_) hx
      by_cases c : j ∈ ef
      ·
       cases hq : listed.getD j false with
       | false => rfl
       | true => exact absurd hd (A' j ((inv.eff j c).1 hq) p hp)
      ·
       exact absurd ⟨j, p, c, hp, hd⟩ Bf
   have hw : Region.wanted o (yielded l.toArray a.tmps) = true := by simp [Region.wanted, q2]
   rw [hw, if_pos rfl]
   refine stepP_sound hrel ro m q4 Q _ fun v s' u w' M' hpost hx hst hu => ?_
   have q5 := q5' v s' hpost
   have keep : ∀ t x, o.dst ≠ some t → entryOk w0 M w (a.tmps.getD t undef) x → entryOk w0 M' w' ((a.put o.dst u).tmps.getD t undef) x := by
    intro t x hne h1
    rw [getD_put a o.dst u t (by rw [inv.tmps]; exact q3), if_neg hne]
    exact h1.mono hx
   refine ih _ _ _ M' k (i :: dn) _ s' hcnt q5 ⟨by simp [inv.size], fun q => (by cases q), hclosed, fun j hj => ?_, fun j hj => ?_, hst, by rw [size_put]; exact inv.tmps, by rw [defers_put]; exact inv.defers, inv.ext.trans hx, fun t ht => ?_, fun t x hA hx' => ?_, fun t x hA hN hx' => ?_, fun t x hO hx' => ?_⟩
   ·
    rw [getD_set' hi']
    by_cases c : i = j
    ·
     subst c; simp
    ·
     rw [if_neg c, inv.eff j hj]; simp [Ne.symm c]
   ·
    rcases List.mem_cons.1 hj with rfl | hj
    ·
     exact hie
    ·
     exact inv.sub j hj
   ·
    have hne := ht i (List.mem_cons_self ..) o ho'
    have : look (putE ev o.dst true v) t = look ev t := by
     cases hd : o.dst with
     | none => rfl
     | some d => rw [hd] at hne; simp only [putE, look]; rw [if_neg (fun h => hne (by rw [h]))]
    rw [this]
    exact inv.evn t fun j hj => ht j (List.mem_cons_of_mem _ hj)
   ·
    by_cases c : o.dst = some t
    ·
     rw [c] at hx'
     simp only [putE, look, if_true, Option.some.injEq] at hx'
     subst hx'
     rw [getD_put a o.dst u t (by rw [inv.tmps]; exact q3), if_pos c]
     simpa only [entryOk, if_true] using hu
    ·
     have : look (putE ev o.dst true v) t = look ev t := by
      cases hd : o.dst with
      | none => rfl
      | some d => rw [hd] at c; simp only [putE, look]; rw [if_neg (fun h => c (by rw [h]))]
     rw [this] at hx'
     refine keep t x c (inv.done t x ?_ hx')
     obtain ⟨j, hj, p, hp, hd⟩ := hA
     rcases List.mem_cons.1 hj with rfl | hj
     ·
      rw [ho'] at hp; cases hp; exact absurd hd c
     ·
      exact ⟨j, hj, p, hp, hd⟩
   ·
    have hne := hA i (List.mem_cons_self ..) o ho'
    refine keep t x hne (inv.new t x (fun j hj => hA j (List.mem_cons_of_mem _ hj)) ?_ hx')
    obtain ⟨j, p, b1, b2, b3, b4⟩ := hN
    rw [getD_set' hi'] at b4
    by_cases c : i = j
    ·
     subst c; exact absurd hie b1
    ·
     rw [if_neg c] at b4; exact ⟨j, p, b1, b2, b3, b4⟩
   ·
    have hne : o.dst ≠ some t := fun hd => by
     have := hO i o ho' hd
     rw [getD_set' hi', if_pos rfl] at this; cases this
    refine keep t x hne (inv.old t x (fun j p hp hd => ?_) hx')
    have := hO j p hp hd
    rw [getD_set' hi'] at this
    by_cases c : i = j
    ·
     rw [if_pos c] at this; cases this
    ·
     rwa [if_neg c] at this
  ·
   -- one of the others
   have noDone : ∀ j ∈ dn, ∀ p, l[j]? = some p → ancB (masks l []) j i = true → False := by
    intro j hj p hp hjx
    have hjl := (inv.eff j (inv.sub j hj)).2 hj
    have := anc_listed hB inv.closed i j p hp (inv.closed j p hp hjl) hjx
    rw [hunl] at this; cases this
   obtain ⟨Ei, v, t2, t3, t5, t6, t7⟩ := hF dn s g1 i o hie (fun j hj => by
    have c : j < l.length := by simpa using List.all_eq_true.1 (Bool.and_eq_true_iff.1 hB).1 j (inv.sub j hj)
    cases hq : ancB (masks l []) j i with
    | false => rfl
    | true => exact (noDone j hj _ (List.getElem?_eq_getElem c) hq).elim) (fun hi => by
    cases hdn : dn with
    | nil => exact inv.ini hdn
    | cons j r =>
     have hj : j ∈ dn := by rw [hdn]; exact List.mem_cons_self ..
     have hje := inv.sub j hj
     have c : j < l.length := by simpa using List.all_eq_true.1 (Bool.and_eq_true_iff.1 hB).1 j hje
     exact (noDone j hj _ (List.getElem?_eq_getElem c) (List.all_eq_true.1 (List.all_eq_true.1 hel j hje) i hi)).elim) ho'
   have hrel : Rel w0 n M (view true l o Ei) s a w := by
    refine ⟨inv.rel, inv.tmps, fun t x hs => ?_⟩
    simp only [view, if_true] at hs
    have hm := mem_keepL _ _ _ _ hs
    have hx := look_keepL _ _ _ _ hs
    have A' : ∀ j ∈ dn, ∀ p, l[j]? = some p → p.dst ≠ some t := by
     intro j hj p hp hd
     have hl := ((orderB_spec hB ho').2 j p t hp hd).2 hm
     have hje := inv.sub j hj
     exact noDone j hj p hp (by simpa [lookOkB, hie, hje] using hl)
    rw [t6 t hm] at hx
    by_cases Bf : ∃ i o, i ∉ ef ∧ l[i]? = some o ∧ o.dst = some t
    ·
     obtain ⟨j, p, b1, b2, b3⟩ := Bf
     have hl := ((orderB_spec hB ho').2 j p t b2 b3).2 hm
     have hl' : j < i ∧ ancB (masks l []) i j = true := by simpa [lookOkB, hie, b1] using hl
     exact inv.new t x A' ⟨j, p, b1, b2, b3, hanc j hl'.2⟩ hx
    ·
     rw [noE1 t fun i o b1 b2 b3 => Bf ⟨i, o, b1, b2, b3⟩] at hx
     refine inv.old t x (fun j p hp hd => ?_) hx
     by_cases c : j ∈ ef
     ·
      cases hq : listed.getD j false with
      | false => rfl
      | true => exact absurd hd (A' j ((inv.eff j c).1 hq) p hp)
     ·
      exact absurd ⟨j, p, c, hp, hd⟩ Bf
   refine oneOk_sound hrel ro m t2 t5 Q _ fun u w' M' hx hst hu => ?_
   have keep : ∀ t x, o.dst ≠ some t → entryOk w0 M w (a.tmps.getD t undef) x → entryOk w0 M' w' ((a.put o.dst u).tmps.getD t undef) x := by
    intro t x hne h1
    rw [getD_put a o.dst u t (by rw [inv.tmps]; exact t3), if_neg hne]
    exact h1.mono hx
   have noA : ∀ t, o.dst = some t → ∀ j ∈ dn, ∀ p, l[j]? = some p → p.dst ≠ some t := by
    intro t hd j hj p hp hd'
    have hje := inv.sub j hj
    rcases ((orderB_spec hB ho').2 j p t hp hd').1 hd with h | h
    ·
     subst h; exact hie hje
    ·
     exact noDone j hj p hp (by simpa [sameOkB, hie, hje] using h)
   refine ih _ _ _ M' (k + 1) dn ev s hcnt ⟨g1, g2, g3⟩ ⟨by simp [inv.size], inv.ini, hclosed, fun j hj => ?_, inv.sub, hst, by rw [size_put]; exact inv.tmps, by rw [defers_put]; exact inv.defers, inv.ext.trans hx, inv.evn, fun t x hA hx' => ?_, fun t x hA hN hx' => ?_, fun t x hO hx' => ?_⟩
   ·
    rw [getD_set' hi', if_neg (fun (h : i = j) => hie (h ▸ hj))]
    exact inv.eff j hj
   ·
    refine keep t x (fun hd => ?_) (inv.done t x hA hx')
    obtain ⟨j, hj, p, hp, hd'⟩ := hA
    exact noA t hd j hj p hp hd'
   ·
    by_cases c : o.dst = some t
    ·
     rw [getD_put a o.dst u t (by rw [inv.tmps]; exact t3), if_pos c]
     have e3 := t7 t c
     rw [hx'] at e3
     cases e3
     exact hu
    ·
     refine keep t x c (inv.new t x hA ?_ hx')
     obtain ⟨j, p, b1, b2, b3, b4⟩ := hN
     rw [getD_set' hi'] at b4
     by_cases c' : i = j
     ·
      subst c'; rw [ho'] at b2; cases b2; exact absurd b3 c
     ·
      rw [if_neg c'] at b4; exact ⟨j, p, b1, b2, b3, b4⟩
   ·
    have hne : o.dst ≠ some t := fun hd => by
     have := hO i o ho' hd
     rw [getD_set' hi', if_pos rfl] at this; cases this
    refine keep t x hne (inv.old t x (fun j p hp hd => ?_) hx')
    have := hO j p hp hd
    rw [getD_set' hi'] at this
    by_cases c : i = j
    ·
     rw [if_pos c] at this; cases this
    ·
     rwa [if_neg c] at this
def Conv (w0 : World) (n nb : Nat) (e : Env) (s : St) (e' : Env) (s' : St) : Prop := ∀ M a w, Rel w0 n M e s a w → ∃ M', (∀ Ms ws, Ms.N = nb → Ext w0 Ms ws M w → Ext w0 Ms ws M' w) ∧ Rel w0 n M' e' s' a w
theorem Good.imp {l : List Oper} {ef : List Nat} {F : St → Prop} {T T' : Env → St → Prop} (hT : ∀ ev s, T ev s → T' ev s) : ∀ k dn ev s, Good P w0 n l ef F T k dn ev s → Good P w0 n l ef F T' k dn ev s
 | 0, _, _, _, h => h
 | k + 1, _, _, _, h => ⟨h.1, fun q => hT _ _ (h.2.1 q), fun i a b c => by
  obtain ⟨o, p1, p2, p3, Post, p4, p5⟩ := h.2.2 i a b c
  exact ⟨o, p1, p2, p3, Post, p4, fun v s' q => Good.imp hT k _ _ _ (p5 v s' q)⟩⟩
def readyE (l : List Oper) (ef dn : List Nat) : List Nat := ef.filter fun i => !dn.contains i && ef.all fun j => !ancB (masks l []) i j || dn.contains j
theorem Good.mk {l : List Oper} {ef dn : List Nat} {F : St → Prop} {T : Env → St → Prop} {k : Nat} {ev : Env} {s : St} (rs : List Nat) (hr : readyE l ef dn = rs) (hF : F s) (hT : (ef.all fun i => dn.contains i) = true → T ev s)
  (h : ∀ i ∈ rs, ∃ o, l[i]? = some o ∧ o.guard = none ∧ dstOk n o.dst ∧ ∃ Post : AV → St → Prop, StepP P w0 (view true l o ev) s o Post ∧ ∀ v s', Post v s' → Good P w0 n l ef F T k (i :: dn) (putE ev o.dst true v) s') : Good P w0 n l ef F T (k + 1) dn ev s :=
 ⟨hF, hT, fun i hi hd ha => h i (by rw [← hr]; exact List.mem_filter.2 ⟨hi, by rw [hd, ha]; rfl⟩)⟩
theorem R.agree {M M' : Mem} {w : World} {nb : Nat} (h1 : ∀ l, l < nb → M'.bx l = M.bx l) (hN : nb ≤ M'.N) (h2 : M'.NR = M.NR) (h3 : M'.NL = M.NL) (h4 : M'.top = M.top) (h5 : M'.fr = M.fr) (h6 : M'.blk = M.blk) (h7 : M'.cap = M.cap) (h8 : M'.rsz = M.rsz) (h9 : M'.lb = M.lb) {nr nl : Nat} {v : Value} {x : AV}
  (h : R w0 M w v x) (hu : Under nb nr nl x) : R w0 M' w v x := by
 induction h with
 | flat h => exact .flat h
 | agg hl h1 _ ih => exact .agg hl h1 fun i a b => ih i a b (under_agg.1 hu _ (List.getElem_mem _))
 | tup hl _ ih => exact .tup hl fun i a b => ih i a b (under_tup.1 hu _ (List.getElem_mem _))
 | nil ho => exact .nil ho
 | emp ho => exact .emp ho
 | @list b off cap xs o sz us hc hm hcell _ ho ih =>
  obtain ⟨q1, q2⟩ := under_list.1 hu
  refine .list sz us hc hm (fun i hi => ⟨(hcell i hi).1, fun j hj => ?_⟩) (fun i hi => ih i hi (q1 _ (List.getElem_mem _))) ?_
  ·
   have := (hcell i hi).2 j hj
   exact ⟨by simpa only [Mem.imm, h4] using this.1, this.2⟩
  ·
   cases o with
   | row id => simpa only [ownOk, h2, h5, h6, h7, h8] using ho
   | _ => exact ho
 | elem u k hcell _ ih => exact .elem u k (fun j hj => ⟨by simpa only [Mem.imm, h4] using (hcell j hj).1, (hcell j hj).2⟩) (ih (under_elem.1 hu))
 | @box l off _ => have := under_box.1 hu; rw [← h1 l this]; exact .box (Nat.lt_of_lt_of_le this hN)
 | clo hl _ ih => exact .clo hl fun i a b => ih i a b (under_clo.1 hu _ (List.getElem_mem _))
 | @yld k hk => rw [← h9]; exact .yld (by rw [h3]; exact hk)
 | @mp k hk => rw [← h9]; exact .mp (by rw [h3]; exact hk)
 | tab h hk hn => exact .tab h hk (by rw [h3, h9]; exact hn)
 | @vec id ver o n p cap hi hv h => exact .vec (by rw [h2]; exact hi) (by rw [h5]; exact hv) (by rw [h5, h6, h7, h8]; exact h)
 | @vel id ver off a hi hv h => exact .vel (by rw [h2]; exact hi) (by rw [h5]; exact hv) (by rw [h5, h6]; exact h)
end
def Tg {α : Type} (_ : α) : Prop := True
theorem tg {α : Type} {a : α} : Tg a := trivial
theorem cl {p : Prop} (h : p := by first | (intros; omega) | (intros; simp_all; done) | (intros; simp only [Bool.or_eq_false_iff, Bool.or_eq_true, Bool.and_eq_true, Bool.and_eq_false_iff, decide_eq_true_eq, decide_eq_false_iff_not, bne_iff_ne] at *; omega)) : p := h
theorem pf {p : Prop} (h : p := by first | exact List.prefix_append _ _ | exact List.prefix_refl _ | (rw [List.append_assoc]; exact List.prefix_append _ _)) : p := h
theorem ev {p : Prop} (h : p := by simp +decide only [go_sem, Nat.reduceAdd]) : p := h
theorem ef {p F : Prop} (f : F) (h : F → p := by intro hs; first | rfl | (simp +decide only [go_sem, Nat.reduceAdd, hs]; done)) : p := h f
theorem en {p F : Prop} (f : F) (h : F → p := by intro hs; first | (simp +decide only [go_sem, Nat.reduceAdd, hs]; done) | (simp +decide only [go_sem, Nat.reduceAdd, hs]; rfl)) : p := h f
theorem ow {p : Prop} (h : p := by (simp +decide only [go_sem, Nat.reduceAdd, calmE]) <;> (try (repeat' apply And.intro)) <;> first | omega | assumption) : p := h
section
variable {P : Program} {w0 : World} {n : Nat} {M0 : Mem} {W0 : World} {ro : Option Nat} {e : Env} {st : St} {Q : AQ}
theorem awp_regionC {c : Nat} {L : List Nat} (tc : Tg c) (tL : Tg L) {id : Nat} {l : List Oper} (h : evK P w0 n false l (fun e' st' => Q .normal (keepL L e') st') c l e st) : awp P w0 n M0 W0 ro (.region id l.toArray false) Q e st := awp_region c L h
theorem awp_subL {L : List Nat} (t : Tg L) {c : Code} (h : awp P w0 n M0 W0 ro c Q (keepL L e) st) : awp P w0 n M0 W0 ro c Q e st := awp_sub _ h (sub_keepL _ _)
theorem awp_drawC {h c1 c2 : Nat} {L : List Nat} (tt : Tg (h, c1, c2, L)) (hm : P.follows .mixedOrders = true) {id : Nat} {l : List Oper} (hB : drawB l h = true)
  (hev : evK P w0 n true l (fun e1 s1 => evK P w0 n false l (fun e2 s2 => Q .normal (keepL L e2) s2) c2 (l.drop h) e1 s1) c1 (l.take h) e st) : awp P w0 n M0 W0 ro (.region id l.toArray true) Q e st := awp_draw hm h c1 c2 L hB hev
theorem is_callK {c d : Bool} {fv : AV} {args : List AV} {k : AV → St → Prop} (h : callK P w0 c d fv args st k) : callK P w0 c d fv args st k := h
theorem cnd {β : Type} {F : Prop} {b : Bool} {X Y r : β} (h : (if b = true then X else Y) = r) (f : F) {c : Operand} {x y : Code} (ht : (b = true ∧ F) → X = r → awp P w0 n M0 W0 ro x Q e st) (hf : (b = false ∧ F) → Y = r → awp P w0 n M0 W0 ro y Q e st)
  (hc : argOk e true c := by simp +decide only [go_sem, Nat.reduceAdd]) (hb : F → argV e c = .val (.bool b) := by intro hs; first | (simp +decide only [go_sem, Nat.reduceAdd, hs]; done) | (simp +decide only [go_sem, Nat.reduceAdd, hs]; rfl)) : awp P w0 n M0 W0 ro (.cond c x y) Q e st :=
 awp_cond b hc (hb f) (fun q => ht ⟨q, f⟩ (ite_tt h q)) (fun q => hf ⟨q, f⟩ (ite_ff h q))
theorem td {B0 B bs X : List (List AV)} {Rw rows : List RowA} {L : List LoopA} {l : List (Nat × Nat × Own)} {c : Code} (hN : M0.N = B0.length) (hNR : M0.NR = Rw.length) (hNL : M0.NL = L.length) (hc : Calm B0.length Rw.length L.length ⟨B, Rw, L⟩) (ho : Owns Rw rows l)
  (h : awp P w0 n M0 W0 ro c Q e ⟨B ++ bs, rows, L⟩) (hB : B.length = B0.length := by first | rfl | simp only [List.length_set])
  (hbs : ∀ cs ∈ bs, ∀ x ∈ cs, Under (B0.length + bs.length) rows.length L.length x := by (simp +decide only [go_sem, Nat.reduceAdd]) <;> (try (repeat' apply And.intro)) <;> first | omega | assumption)
  (he : calmE (B0.length + bs.length) rows.length L.length e := by (simp +decide only [go_sem, Nat.reduceAdd, calmE]) <;> (try (repeat' apply And.intro)) <;> first | omega | assumption) : awp P w0 n M0 W0 ro c Q e ⟨B ++ (bs ++ X), rows, L⟩ :=
 awp_tidy hN hNR hNL hB hc ho hbs he h
end
section
variable {P : Program} {w0 : World} {n : Nat} {M0 : Mem} {W0 : World} {ro : Option Nat} {e : Env} {st : St} {Q : AQ}
theorem awp_glob (g : Nat) (x : AV) (hn : n ≤ 1000000) {c : Code} (h : awp P w0 n M0 W0 ro c Q ((2000000 + g, false, x) :: e) st) : awp P w0 n M0 W0 ro c Q e st :=
 awp_conv _ _ (fun M a w hr => ⟨M, .refl _ _ _, hr.st, hr.size, fun s y hs => by
  simp only [look] at hs
  by_cases q : 2000000 + g = s
  ·
   rw [if_pos q] at hs
   cases hs
   have h1 : 1000000 ≤ s := by rw [← q]; omega
   simp only [entryOk, Bool.false_eq_true, if_false]
   rw [Array.getD_eq_getD_getElem?, Array.getElem?_eq_none (by rw [hr.size]; omega)]
   rfl
  ·
   rw [if_neg q] at hs
   exact hr.env s y hs⟩) h
theorem awp_mark (t : TypeId) (hn : n ≤ 1000000) {c : Code} (h : awp P w0 n M0 W0 ro c Q ((1000000 + t, false, .junk) :: e) st) : awp P w0 n M0 W0 ro c Q e st :=
 awp_conv _ _ (fun M a w hr => ⟨M, .refl _ _ _, hr.st, hr.size, fun s x hs => by
  simp only [look] at hs
  by_cases q : 1000000 + t = s
  ·
   rw [if_pos q] at hs
   cases hs
   have h1 : 1000000 ≤ s := by rw [← q]; exact Nat.le_add_right _ _
   simp only [entryOk, Bool.false_eq_true, if_false]
   rw [Array.getD_eq_getD_getElem?, Array.getElem?_eq_none (by rw [hr.size]; omega)]
   rfl
  ·
   rw [if_neg q] at hs
   exact hr.env s x hs⟩) h
end
theorem rg {F p q : Prop} (L : List Nat) (f : F) (k : q) (h : Tg L → F → q → p := by
  intro tL hs hq
  apply awp_seq; intro K hK
  refine awp_regionC (c := 1) tg tL ?_
  rw [evK_succ]; simp +decide only [go_sem, Nat.reduceAdd, hs]
  first | (refine hK _ _ ?_; exact hq) | ((repeat' apply And.intro) <;> first | (refine hK _ _ ?_; exact hq) | (clear hq; exact cl))) : p := h tg f k
theorem rc {F p q : Prop} (c : Nat) (L : List Nat) (f : F) (k : q) (h : Tg c → Tg L → F → q → p := by
  intro tc tL hs hq
  apply awp_seq; intro K hK
  refine awp_regionC tc tL ?_
  rw [evK_succ]; simp +decide only [go_sem, Nat.reduceAdd, hs]
  first | (refine is_callK ?_; revert K; exact hq) | ((repeat' apply And.intro) <;> first | (refine is_callK ?_; revert K; exact hq) | (clear hq; exact cl))) : p := h tg tg f k
theorem nc {F p q : Prop} (f : F) (k : q) (h : F → q → p := by
  intro hs hq
  rw [evK_succ]; simp +decide only [go_sem, Nat.reduceAdd, hs]
  first | (refine is_callK ?_; exact hq) | ((repeat' apply And.intro) <;> first | (refine is_callK ?_; exact hq) | (clear hq; exact cl))) : p := h f k
theorem ne {F p q : Prop} (f : F) {K : Env → St → Prop} {A : Env → St → Prop} (hK : ∀ e s, A e s → K e s) (k : q) (h : F → (∀ e s, A e s → K e s) → q → p := by
  intro hs hK hq
  rw [evK_succ]; simp +decide only [go_sem, Nat.reduceAdd, hs]
  first | (refine hK _ _ ?_; exact hq) | ((repeat' apply And.intro) <;> first | (refine hK _ _ ?_; exact hq) | (clear hq; exact cl))) : p := h f hK k
theorem sk {F p q : Prop} (L : List Nat) (f : F) {A K : Env → St → Prop} (hK : ∀ e s, A e s → K e s) (k : q) (h : Tg L → F → (∀ e s, A e s → K e s) → q → p := by
  intro tL hs hK hq
  refine awp_subL tL ?_
  apply awp_skip; simp +decide only [go_sem, Nat.reduceAdd]
  first | (refine hK _ _ ?_; exact hq) | ((repeat' apply And.intro) <;> first | (refine hK _ _ ?_; exact hq) | (clear hq; exact cl))) : p := h tg f hK k
theorem sx {F p q : Prop} (L : List Nat) (f : F) {A K : Env → St → Prop} (hK : ∀ e s, A e s → K e s) (k : q) (h : Tg L → F → (∀ e s, A e s → K e s) → q → p := by
  intro tL hs hK hq
  refine awp_subL tL ?_
  apply awp_exit; simp +decide only [go_sem, Nat.reduceAdd]
  first | (refine hK _ _ ?_; exact hq) | ((repeat' apply And.intro) <;> first | (refine hK _ _ ?_; exact hq) | (clear hq; exact cl))) : p := h tg f hK k
theorem rl {F p q : Prop} (L : List Nat) (f : F) {A K : Env → St → Prop} (hK : ∀ e s, A e s → K e s) (k : q) (h : Tg L → F → (∀ e s, A e s → K e s) → q → p := by
  intro tL hs hK hq
  refine awp_regionC (c := 1) tg tL ?_
  rw [evK_succ]; simp +decide only [go_sem, Nat.reduceAdd, hs]
  first | (refine hK _ _ ?_; exact hq) | ((repeat' apply And.intro) <;> first | (refine hK _ _ ?_; exact hq) | (clear hq; exact cl))) : p := h tg f hK k
theorem hd {P : Program} {w0 : World} {f : FuncId} {fn : Func} {c : Code} {n : Nat} {args : List AV} {B : List (List AV)} {Rw : List RowA} {L : List LoopA} {Post : AV → St → Prop} (rs : List ResultVar) (hf : P.funcs[f]? = some fn) (hn : fn.ntmps = n)
  (k : ∀ (M0 : Mem) (W0 : World), M0.N = B.length → M0.NR = Rw.length → M0.NL = L.length → Calm B.length Rw.length L.length ⟨B, Rw, L⟩ → (∀ x ∈ args, Under B.length Rw.length L.length x) → Owns Rw Rw [] → (0 : Nat) = 0 →
   awp P w0 n M0 W0 none c (bodyA P rs (finP ⟨B, Rw, L⟩ Post)) (argsE 0 args) ⟨B, Rw, L⟩)
  (hb : fn.body = some c := by rfl) (hrs : fn.results = rs.toArray := by rfl) (hm : fn.name ≠ "runtime.NumGoroutine" := by decide) (ha : args.length ≤ n := by exact Nat.le_of_ble_eq_true rfl) : ACalls P w0 f args ⟨B, Rw, L⟩ Post :=
 ACalls.finP (acalls_of (rs := rs) hf hb hrs hn (enters_some hf (by rw [hb]; rfl) hm) ha fun M0 W0 h1 h2 h3 h4 h5 => k M0 W0 h1 h2 h3 h4 h5 (Owns.none Rw) rfl)
theorem ix {α β : Type} {l : List α} {i : Int} {F : α → Option β} {r : β} (g : α → AV) (h : (idx l i).bind F = some r) : ∃ x, 0 ≤ i ∧ i < l.length ∧ (l.map g).getD i.toNat .junk = g x ∧ F x = some r := by
 obtain ⟨x, hx, h⟩ := bind_some h
 obtain ⟨a, b, c⟩ := idx_some hx
 exact ⟨x, a, b, getD_map c, h⟩
abbrev Ck (e : Env) (st : St) (B : List (List AV)) (Rw : List RowA) (L : List LoopA) (e0 : Env) (bs : List (List AV)) (ow : List (Nat × Nat × Own)) (c : Prop) : Prop :=
 ∃ (X : List (List AV)) (rows : List RowA), e = e0 ∧ st = ⟨B ++ (bs ++ X), rows, L⟩ ∧ Owns Rw rows ow ∧ c
end Go.Ev
namespace Go.Proofs
open Go.Shelf
def Tryz.lays106_ren : Go.Shelf.Ren := ⟨fun | 106 => 95 | 213 => 151 | 265 => 193 | n => n, fun | 9 => 9 | 3 => 3 | n => n, fun | n => n⟩
theorem Tryz.lays106 : Go.Proofs.Lays.n106 Tryz.prog Tryz.lays106_ren := {
 mixed := by kernel_rfl
 f106 := Tryz.func95.trans (congrArg some (by kernel_rfl))
 f213 := Tryz.func151.trans (congrArg some (by kernel_rfl))
 f265 := Tryz.func193.trans (congrArg some (by kernel_rfl))
 t3 := Tryz.underlying3
 a3 := Tryz.isAgg3
 z3 := Tryz.sizeOf3
 v3 := Tryz.zeroValue3
 t9 := Tryz.underlying9
 a9 := Tryz.isAgg9
 z9 := Tryz.sizeOf9
 v9 := Tryz.zeroValue9 }
open Go.RowKit in
theorem Tryz.strings_Compare (a b : ByteArray) (w : World) :
  Calls Tryz.prog 95 #[.string a, .string b] w fun e w' => e = .returned (.int .i64 (Lib.compareBytes a.data.toList b.data.toList)) ∧ w' = w := Any.strings_Compare Tryz.lays106 a b w
def Tryz.laysM171_ren : Go.Shelf.Ren := ⟨fun | 171 => 53 | 243 => 99 | 246 => 152 | 283 => 194 | 284 => 195 | 285 => 196 | 286 => 197 | 129 => 207 | 317 => 240 | 318 => 241 | 319 => 242 | 320 => 243 | 337 => 284 | 338 => 285 | n => n, fun | 3 => 3 | 9 => 9 | 2 => 2 | 4 => 4 | 171 => 281 | 0 => 0 | 53 => 282 | 37 => 192 | 5 => 5 | 173 => 285 | 212 => 331 | 51 => 295 | 20 => 20 | 213 => 332 | 46 => 236 | 232 => 406 | 233 => 407 | n => n, fun | 17 => 3 | 18 => 6 | 19 => 7 | n => n⟩
theorem Tryz.laysM171 : Go.Proofs.LaysM.n171 Tryz.prog Tryz.laysM171_ren := {
 mixed := by kernel_rfl
 f129 := Tryz.func207.trans (congrArg some (by kernel_rfl))
 f171 := Tryz.func53.trans (congrArg some (by kernel_rfl))
 f243 := Tryz.func99.trans (congrArg some (by kernel_rfl))
 f246 := Tryz.func152.trans (congrArg some (by kernel_rfl))
 f283 := Tryz.func194.trans (congrArg some (by kernel_rfl))
 f284 := Tryz.func195.trans (congrArg some (by kernel_rfl))
 f285 := Tryz.func196.trans (congrArg some (by kernel_rfl))
 f286 := Tryz.func197.trans (congrArg some (by kernel_rfl))
 f317 := Tryz.func240.trans (congrArg some (by kernel_rfl))
 f318 := Tryz.func241.trans (congrArg some (by kernel_rfl))
 f319 := Tryz.func242.trans (congrArg some (by kernel_rfl))
 f320 := Tryz.func243.trans (congrArg some (by kernel_rfl))
 f337 := Tryz.func284.trans (congrArg some (by kernel_rfl))
 f338 := Tryz.func285.trans (congrArg some (by kernel_rfl))
 t0 := Tryz.underlying0
 a0 := Tryz.isAgg0
 z0 := Tryz.sizeOf0
 v0 := Tryz.zeroValue0
 t2 := Tryz.underlying2
 a2 := Tryz.isAgg2
 z2 := Tryz.sizeOf2
 v2 := Tryz.zeroValue2
 t3 := Tryz.underlying3
 a3 := Tryz.isAgg3
 z3 := Tryz.sizeOf3
 v3 := Tryz.zeroValue3
 t4 := Tryz.underlying4
 a4 := Tryz.isAgg4
 z4 := Tryz.sizeOf4
 v4 := Tryz.zeroValue4
 t5 := Tryz.underlying5
 a5 := Tryz.isAgg5
 z5 := Tryz.sizeOf5
 v5 := Tryz.zeroValue5
 t9 := Tryz.underlying9
 a9 := Tryz.isAgg9
 z9 := Tryz.sizeOf9
 v9 := Tryz.zeroValue9
 t20 := Tryz.underlying20
 a20 := Tryz.isAgg20
 z20 := Tryz.sizeOf20
 v20 := Tryz.zeroValue20
 t37 := Tryz.underlying192
 a37 := Tryz.isAgg192
 z37 := Tryz.sizeOf192
 v37 := Tryz.zeroValue192
 t46 := Tryz.underlying236
 a46 := Tryz.isAgg236
 z46 := Tryz.sizeOf236
 v46 := Tryz.zeroValue236
 t51 := Tryz.underlying295
 a51 := Tryz.isAgg295
 z51 := Tryz.sizeOf295
 v51 := Tryz.zeroValue295
 t53 := Tryz.underlying282
 a53 := Tryz.isAgg282
 z53 := Tryz.sizeOf282
 v53 := Tryz.zeroValue282
 t171 := Tryz.underlying281
 a171 := Tryz.isAgg281
 z171 := Tryz.sizeOf281
 v171 := Tryz.zeroValue281
 t173 := Tryz.underlying285
 a173 := Tryz.isAgg285
 z173 := Tryz.sizeOf285
 v173 := Tryz.zeroValue285
 t212 := Tryz.underlying331
 a212 := Tryz.isAgg331
 z212 := Tryz.sizeOf331
 v212 := Tryz.zeroValue331
 t213 := Tryz.underlying332
 a213 := Tryz.isAgg332
 z213 := Tryz.sizeOf332
 t232 := Tryz.underlying406
 a232 := Tryz.isAgg406
 z232 := Tryz.sizeOf406
 v232 := Tryz.zeroValue406
 t233 := Tryz.underlying407
 a233 := Tryz.isAgg407
 z233 := Tryz.sizeOf407
 v233 := Tryz.zeroValue407
 g17 := by kernel_rfl
 g18 := by kernel_rfl
 g19 := by kernel_rfl
 i0 := by kernel_rfl
 i2 := by kernel_rfl
 i3 := by kernel_rfl
 i4 := by kernel_rfl
 i5 := by kernel_rfl
 i9 := by kernel_rfl
 i20 := by kernel_rfl
 i37 := by kernel_rfl
 i46 := by kernel_rfl
 i51 := by kernel_rfl
 i53 := by kernel_rfl
 i171 := by kernel_rfl
 i173 := by kernel_rfl
 i212 := by kernel_rfl
 i232 := by kernel_rfl
 i233 := by kernel_rfl
 m17 := by kernel_rfl
 m18 := by kernel_rfl
 m19 := by kernel_rfl }
def Tryz.laysValid_ren : Go.Shelf.Ren := ⟨fun | 196 => 127 | 259 => 178 | n => n, fun | 9 => 9 | 4 => 4 | 3 => 3 | 5 => 5 | 12 => 12 | 119 => 263 | 0 => 0 | 46 => 236 | 139 => 266 | 138 => 265 | 53 => 282 | n => n, fun | 3 => 0 | 4 => 1 | n => n⟩
theorem Tryz.laysValid : Go.Proofs.Lays.n196 Tryz.prog Tryz.laysValid_ren := {
 mixed := by kernel_rfl
 f196 := Tryz.func127.trans (congrArg some (by kernel_rfl))
 f259 := Tryz.func178.trans (congrArg some (by kernel_rfl))
 t0 := Tryz.underlying0
 a0 := Tryz.isAgg0
 z0 := Tryz.sizeOf0
 v0 := Tryz.zeroValue0
 t3 := Tryz.underlying3
 a3 := Tryz.isAgg3
 z3 := Tryz.sizeOf3
 v3 := Tryz.zeroValue3
 t4 := Tryz.underlying4
 a4 := Tryz.isAgg4
 z4 := Tryz.sizeOf4
 v4 := Tryz.zeroValue4
 t5 := Tryz.underlying5
 a5 := Tryz.isAgg5
 z5 := Tryz.sizeOf5
 v5 := Tryz.zeroValue5
 t9 := Tryz.underlying9
 a9 := Tryz.isAgg9
 z9 := Tryz.sizeOf9
 v9 := Tryz.zeroValue9
 t12 := Tryz.underlying12
 a12 := Tryz.isAgg12
 z12 := Tryz.sizeOf12
 v12 := Tryz.zeroValue12
 t46 := Tryz.underlying236
 a46 := Tryz.isAgg236
 z46 := Tryz.sizeOf236
 v46 := Tryz.zeroValue236
 t53 := Tryz.underlying282
 a53 := Tryz.isAgg282
 z53 := Tryz.sizeOf282
 v53 := Tryz.zeroValue282
 t119 := Tryz.underlying263
 a119 := Tryz.isAgg263
 z119 := Tryz.sizeOf263
 t138 := Tryz.underlying265
 a138 := Tryz.isAgg265
 z138 := Tryz.sizeOf265
 v138 := Tryz.zeroValue265
 t139 := Tryz.underlying266
 a139 := Tryz.isAgg266
 z139 := Tryz.sizeOf266
 v139 := Tryz.zeroValue266
 g3 := by kernel_rfl
 g4 := by kernel_rfl }
end Go.Proofs
namespace Go.Proofs.YtkpooohjodojoaaGreatDoor
open Go Go.RowKit Go.Ev
@[go_sem] theorem arrT_100 : arrT Tryz.prog 100 = none := by kernel_rfl
@[go_sem] theorem arrT_107 : arrT Tryz.prog 107 = none := by kernel_rfl
@[go_sem] theorem arrT_116 : arrT Tryz.prog 116 = none := by kernel_rfl
@[go_sem] theorem arrT_118 : arrT Tryz.prog 118 = none := by kernel_rfl
@[go_sem] theorem arrT_120 : arrT Tryz.prog 120 = none := by kernel_rfl
@[go_sem] theorem arrT_121 : arrT Tryz.prog 121 = none := by kernel_rfl
@[go_sem] theorem arrT_122 : arrT Tryz.prog 122 = none := by kernel_rfl
@[go_sem] theorem arrT_124 : arrT Tryz.prog 124 = none := by kernel_rfl
@[go_sem] theorem arrT_129 : arrT Tryz.prog 129 = none := by kernel_rfl
@[go_sem] theorem arrT_131 : arrT Tryz.prog 131 = none := by kernel_rfl
@[go_sem] theorem arrT_165 : arrT Tryz.prog 165 = some (11, 1, false) := by kernel_rfl
@[go_sem] theorem arrT_176 : arrT Tryz.prog 176 = none := by kernel_rfl
@[go_sem] theorem arrT_182 : arrT Tryz.prog 182 = none := by kernel_rfl
@[go_sem] theorem arrT_192 : arrT Tryz.prog 192 = none := by kernel_rfl
@[go_sem] theorem arrT_203 : arrT Tryz.prog 203 = none := by kernel_rfl
@[go_sem] theorem arrT_204 : arrT Tryz.prog 204 = some (11, 8, true) := by kernel_rfl
@[go_sem] theorem arrT_22 : arrT Tryz.prog 22 = none := by kernel_rfl
@[go_sem] theorem arrT_23 : arrT Tryz.prog 23 = none := by kernel_rfl
@[go_sem] theorem arrT_25 : arrT Tryz.prog 25 = none := by kernel_rfl
@[go_sem] theorem arrT_26 : arrT Tryz.prog 26 = none := by kernel_rfl
@[go_sem] theorem arrT_261 : arrT Tryz.prog 261 = none := by kernel_rfl
@[go_sem] theorem arrT_269 : arrT Tryz.prog 269 = none := by kernel_rfl
@[go_sem] theorem arrT_27 : arrT Tryz.prog 27 = none := by kernel_rfl
@[go_sem] theorem arrT_271 : arrT Tryz.prog 271 = none := by kernel_rfl
@[go_sem] theorem arrT_28 : arrT Tryz.prog 28 = none := by kernel_rfl
@[go_sem] theorem arrT_30 : arrT Tryz.prog 30 = none := by kernel_rfl
@[go_sem] theorem arrT_312 : arrT Tryz.prog 312 = none := by kernel_rfl
@[go_sem] theorem arrT_32 : arrT Tryz.prog 32 = none := by kernel_rfl
@[go_sem] theorem arrT_33 : arrT Tryz.prog 33 = none := by kernel_rfl
@[go_sem] theorem arrT_35 : arrT Tryz.prog 35 = none := by kernel_rfl
@[go_sem] theorem arrT_363 : arrT Tryz.prog 363 = none := by kernel_rfl
@[go_sem] theorem arrT_365 : arrT Tryz.prog 365 = none := by kernel_rfl
@[go_sem] theorem arrT_37 : arrT Tryz.prog 37 = none := by kernel_rfl
@[go_sem] theorem arrT_386 : arrT Tryz.prog 386 = none := by kernel_rfl
@[go_sem] theorem arrT_390 : arrT Tryz.prog 390 = none := by kernel_rfl
@[go_sem] theorem arrT_442 : arrT Tryz.prog 442 = some (13, 1, false) := by kernel_rfl
@[go_sem] theorem arrT_452 : arrT Tryz.prog 452 = some (12, 1, false) := by kernel_rfl
@[go_sem] theorem arrT_50 : arrT Tryz.prog 50 = none := by kernel_rfl
@[go_sem] theorem arrT_52 : arrT Tryz.prog 52 = none := by kernel_rfl
@[go_sem] theorem arrT_54 : arrT Tryz.prog 54 = none := by kernel_rfl
@[go_sem] theorem arrT_56 : arrT Tryz.prog 56 = none := by kernel_rfl
@[go_sem] theorem arrT_58 : arrT Tryz.prog 58 = none := by kernel_rfl
@[go_sem] theorem arrT_60 : arrT Tryz.prog 60 = none := by kernel_rfl
@[go_sem] theorem arrT_71 : arrT Tryz.prog 71 = none := by kernel_rfl
@[go_sem] theorem arrT_76 : arrT Tryz.prog 76 = none := by kernel_rfl
@[go_sem] theorem arrT_79 : arrT Tryz.prog 79 = none := by kernel_rfl
@[go_sem] theorem arrT_81 : arrT Tryz.prog 81 = none := by kernel_rfl
@[go_sem] theorem arrT_82 : arrT Tryz.prog 82 = none := by kernel_rfl
@[go_sem] theorem arrT_87 : arrT Tryz.prog 87 = none := by kernel_rfl
@[go_sem] theorem arrT_9 : arrT Tryz.prog 9 = none := by kernel_rfl
@[go_sem] theorem boolT_4 : boolT Tryz.prog 4 = true := by kernel_rfl
@[go_sem] theorem bytesT_192 : bytesT Tryz.prog 192 = true := by kernel_rfl
@[go_sem] theorem bytesT_21 : bytesT Tryz.prog 21 = false := by kernel_rfl
@[go_sem] theorem bytesT_236 : bytesT Tryz.prog 236 = false := by kernel_rfl
@[go_sem] theorem bytesT_3 : bytesT Tryz.prog 3 = false := by kernel_rfl
@[go_sem] theorem bytesT_5 : bytesT Tryz.prog 5 = false := by kernel_rfl
@[go_sem] theorem bytesT_9 : bytesT Tryz.prog 9 = false := by kernel_rfl
@[go_sem] theorem elT_114 : elT Tryz.prog 114 = some (176, 2, true, 40) := by kernel_rfl
@[go_sem] theorem elT_118 : elT Tryz.prog 118 = some (226, 10, true, 152) := by kernel_rfl
@[go_sem] theorem elT_121 : elT Tryz.prog 121 = some (135, 11, true, 160) := by kernel_rfl
@[go_sem] theorem elT_122 : elT Tryz.prog 122 = some (100, 11, true, 152) := by kernel_rfl
@[go_sem] theorem elT_124 : elT Tryz.prog 124 = some (129, 10, true, 152) := by kernel_rfl
@[go_sem] theorem elT_165 : elT Tryz.prog 165 = none := by kernel_rfl
@[go_sem] theorem elT_192 : elT Tryz.prog 192 = some (5, 1, false, 1) := by kernel_rfl
@[go_sem] theorem elT_204 : elT Tryz.prog 204 = none := by kernel_rfl
@[go_sem] theorem elT_22 : elT Tryz.prog 22 = some (35, 5, true, 80) := by kernel_rfl
@[go_sem] theorem elT_23 : elT Tryz.prog 23 = some (37, 6, true, 96) := by kernel_rfl
@[go_sem] theorem elT_26 : elT Tryz.prog 26 = some (9, 1, false, 16) := by kernel_rfl
@[go_sem] theorem elT_261 : elT Tryz.prog 261 = some (41, 1, false, 8) := by kernel_rfl
@[go_sem] theorem elT_269 : elT Tryz.prog 269 = some (58, 2, true, 32) := by kernel_rfl
@[go_sem] theorem elT_27 : elT Tryz.prog 27 = some (30, 7, true, 104) := by kernel_rfl
@[go_sem] theorem elT_28 : elT Tryz.prog 28 = some (71, 11, true, 160) := by kernel_rfl
@[go_sem] theorem elT_33 : elT Tryz.prog 33 = some (52, 6, true, 88) := by kernel_rfl
@[go_sem] theorem elT_365 : elT Tryz.prog 365 = some (320, 1, false, 8) := by kernel_rfl
@[go_sem] theorem elT_390 : elT Tryz.prog 390 = some (386, 2, true, 16) := by kernel_rfl
@[go_sem] theorem elT_442 : elT Tryz.prog 442 = none := by kernel_rfl
@[go_sem] theorem elT_452 : elT Tryz.prog 452 = none := by kernel_rfl
@[go_sem] theorem elT_50 : elT Tryz.prog 50 = some (107, 7, true, 104) := by kernel_rfl
@[go_sem] theorem elT_56 : elT Tryz.prog 56 = some (3, 1, false, 8) := by kernel_rfl
@[go_sem] theorem elT_76 : elT Tryz.prog 76 = some (105, 9, true, 120) := by kernel_rfl
@[go_sem] theorem elT_81 : elT Tryz.prog 81 = some (82, 1, false, 24) := by kernel_rfl
@[go_sem] theorem elT_82 : elT Tryz.prog 82 = some (87, 3, true, 32) := by kernel_rfl
@[go_sem] theorem elT_9 : elT Tryz.prog 9 = none := by kernel_rfl
@[go_sem] theorem evAgg_87_neq (xs ys : List AV) : evAgg Tryz.prog .neq 87 xs ys = (obK [(some .i64, false), (some .i64, false), (none, true)] xs ys, !eqAll xs ys) := evAgg_neq (by kernel_rfl) xs ys
@[go_sem] theorem fldT_100_1 : fldT Tryz.prog 100 1 = some (2, 1, false) := by kernel_rfl
@[go_sem] theorem fldT_100_2 : fldT Tryz.prog 100 2 = some (3, 1, false) := by kernel_rfl
@[go_sem] theorem fldT_100_3 : fldT Tryz.prog 100 3 = some (4, 1, false) := by kernel_rfl
@[go_sem] theorem fldT_105_2 : fldT Tryz.prog 105 2 = some (2, 1, false) := by kernel_rfl
@[go_sem] theorem fldT_107_0 : fldT Tryz.prog 107 0 = some (0, 1, false) := by kernel_rfl
@[go_sem] theorem fldT_107_1 : fldT Tryz.prog 107 1 = some (1, 6, true) := by kernel_rfl
@[go_sem] theorem fldT_116_11 : fldT Tryz.prog 116 11 = some (17, 1, true) := by kernel_rfl
@[go_sem] theorem fldT_116_12 : fldT Tryz.prog 116 12 = some (18, 1, false) := by kernel_rfl
@[go_sem] theorem fldT_116_8 : fldT Tryz.prog 116 8 = some (8, 7, true) := by kernel_rfl
@[go_sem] theorem fldT_116_9 : fldT Tryz.prog 116 9 = some (15, 1, false) := by kernel_rfl
@[go_sem] theorem fldT_120_2 : fldT Tryz.prog 120 2 = some (2, 1, false) := by kernel_rfl
@[go_sem] theorem fldT_126_0 : fldT Tryz.prog 126 0 = some (0, 3, true) := by kernel_rfl
@[go_sem] theorem fldT_126_1 : fldT Tryz.prog 126 1 = some (3, 1, false) := by kernel_rfl
@[go_sem] theorem fldT_126_2 : fldT Tryz.prog 126 2 = some (4, 1, false) := by kernel_rfl
@[go_sem] theorem fldT_129_0 : fldT Tryz.prog 129 0 = some (0, 2, true) := by kernel_rfl
@[go_sem] theorem fldT_129_1 : fldT Tryz.prog 129 1 = some (2, 1, false) := by kernel_rfl
@[go_sem] theorem fldT_129_2 : fldT Tryz.prog 129 2 = some (3, 1, false) := by kernel_rfl
@[go_sem] theorem fldT_129_3 : fldT Tryz.prog 129 3 = some (4, 6, true) := by kernel_rfl
@[go_sem] theorem fldT_131_0 : fldT Tryz.prog 131 0 = some (0, 1, false) := by kernel_rfl
@[go_sem] theorem fldT_131_1 : fldT Tryz.prog 131 1 = some (1, 1, false) := by kernel_rfl
@[go_sem] theorem fldT_131_2 : fldT Tryz.prog 131 2 = some (2, 2, true) := by kernel_rfl
@[go_sem] theorem fldT_131_3 : fldT Tryz.prog 131 3 = some (4, 10, true) := by kernel_rfl
@[go_sem] theorem fldT_135_1 : fldT Tryz.prog 135 1 = some (1, 10, true) := by kernel_rfl
@[go_sem] theorem fldT_182_2 : fldT Tryz.prog 182 2 = some (21, 2, true) := by kernel_rfl
@[go_sem] theorem fldT_182_4 : fldT Tryz.prog 182 4 = some (24, 7, true) := by kernel_rfl
@[go_sem] theorem fldT_203_1 : fldT Tryz.prog 203 1 = some (1, 1, false) := by kernel_rfl
@[go_sem] theorem fldT_203_2 : fldT Tryz.prog 203 2 = some (2, 1, false) := by kernel_rfl
@[go_sem] theorem fldT_203_3 : fldT Tryz.prog 203 3 = some (3, 1, false) := by kernel_rfl
@[go_sem] theorem fldT_203_4 : fldT Tryz.prog 203 4 = some (4, 1, false) := by kernel_rfl
@[go_sem] theorem fldT_203_5 : fldT Tryz.prog 203 5 = some (5, 1, false) := by kernel_rfl
@[go_sem] theorem fldT_203_6 : fldT Tryz.prog 203 6 = some (6, 1, false) := by kernel_rfl
@[go_sem] theorem fldT_203_7 : fldT Tryz.prog 203 7 = some (7, 1, false) := by kernel_rfl
@[go_sem] theorem fldT_226_0 : fldT Tryz.prog 226 0 = some (0, 6, true) := by kernel_rfl
@[go_sem] theorem fldT_226_2 : fldT Tryz.prog 226 2 = some (7, 1, false) := by kernel_rfl
@[go_sem] theorem fldT_226_3 : fldT Tryz.prog 226 3 = some (8, 1, false) := by kernel_rfl
@[go_sem] theorem fldT_226_4 : fldT Tryz.prog 226 4 = some (9, 1, false) := by kernel_rfl
@[go_sem] theorem fldT_25_0 : fldT Tryz.prog 25 0 = some (0, 1, false) := by kernel_rfl
@[go_sem] theorem fldT_271_3 : fldT Tryz.prog 271 3 = some (4, 1, false) := by kernel_rfl
@[go_sem] theorem fldT_271_4 : fldT Tryz.prog 271 4 = some (5, 1, false) := by kernel_rfl
@[go_sem] theorem fldT_30_0 : fldT Tryz.prog 30 0 = some (0, 1, false) := by kernel_rfl
@[go_sem] theorem fldT_30_1 : fldT Tryz.prog 30 1 = some (1, 1, false) := by kernel_rfl
@[go_sem] theorem fldT_30_2 : fldT Tryz.prog 30 2 = some (2, 1, false) := by kernel_rfl
@[go_sem] theorem fldT_30_3 : fldT Tryz.prog 30 3 = some (3, 1, false) := by kernel_rfl
@[go_sem] theorem fldT_30_4 : fldT Tryz.prog 30 4 = some (4, 1, false) := by kernel_rfl
@[go_sem] theorem fldT_30_5 : fldT Tryz.prog 30 5 = some (5, 1, false) := by kernel_rfl
@[go_sem] theorem fldT_30_6 : fldT Tryz.prog 30 6 = some (6, 1, false) := by kernel_rfl
@[go_sem] theorem fldT_312_1 : fldT Tryz.prog 312 1 = some (6, 1, false) := by kernel_rfl
@[go_sem] theorem fldT_32_0 : fldT Tryz.prog 32 0 = some (0, 1, false) := by kernel_rfl
@[go_sem] theorem fldT_32_2 : fldT Tryz.prog 32 2 = some (2, 1, false) := by kernel_rfl
@[go_sem] theorem fldT_32_3 : fldT Tryz.prog 32 3 = some (3, 1, true) := by kernel_rfl
@[go_sem] theorem fldT_32_4 : fldT Tryz.prog 32 4 = some (4, 7, true) := by kernel_rfl
@[go_sem] theorem fldT_35_0 : fldT Tryz.prog 35 0 = some (0, 1, false) := by kernel_rfl
@[go_sem] theorem fldT_35_1 : fldT Tryz.prog 35 1 = some (1, 1, false) := by kernel_rfl
@[go_sem] theorem fldT_35_2 : fldT Tryz.prog 35 2 = some (2, 1, false) := by kernel_rfl
@[go_sem] theorem fldT_35_3 : fldT Tryz.prog 35 3 = some (3, 1, false) := by kernel_rfl
@[go_sem] theorem fldT_35_4 : fldT Tryz.prog 35 4 = some (4, 1, false) := by kernel_rfl
@[go_sem] theorem fldT_37_0 : fldT Tryz.prog 37 0 = some (0, 1, false) := by kernel_rfl
@[go_sem] theorem fldT_37_1 : fldT Tryz.prog 37 1 = some (1, 5, true) := by kernel_rfl
@[go_sem] theorem fldT_386_0 : fldT Tryz.prog 386 0 = some (0, 1, false) := by kernel_rfl
@[go_sem] theorem fldT_386_1 : fldT Tryz.prog 386 1 = some (1, 1, false) := by kernel_rfl
@[go_sem] theorem fldT_52_0 : fldT Tryz.prog 52 0 = some (0, 1, false) := by kernel_rfl
@[go_sem] theorem fldT_52_1 : fldT Tryz.prog 52 1 = some (1, 1, false) := by kernel_rfl
@[go_sem] theorem fldT_52_2 : fldT Tryz.prog 52 2 = some (2, 1, false) := by kernel_rfl
@[go_sem] theorem fldT_52_3 : fldT Tryz.prog 52 3 = some (3, 1, false) := by kernel_rfl
@[go_sem] theorem fldT_52_4 : fldT Tryz.prog 52 4 = some (4, 1, false) := by kernel_rfl
@[go_sem] theorem fldT_52_5 : fldT Tryz.prog 52 5 = some (5, 1, false) := by kernel_rfl
@[go_sem] theorem fldT_54_0 : fldT Tryz.prog 54 0 = some (0, 1, false) := by kernel_rfl
@[go_sem] theorem fldT_54_1 : fldT Tryz.prog 54 1 = some (1, 1, false) := by kernel_rfl
@[go_sem] theorem fldT_54_2 : fldT Tryz.prog 54 2 = some (2, 1, false) := by kernel_rfl
@[go_sem] theorem fldT_54_3 : fldT Tryz.prog 54 3 = some (3, 1, false) := by kernel_rfl
@[go_sem] theorem fldT_54_4 : fldT Tryz.prog 54 4 = some (4, 1, false) := by kernel_rfl
@[go_sem] theorem fldT_54_5 : fldT Tryz.prog 54 5 = some (5, 6, true) := by kernel_rfl
@[go_sem] theorem fldT_58_0 : fldT Tryz.prog 58 0 = some (0, 1, false) := by kernel_rfl
@[go_sem] theorem fldT_58_1 : fldT Tryz.prog 58 1 = some (1, 1, false) := by kernel_rfl
@[go_sem] theorem fldT_60_0 : fldT Tryz.prog 60 0 = some (0, 1, false) := by kernel_rfl
@[go_sem] theorem fldT_60_1 : fldT Tryz.prog 60 1 = some (1, 1, false) := by kernel_rfl
@[go_sem] theorem fldT_60_10 : fldT Tryz.prog 60 10 = some (10, 6, true) := by kernel_rfl
@[go_sem] theorem fldT_60_11 : fldT Tryz.prog 60 11 = some (16, 2, true) := by kernel_rfl
@[go_sem] theorem fldT_60_2 : fldT Tryz.prog 60 2 = some (2, 1, false) := by kernel_rfl
@[go_sem] theorem fldT_60_3 : fldT Tryz.prog 60 3 = some (3, 1, false) := by kernel_rfl
@[go_sem] theorem fldT_60_4 : fldT Tryz.prog 60 4 = some (4, 1, false) := by kernel_rfl
@[go_sem] theorem fldT_60_5 : fldT Tryz.prog 60 5 = some (5, 1, false) := by kernel_rfl
@[go_sem] theorem fldT_60_6 : fldT Tryz.prog 60 6 = some (6, 1, false) := by kernel_rfl
@[go_sem] theorem fldT_60_7 : fldT Tryz.prog 60 7 = some (7, 1, false) := by kernel_rfl
@[go_sem] theorem fldT_60_8 : fldT Tryz.prog 60 8 = some (8, 1, false) := by kernel_rfl
@[go_sem] theorem fldT_60_9 : fldT Tryz.prog 60 9 = some (9, 1, false) := by kernel_rfl
@[go_sem] theorem fldT_71_0 : fldT Tryz.prog 71 0 = some (0, 1, false) := by kernel_rfl
@[go_sem] theorem fldT_71_1 : fldT Tryz.prog 71 1 = some (1, 1, false) := by kernel_rfl
@[go_sem] theorem fldT_71_2 : fldT Tryz.prog 71 2 = some (2, 1, false) := by kernel_rfl
@[go_sem] theorem fldT_71_3 : fldT Tryz.prog 71 3 = some (3, 7, true) := by kernel_rfl
@[go_sem] theorem fldT_71_4 : fldT Tryz.prog 71 4 = some (10, 1, false) := by kernel_rfl
@[go_sem] theorem fldT_87_0 : fldT Tryz.prog 87 0 = some (0, 1, false) := by kernel_rfl
@[go_sem] theorem fldT_87_1 : fldT Tryz.prog 87 1 = some (1, 1, false) := by kernel_rfl
@[go_sem] theorem fldT_87_2 : fldT Tryz.prog 87 2 = some (2, 1, false) := by kernel_rfl
@[go_sem] theorem intT_192 : intT Tryz.prog 192 = none := by kernel_rfl
@[go_sem] theorem intT_21 : intT Tryz.prog 21 = some .i32 := by kernel_rfl
@[go_sem] theorem intT_236 : intT Tryz.prog 236 = some .u64 := by kernel_rfl
@[go_sem] theorem intT_3 : intT Tryz.prog 3 = some .i64 := by kernel_rfl
@[go_sem] theorem intT_5 : intT Tryz.prog 5 = some .u8 := by kernel_rfl
@[go_sem] theorem intT_9 : intT Tryz.prog 9 = none := by kernel_rfl
@[go_sem] theorem placesT_100 : placesT Tryz.prog 100 = some [(0, 2), (2, 1), (3, 1), (4, 1), (5, 6)] := by kernel_rfl
@[go_sem] theorem placesT_107 : placesT Tryz.prog 107 = some [(0, 1), (1, 6)] := by kernel_rfl
@[go_sem] theorem placesT_116 : placesT Tryz.prog 116 = some [(0, 1), (1, 1), (2, 1), (3, 1), (4, 1), (5, 1), (6, 1), (7, 1), (8, 7), (15, 1), (16, 1), (17, 1), (18, 1), (19, 1)] := by kernel_rfl
@[go_sem] theorem placesT_120 : placesT Tryz.prog 120 = some [(0, 1), (1, 1), (2, 1)] := by kernel_rfl
@[go_sem] theorem placesT_129 : placesT Tryz.prog 129 = some [(0, 2), (2, 1), (3, 1), (4, 6)] := by kernel_rfl
@[go_sem] theorem placesT_131 : placesT Tryz.prog 131 = some [(0, 1), (1, 1), (2, 2), (4, 10), (14, 1), (15, 1), (16, 1), (17, 6)] := by kernel_rfl
@[go_sem] theorem placesT_165 : placesT Tryz.prog 165 = none := by kernel_rfl
@[go_sem] theorem placesT_176 : placesT Tryz.prog 176 = some [(0, 1), (1, 1)] := by kernel_rfl
@[go_sem] theorem placesT_182 : placesT Tryz.prog 182 = some [(0, 20), (20, 1), (21, 2), (23, 1), (24, 7)] := by kernel_rfl
@[go_sem] theorem placesT_203 : placesT Tryz.prog 203 = some [(0, 1), (1, 1), (2, 1), (3, 1), (4, 1), (5, 1), (6, 1), (7, 1)] := by kernel_rfl
@[go_sem] theorem placesT_204 : placesT Tryz.prog 204 = none := by kernel_rfl
@[go_sem] theorem placesT_25 : placesT Tryz.prog 25 = some [(0, 1)] := by kernel_rfl
@[go_sem] theorem placesT_271 : placesT Tryz.prog 271 = some [(0, 2), (2, 1), (3, 1), (4, 1), (5, 1)] := by kernel_rfl
@[go_sem] theorem placesT_30 : placesT Tryz.prog 30 = some [(0, 1), (1, 1), (2, 1), (3, 1), (4, 1), (5, 1), (6, 1)] := by kernel_rfl
@[go_sem] theorem placesT_312 : placesT Tryz.prog 312 = some [(0, 6), (6, 1)] := by kernel_rfl
@[go_sem] theorem placesT_32 : placesT Tryz.prog 32 = some [(0, 1), (1, 1), (2, 1), (3, 1), (4, 7)] := by kernel_rfl
@[go_sem] theorem placesT_35 : placesT Tryz.prog 35 = some [(0, 1), (1, 1), (2, 1), (3, 1), (4, 1)] := by kernel_rfl
@[go_sem] theorem placesT_363 : placesT Tryz.prog 363 = some [(0, 1), (1, 1)] := by kernel_rfl
@[go_sem] theorem placesT_37 : placesT Tryz.prog 37 = some [(0, 1), (1, 5)] := by kernel_rfl
@[go_sem] theorem placesT_386 : placesT Tryz.prog 386 = some [(0, 1), (1, 1)] := by kernel_rfl
@[go_sem] theorem placesT_442 : placesT Tryz.prog 442 = none := by kernel_rfl
@[go_sem] theorem placesT_452 : placesT Tryz.prog 452 = none := by kernel_rfl
@[go_sem] theorem placesT_52 : placesT Tryz.prog 52 = some [(0, 1), (1, 1), (2, 1), (3, 1), (4, 1), (5, 1)] := by kernel_rfl
@[go_sem] theorem placesT_54 : placesT Tryz.prog 54 = some [(0, 1), (1, 1), (2, 1), (3, 1), (4, 1), (5, 6)] := by kernel_rfl
@[go_sem] theorem placesT_58 : placesT Tryz.prog 58 = some [(0, 1), (1, 1)] := by kernel_rfl
@[go_sem] theorem placesT_60 : placesT Tryz.prog 60 = some [(0, 1), (1, 1), (2, 1), (3, 1), (4, 1), (5, 1), (6, 1), (7, 1), (8, 1), (9, 1), (10, 6), (16, 2)] := by kernel_rfl
@[go_sem] theorem placesT_71 : placesT Tryz.prog 71 = some [(0, 1), (1, 1), (2, 1), (3, 7), (10, 1)] := by kernel_rfl
@[go_sem] theorem placesT_79 : placesT Tryz.prog 79 = some [(0, 11), (11, 1), (12, 1), (13, 1), (14, 1)] := by kernel_rfl
@[go_sem] theorem placesT_87 : placesT Tryz.prog 87 = some [(0, 1), (1, 1), (2, 1)] := by kernel_rfl
@[go_sem] theorem strT_118 : strT Tryz.prog 118 = false := by kernel_rfl
@[go_sem] theorem strT_121 : strT Tryz.prog 121 = false := by kernel_rfl
@[go_sem] theorem strT_122 : strT Tryz.prog 122 = false := by kernel_rfl
@[go_sem] theorem strT_124 : strT Tryz.prog 124 = false := by kernel_rfl
@[go_sem] theorem strT_165 : strT Tryz.prog 165 = false := by kernel_rfl
@[go_sem] theorem strT_192 : strT Tryz.prog 192 = false := by kernel_rfl
@[go_sem] theorem strT_204 : strT Tryz.prog 204 = false := by kernel_rfl
@[go_sem] theorem strT_21 : strT Tryz.prog 21 = false := by kernel_rfl
@[go_sem] theorem strT_22 : strT Tryz.prog 22 = false := by kernel_rfl
@[go_sem] theorem strT_23 : strT Tryz.prog 23 = false := by kernel_rfl
@[go_sem] theorem strT_236 : strT Tryz.prog 236 = false := by kernel_rfl
@[go_sem] theorem strT_26 : strT Tryz.prog 26 = false := by kernel_rfl
@[go_sem] theorem strT_261 : strT Tryz.prog 261 = false := by kernel_rfl
@[go_sem] theorem strT_269 : strT Tryz.prog 269 = false := by kernel_rfl
@[go_sem] theorem strT_27 : strT Tryz.prog 27 = false := by kernel_rfl
@[go_sem] theorem strT_28 : strT Tryz.prog 28 = false := by kernel_rfl
@[go_sem] theorem strT_3 : strT Tryz.prog 3 = false := by kernel_rfl
@[go_sem] theorem strT_33 : strT Tryz.prog 33 = false := by kernel_rfl
@[go_sem] theorem strT_365 : strT Tryz.prog 365 = false := by kernel_rfl
@[go_sem] theorem strT_390 : strT Tryz.prog 390 = false := by kernel_rfl
@[go_sem] theorem strT_442 : strT Tryz.prog 442 = false := by kernel_rfl
@[go_sem] theorem strT_452 : strT Tryz.prog 452 = false := by kernel_rfl
@[go_sem] theorem strT_5 : strT Tryz.prog 5 = false := by kernel_rfl
@[go_sem] theorem strT_50 : strT Tryz.prog 50 = false := by kernel_rfl
@[go_sem] theorem strT_56 : strT Tryz.prog 56 = false := by kernel_rfl
@[go_sem] theorem strT_76 : strT Tryz.prog 76 = false := by kernel_rfl
@[go_sem] theorem strT_81 : strT Tryz.prog 81 = false := by kernel_rfl
@[go_sem] theorem strT_82 : strT Tryz.prog 82 = false := by kernel_rfl
@[go_sem] theorem strT_9 : strT Tryz.prog 9 = true := by kernel_rfl
@[go_sem] theorem tyT_107 : tyT Tryz.prog 107 = some (7, true) := by kernel_rfl
@[go_sem] theorem tyT_111 : tyT Tryz.prog 111 = some (1, false) := by kernel_rfl
@[go_sem] theorem tyT_114 : tyT Tryz.prog 114 = some (1, false) := by kernel_rfl
@[go_sem] theorem tyT_116 : tyT Tryz.prog 116 = some (20, true) := by kernel_rfl
@[go_sem] theorem tyT_118 : tyT Tryz.prog 118 = some (1, false) := by kernel_rfl
@[go_sem] theorem tyT_120 : tyT Tryz.prog 120 = some (3, true) := by kernel_rfl
@[go_sem] theorem tyT_121 : tyT Tryz.prog 121 = some (1, false) := by kernel_rfl
@[go_sem] theorem tyT_122 : tyT Tryz.prog 122 = some (1, false) := by kernel_rfl
@[go_sem] theorem tyT_124 : tyT Tryz.prog 124 = some (1, false) := by kernel_rfl
@[go_sem] theorem tyT_126 : tyT Tryz.prog 126 = some (7, true) := by kernel_rfl
@[go_sem] theorem tyT_129 : tyT Tryz.prog 129 = some (10, true) := by kernel_rfl
@[go_sem] theorem tyT_131 : tyT Tryz.prog 131 = some (23, true) := by kernel_rfl
@[go_sem] theorem tyT_165 : tyT Tryz.prog 165 = some (11, true) := by kernel_rfl
@[go_sem] theorem tyT_203 : tyT Tryz.prog 203 = some (8, true) := by kernel_rfl
@[go_sem] theorem tyT_204 : tyT Tryz.prog 204 = some (88, true) := by kernel_rfl
@[go_sem] theorem tyT_22 : tyT Tryz.prog 22 = some (1, false) := by kernel_rfl
@[go_sem] theorem tyT_226 : tyT Tryz.prog 226 = some (10, true) := by kernel_rfl
@[go_sem] theorem tyT_23 : tyT Tryz.prog 23 = some (1, false) := by kernel_rfl
@[go_sem] theorem tyT_25 : tyT Tryz.prog 25 = some (1, true) := by kernel_rfl
@[go_sem] theorem tyT_257 : tyT Tryz.prog 257 = some (1, false) := by kernel_rfl
@[go_sem] theorem tyT_26 : tyT Tryz.prog 26 = some (1, false) := by kernel_rfl
@[go_sem] theorem tyT_269 : tyT Tryz.prog 269 = some (1, false) := by kernel_rfl
@[go_sem] theorem tyT_27 : tyT Tryz.prog 27 = some (1, false) := by kernel_rfl
@[go_sem] theorem tyT_271 : tyT Tryz.prog 271 = some (6, true) := by kernel_rfl
@[go_sem] theorem tyT_28 : tyT Tryz.prog 28 = some (1, false) := by kernel_rfl
@[go_sem] theorem tyT_3 : tyT Tryz.prog 3 = some (1, false) := by kernel_rfl
@[go_sem] theorem tyT_30 : tyT Tryz.prog 30 = some (7, true) := by kernel_rfl
@[go_sem] theorem tyT_32 : tyT Tryz.prog 32 = some (11, true) := by kernel_rfl
@[go_sem] theorem tyT_320 : tyT Tryz.prog 320 = some (1, false) := by kernel_rfl
@[go_sem] theorem tyT_33 : tyT Tryz.prog 33 = some (1, false) := by kernel_rfl
@[go_sem] theorem tyT_35 : tyT Tryz.prog 35 = some (5, true) := by kernel_rfl
@[go_sem] theorem tyT_363 : tyT Tryz.prog 363 = some (2, true) := by kernel_rfl
@[go_sem] theorem tyT_37 : tyT Tryz.prog 37 = some (6, true) := by kernel_rfl
@[go_sem] theorem tyT_386 : tyT Tryz.prog 386 = some (2, true) := by kernel_rfl
@[go_sem] theorem tyT_4 : tyT Tryz.prog 4 = some (1, false) := by kernel_rfl
@[go_sem] theorem tyT_40 : tyT Tryz.prog 40 = some (1, false) := by kernel_rfl
@[go_sem] theorem tyT_41 : tyT Tryz.prog 41 = some (1, false) := by kernel_rfl
@[go_sem] theorem tyT_442 : tyT Tryz.prog 442 = some (13, true) := by kernel_rfl
@[go_sem] theorem tyT_5 : tyT Tryz.prog 5 = some (1, false) := by kernel_rfl
@[go_sem] theorem tyT_50 : tyT Tryz.prog 50 = some (1, false) := by kernel_rfl
@[go_sem] theorem tyT_52 : tyT Tryz.prog 52 = some (6, true) := by kernel_rfl
@[go_sem] theorem tyT_54 : tyT Tryz.prog 54 = some (11, true) := by kernel_rfl
@[go_sem] theorem tyT_56 : tyT Tryz.prog 56 = some (1, false) := by kernel_rfl
@[go_sem] theorem tyT_58 : tyT Tryz.prog 58 = some (2, true) := by kernel_rfl
@[go_sem] theorem tyT_60 : tyT Tryz.prog 60 = some (18, true) := by kernel_rfl
@[go_sem] theorem tyT_71 : tyT Tryz.prog 71 = some (11, true) := by kernel_rfl
@[go_sem] theorem tyT_80 : tyT Tryz.prog 80 = some (1, false) := by kernel_rfl
@[go_sem] theorem tyT_82 : tyT Tryz.prog 82 = some (1, false) := by kernel_rfl
@[go_sem] theorem tyT_87 : tyT Tryz.prog 87 = some (3, true) := by kernel_rfl
@[go_sem] theorem tyT_9 : tyT Tryz.prog 9 = some (1, false) := by kernel_rfl
@[go_sem] theorem zeroT_100 : zeroT Tryz.prog 100 = some [.val (.int .i64 0), .list [] .full, .val (.string ⟨#[]⟩), .val (.int .i64 0), .val (.bool false), .val (.int .i64 0), .val (.int .i64 0), .val (.int .i64 0), .val (.string ⟨#[]⟩), .list [] .full, .list [] .full] := by kernel_rfl
@[go_sem] theorem zeroT_107 : zeroT Tryz.prog 107 = some [.val (.string ⟨#[]⟩), .val (.int .i64 0), .val (.int .i64 0), .val (.int .i64 0), .val (.string ⟨#[]⟩), .list [] .full, .list [] .full] := by kernel_rfl
@[go_sem] theorem zeroT_116 : zeroT Tryz.prog 116 = some [.val (.string ⟨#[]⟩), .val (.int .i64 0), .val (.int .i64 0), .val (.int .i64 0), .val (.int .i64 0), .val (.int .i64 0), .val (.int .i64 0), .val (.string ⟨#[]⟩), .val (.int .i64 0), .val (.int .i64 0), .val (.int .i64 0), .val (.int .i64 0), .list [] .full, .list [] .full, .list [] .full, .list [] .full, .list [] .full, .list [] .full, .list [] .full, .list [] .full] := by kernel_rfl
@[go_sem] theorem zeroT_120 : zeroT Tryz.prog 120 = some [.val (.int .i64 0), .val (.int .i64 0), .list [] .full] := by kernel_rfl
@[go_sem] theorem zeroT_126 : zeroT Tryz.prog 126 = some [.val (.int .i64 0), .val (.int .i64 0), .list [] .full, .list [] .full, .list [] .full, .list [] .full, .list [] .full] := by kernel_rfl
@[go_sem] theorem zeroT_129 : zeroT Tryz.prog 129 = some [.val (.int .i64 0), .list [] .full, .val (.int .i64 0), .list [] .full, .val (.int .i64 0), .val (.int .i64 0), .val (.int .i64 0), .val (.string ⟨#[]⟩), .list [] .full, .list [] .full] := by kernel_rfl
@[go_sem] theorem zeroT_131 : zeroT Tryz.prog 131 = some [.val (.int .i64 0), .val (.int .i64 0), .val (.int .i64 0), .list [] .full, .val (.int .i64 0), .list [] .full, .val (.int .i64 0), .list [] .full, .val (.int .i64 0), .val (.int .i64 0), .val (.int .i64 0), .val (.string ⟨#[]⟩), .list [] .full, .list [] .full, .val (.int .i64 0), .val (.bool false), .val (.bool false), .val (.int .i64 0), .val (.int .i64 0), .val (.int .i64 0), .val (.string ⟨#[]⟩), .list [] .full, .list [] .full] := by kernel_rfl
@[go_sem] theorem zeroT_165 : zeroT Tryz.prog 165 = some [.val .nilFunc, .val .nilFunc, .val .nilFunc, .val .nilFunc, .val .nilFunc, .val .nilFunc, .val .nilFunc, .val .nilFunc, .val .nilFunc, .val .nilFunc, .val .nilFunc] := by kernel_rfl
@[go_sem] theorem zeroT_176 : zeroT Tryz.prog 176 = some [.val (.string ⟨#[]⟩), .list [] .full] := by kernel_rfl
@[go_sem] theorem zeroT_182 : zeroT Tryz.prog 182 = some [.val (.string ⟨#[]⟩), .val (.int .i64 0), .val (.int .i64 0), .val (.int .i64 0), .val (.int .i64 0), .val (.int .i64 0), .val (.int .i64 0), .val (.string ⟨#[]⟩), .val (.int .i64 0), .val (.int .i64 0), .val (.int .i64 0), .val (.int .i64 0), .list [] .full, .list [] .full, .list [] .full, .list [] .full, .list [] .full, .list [] .full, .list [] .full, .list [] .full, .val (.int .i64 0), .val (.int .i64 0), .list [] .full, .val (.int .i64 0), .val (.int .i64 0), .val (.int .i64 0), .list [] .full, .list [] .full, .list [] .full, .list [] .full, .list [] .full] := by kernel_rfl
@[go_sem] theorem zeroT_203 : zeroT Tryz.prog 203 = some [.val (.string ⟨#[]⟩), .val (.int .i64 0), .val (.int .i64 0), .val (.bool false), .val (.bool false), .val (.bool false), .val (.bool false), .val (.bool false)] := by kernel_rfl
@[go_sem] theorem zeroT_204 : zeroT Tryz.prog 204 = some [.val (.string ⟨#[]⟩), .val (.int .i64 0), .val (.int .i64 0), .val (.bool false), .val (.bool false), .val (.bool false), .val (.bool false), .val (.bool false), .val (.string ⟨#[]⟩), .val (.int .i64 0), .val (.int .i64 0), .val (.bool false), .val (.bool false), .val (.bool false), .val (.bool false), .val (.bool false), .val (.string ⟨#[]⟩), .val (.int .i64 0), .val (.int .i64 0), .val (.bool false), .val (.bool false), .val (.bool false), .val (.bool false), .val (.bool false), .val (.string ⟨#[]⟩), .val (.int .i64 0), .val (.int .i64 0), .val (.bool false), .val (.bool false), .val (.bool false), .val (.bool false), .val (.bool false), .val (.string ⟨#[]⟩), .val (.int .i64 0), .val (.int .i64 0), .val (.bool false), .val (.bool false), .val (.bool false), .val (.bool false), .val (.bool false), .val (.string ⟨#[]⟩), .val (.int .i64 0), .val (.int .i64 0), .val (.bool false), .val (.bool false), .val (.bool false), .val (.bool false), .val (.bool false), .val (.string ⟨#[]⟩), .val (.int .i64 0), .val (.int .i64 0), .val (.bool false), .val (.bool false), .val (.bool false), .val (.bool false), .val (.bool false), .val (.string ⟨#[]⟩), .val (.int .i64 0), .val (.int .i64 0), .val (.bool false), .val (.bool false), .val (.bool false), .val (.bool false), .val (.bool false), .val (.string ⟨#[]⟩), .val (.int .i64 0), .val (.int .i64 0), .val (.bool false), .val (.bool false), .val (.bool false), .val (.bool false), .val (.bool false), .val (.string ⟨#[]⟩), .val (.int .i64 0), .val (.int .i64 0), .val (.bool false), .val (.bool false), .val (.bool false), .val (.bool false), .val (.bool false), .val (.string ⟨#[]⟩), .val (.int .i64 0), .val (.int .i64 0), .val (.bool false), .val (.bool false), .val (.bool false), .val (.bool false), .val (.bool false)] := by kernel_rfl
@[go_sem] theorem zeroT_226 : zeroT Tryz.prog 226 = some [.val (.int .i64 0), .val (.int .i64 0), .val (.int .i64 0), .val (.string ⟨#[]⟩), .list [] .full, .list [] .full, .val (.int .i64 0), .val (.int .i64 0), .list [] .full, .list [] .full] := by kernel_rfl
@[go_sem] theorem zeroT_25 : zeroT Tryz.prog 25 = some [.list [] .full] := by kernel_rfl
@[go_sem] theorem zeroT_271 : zeroT Tryz.prog 271 = some [.val (.int .i64 0), .list [] .full, .val (.int .i64 0), .val (.string ⟨#[]⟩), .list [] .full, .val (.string ⟨#[]⟩)] := by kernel_rfl
@[go_sem] theorem zeroT_3 : zeroT Tryz.prog 3 = some [.val (.int .i64 0)] := by kernel_rfl
@[go_sem] theorem zeroT_30 : zeroT Tryz.prog 30 = some [.val (.int .i64 0), .val (.int .i64 0), .val (.int .i64 0), .val (.int .i64 0), .list [] .full, .list [] .full, .list [] .full] := by kernel_rfl
@[go_sem] theorem zeroT_312 : zeroT Tryz.prog 312 = some [.val (.int .i64 0), .val (.int .i64 0), .val (.int .i64 0), .val (.string ⟨#[]⟩), .list [] .full, .list [] .full, .val (.int .i64 0)] := by kernel_rfl
@[go_sem] theorem zeroT_32 : zeroT Tryz.prog 32 = some [.val (.string ⟨#[]⟩), .val (.bool false), .list [] .full, .list [] .full, .val (.int .i64 0), .val (.int .i64 0), .val (.int .i64 0), .val (.int .i64 0), .list [] .full, .list [] .full, .list [] .full] := by kernel_rfl
@[go_sem] theorem zeroT_320 : zeroT Tryz.prog 320 = some [.val .nilFunc] := by kernel_rfl
@[go_sem] theorem zeroT_35 : zeroT Tryz.prog 35 = some [.val (.int .i64 0), .val (.int .i64 0), .val (.string ⟨#[]⟩), .list [] .full, .list [] .full] := by kernel_rfl
@[go_sem] theorem zeroT_363 : zeroT Tryz.prog 363 = some [.val .nilFunc, .val (.bool false)] := by kernel_rfl
@[go_sem] theorem zeroT_37 : zeroT Tryz.prog 37 = some [.val (.string ⟨#[]⟩), .val (.int .i64 0), .val (.int .i64 0), .val (.string ⟨#[]⟩), .list [] .full, .list [] .full] := by kernel_rfl
@[go_sem] theorem zeroT_386 : zeroT Tryz.prog 386 = some [.val (.int .i64 0), .val (.int .i64 0)] := by kernel_rfl
@[go_sem] theorem zeroT_4 : zeroT Tryz.prog 4 = some [.val (.bool false)] := by kernel_rfl
@[go_sem] theorem zeroT_40 : zeroT Tryz.prog 40 = some [.val (.pointer none)] := by kernel_rfl
@[go_sem] theorem zeroT_41 : zeroT Tryz.prog 41 = some [.val (.int .i64 0)] := by kernel_rfl
@[go_sem] theorem zeroT_420 : zeroT Tryz.prog 420 = some [.val (.pointer none), .list [] .full] := by kernel_rfl
@[go_sem] theorem zeroT_442 : zeroT Tryz.prog 442 = some [.val (.int .i64 0), .val (.int .i64 0), .val (.int .i64 0), .val (.int .i64 0), .val (.int .i64 0), .val (.int .i64 0), .val (.int .i64 0), .val (.int .i64 0), .val (.int .i64 0), .val (.int .i64 0), .val (.int .i64 0), .val (.int .i64 0), .val (.int .i64 0)] := by kernel_rfl
@[go_sem] theorem zeroT_452 : zeroT Tryz.prog 452 = some [.val (.int .i64 0), .val (.int .i64 0), .val (.int .i64 0), .val (.int .i64 0), .val (.int .i64 0), .val (.int .i64 0), .val (.int .i64 0), .val (.int .i64 0), .val (.int .i64 0), .val (.int .i64 0), .val (.int .i64 0), .val (.int .i64 0)] := by kernel_rfl
@[go_sem] theorem zeroT_5 : zeroT Tryz.prog 5 = some [.val (.int .u8 0)] := by kernel_rfl
@[go_sem] theorem zeroT_52 : zeroT Tryz.prog 52 = some [.val (.int .i64 0), .val (.int .i64 0), .val (.int .i64 0), .val (.string ⟨#[]⟩), .list [] .full, .list [] .full] := by kernel_rfl
@[go_sem] theorem zeroT_54 : zeroT Tryz.prog 54 = some [.val (.int .i64 0), .val (.string ⟨#[]⟩), .val (.int .i64 0), .val (.bool false), .val (.bool false), .val (.int .i64 0), .val (.int .i64 0), .val (.int .i64 0), .val (.string ⟨#[]⟩), .list [] .full, .list [] .full] := by kernel_rfl
@[go_sem] theorem zeroT_56 : zeroT Tryz.prog 56 = some [.list [] .full] := by kernel_rfl
@[go_sem] theorem zeroT_58 : zeroT Tryz.prog 58 = some [.val (.int .i64 0), .list [] .full] := by kernel_rfl
@[go_sem] theorem zeroT_60 : zeroT Tryz.prog 60 = some [.val (.int .i64 0), .val (.int .i64 0), .val (.int .i64 0), .val (.int .i64 0), .val (.int .i64 0), .val (.string ⟨#[]⟩), .val (.string ⟨#[]⟩), .val (.string ⟨#[]⟩), .val (.bool false), .val (.bool false), .val (.int .i64 0), .val (.int .i64 0), .val (.int .i64 0), .val (.string ⟨#[]⟩), .list [] .full, .list [] .full, .val (.int .i64 0), .list [] .full] := by kernel_rfl
@[go_sem] theorem zeroT_71 : zeroT Tryz.prog 71 = some [.val (.int .i64 0), .val (.string ⟨#[]⟩), .val (.int .i64 0), .val (.int .i64 0), .val (.int .i64 0), .val (.int .i64 0), .val (.int .i64 0), .list [] .full, .list [] .full, .list [] .full, .list [] .full] := by kernel_rfl
@[go_sem] theorem zeroT_79 : zeroT Tryz.prog 79 = some [.val (.string ⟨#[]⟩), .val (.bool false), .list [] .full, .list [] .full, .val (.int .i64 0), .val (.int .i64 0), .val (.int .i64 0), .val (.int .i64 0), .list [] .full, .list [] .full, .list [] .full, .list [] .full, .list [] .full, .val (.map none), .val (.map none)] := by kernel_rfl
@[go_sem] theorem zeroT_80 : zeroT Tryz.prog 80 = some [.val .nilFunc] := by kernel_rfl
@[go_sem] theorem zeroT_82 : zeroT Tryz.prog 82 = some [.list [] .full] := by kernel_rfl
@[go_sem] theorem zeroT_87 : zeroT Tryz.prog 87 = some [.val (.int .i64 0), .val (.int .i64 0), .val (.string ⟨#[]⟩)] := by kernel_rfl
@[go_sem] theorem zeroT_9 : zeroT Tryz.prog 9 = some [.val (.string ⟨#[]⟩)] := by kernel_rfl
theorem mix : Tryz.prog.follows .mixedOrders = true := by kernel_rfl
inductive Vl where
 | mk (kind int scale : Int) (text : ByteArray) (list : List Vl) (fields : List (ByteArray × Vl))
inductive Ty where
 | mk (kind min max scale : Int) (words : List ByteArray) (elem : List Ty) (fields : List (Int × ByteArray × Int × Ty × List Vl))
namespace Vl
def kind : Vl → Int | mk k _ _ _ _ _ => k
def int : Vl → Int | mk _ i _ _ _ _ => i
def scale : Vl → Int | mk _ _ s _ _ _ => s
def text : Vl → ByteArray | mk _ _ _ t _ _ => t
def list : Vl → List Vl | mk _ _ _ _ l _ => l
def fields : Vl → List (ByteArray × Vl) | mk _ _ _ _ _ f => f
end Vl
mutual
def Vl.size : Vl → Nat
 | .mk _ _ _ _ l f => 1 + sizeVs l + sizeFs f
def sizeVs : List Vl → Nat
 | [] => 0
 | v :: r => v.size + sizeVs r
def sizeFs : List (ByteArray × Vl) → Nat
 | [] => 0
 | (_, v) :: r => v.size + sizeFs r
end
mutual
def Vl.cs : Vl → List AV
 | .mk k i s t l f => [.val (.int .i64 k), .val (.int .i64 i), .val (.int .i64 s), .val (.string t), .list (encVs l) .none, .list (encFs f) .none]
def encVs : List Vl → List AV
 | [] => []
 | v :: r => .agg v.cs :: encVs r
def encFs : List (ByteArray × Vl) → List AV
 | [] => []
 | (n, v) :: r => .agg (.val (.string n) :: v.cs) :: encFs r
end
mutual
def Ty.size : Ty → Nat
 | .mk _ _ _ _ _ e f => 1 + sizeTs e + sizeTFs f
def sizeTs : List Ty → Nat
 | [] => 0
 | t :: r => t.size + sizeTs r
def sizeTFs : List (Int × ByteArray × Int × Ty × List Vl) → Nat
 | [] => 0
 | (_, _, _, t, _) :: r => t.size + sizeTFs r
end
mutual
def Ty.cs : Ty → List AV
 | .mk k lo hi s w e f => [.val (.int .i64 k), .val (.int .i64 lo), .val (.int .i64 hi), .val (.int .i64 s), .list (w.map fun x => .val (.string x)) .none, .list (encTs e) .none, .list (encTFs f) .none]
def encTs : List Ty → List AV
 | [] => []
 | t :: r => .agg t.cs :: encTs r
def encTFs : List (Int × ByteArray × Int × Ty × List Vl) → List AV
 | [] => []
 | (n, s, d, t, l) :: r => .agg (.val (.int .i64 n) :: .val (.string s) :: .val (.int .i64 d) :: (t.cs ++ [.list (encVs l) .none])) :: encTFs r
end
theorem encVs_map : ∀ l : List Vl, encVs l = l.map fun v => .agg v.cs
 | [] => rfl
 | v :: r => by simp [encVs, encVs_map r]
theorem encFs_map : ∀ l : List (ByteArray × Vl), encFs l = l.map fun p => .agg (.val (.string p.1) :: p.2.cs)
 | [] => rfl
 | (n, v) :: r => by simp [encFs, encFs_map r]
@[go_sem] theorem encVs_length (l : List Vl) : (encVs l).length = l.length := by simp [encVs_map]
@[go_sem] theorem encFs_length (l : List (ByteArray × Vl)) : (encFs l).length = l.length := by simp [encFs_map]
theorem encTs_map : ∀ l : List Ty, encTs l = l.map fun v => .agg v.cs
 | [] => rfl
 | v :: r => by simp [encTs, encTs_map r]
theorem encTFs_map : ∀ l : List (Int × ByteArray × Int × Ty × List Vl), encTFs l = l.map fun p => .agg (.val (.int .i64 p.1) :: .val (.string p.2.1) :: .val (.int .i64 p.2.2.1) :: (p.2.2.2.1.cs ++ [.list (encVs p.2.2.2.2) .none]))
 | [] => rfl
 | (n, s, d, t, l) :: r => by simp [encTFs, encTFs_map r]
@[go_sem] theorem encTs_length (l : List Ty) : (encTs l).length = l.length := by simp [encTs_map]
@[go_sem] theorem encTFs_length (l : List (Int × ByteArray × Int × Ty × List Vl)) : (encTFs l).length = l.length := by simp [encTFs_map]
theorem Vl.cs_eq (v : Vl) : v.cs = [.val (.int .i64 v.kind), .val (.int .i64 v.int), .val (.int .i64 v.scale), .val (.string v.text), .list (encVs v.list) .none, .list (encFs v.fields) .none] := by cases v; rfl
@[go_sem] theorem Vl.cs_length (v : Vl) : v.cs.length = 6 := by cases v; rfl
@[go_sem] theorem Vl.cs_pub (v : Vl) : v.cs.map AV.pubCell = v.cs := by cases v; rfl
mutual
theorem Vl.under (nb nr nl : Nat) : ∀ v : Vl, ∀ x ∈ v.cs, Under nb nr nl x
 | .mk k i s t l f => by
  intro x hx
  simp only [Vl.cs, List.mem_cons, List.not_mem_nil, or_false] at hx
  rcases hx with rfl | rfl | rfl | rfl | rfl | rfl
  ·
   exact .val _
  ·
   exact .val _
  ·
   exact .val _
  ·
   exact .val _
  ·
   exact .list (encVs_under nb nr nl l) trivial
  ·
   exact .list (encFs_under nb nr nl f) trivial
theorem encVs_under (nb nr nl : Nat) : ∀ l : List Vl, ∀ x ∈ encVs l, Under nb nr nl x
 | [] => fun _ h => by simp [encVs] at h
 | v :: r => by
  intro x hx
  simp only [encVs, List.mem_cons] at hx
  rcases hx with rfl | hx
  ·
   exact .agg (Vl.under nb nr nl v)
  ·
   exact encVs_under nb nr nl r x hx
theorem encFs_under (nb nr nl : Nat) : ∀ l : List (ByteArray × Vl), ∀ x ∈ encFs l, Under nb nr nl x
 | [] => fun _ h => by simp [encFs] at h
 | (n, v) :: r => by
  intro x hx
  simp only [encFs, List.mem_cons] at hx
  rcases hx with rfl | hx
  ·
   refine .agg fun y hy => ?_
   rcases List.mem_cons.1 hy with rfl | hy
   ·
    exact .val _
   ·
    exact Vl.under nb nr nl v y hy
  ·
   exact encFs_under nb nr nl r x hx
end
mutual
theorem Ty.under (nb nr nl : Nat) : ∀ v : Ty, ∀ x ∈ v.cs, Under nb nr nl x
 | .mk k lo hi s w e f => by
  intro x hx
  simp only [Ty.cs, List.mem_cons, List.not_mem_nil, or_false] at hx
  rcases hx with rfl | rfl | rfl | rfl | rfl | rfl | rfl
  ·
   exact .val _
  ·
   exact .val _
  ·
   exact .val _
  ·
   exact .val _
  ·
   refine .list (fun y hy => ?_) trivial
   obtain ⟨z, _, rfl⟩ := List.mem_map.1 hy
   exact .val _
  ·
   exact .list (encTs_under nb nr nl e) trivial
  ·
   exact .list (encTFs_under nb nr nl f) trivial
theorem encTs_under (nb nr nl : Nat) : ∀ l : List Ty, ∀ x ∈ encTs l, Under nb nr nl x
 | [] => fun _ h => by simp [encTs] at h
 | v :: r => by
  intro x hx
  simp only [encTs, List.mem_cons] at hx
  rcases hx with rfl | hx
  ·
   exact .agg (Ty.under nb nr nl v)
  ·
   exact encTs_under nb nr nl r x hx
theorem encTFs_under (nb nr nl : Nat) : ∀ l : List (Int × ByteArray × Int × Ty × List Vl), ∀ x ∈ encTFs l, Under nb nr nl x
 | [] => fun _ h => by simp [encTFs] at h
 | (n, s, d, t, l) :: r => by
  intro x hx
  simp only [encTFs, List.mem_cons] at hx
  rcases hx with rfl | hx
  ·
   refine .agg fun y hy => ?_
   simp only [List.mem_cons, List.mem_append, List.not_mem_nil, or_false] at hy
   rcases hy with rfl | rfl | rfl | hy | rfl
   ·
    exact .val _
   ·
    exact .val _
   ·
    exact .val _
   ·
    exact Ty.under nb nr nl t y hy
   ·
    exact .list (encVs_under nb nr nl l) trivial
  ·
   exact encTFs_under nb nr nl r x hx
end
@[go_sem] theorem under_cs (nb nr nl : Nat) (v : Vl) : Under nb nr nl (.agg v.cs) ↔ True := iff_true_intro (.agg (v.under nb nr nl))
@[go_sem] theorem under_tcs (nb nr nl : Nat) (v : Ty) : Under nb nr nl (.agg v.cs) ↔ True := iff_true_intro (.agg (v.under nb nr nl))
@[go_sem] theorem under_encVs (nb nr nl : Nat) (l : List Vl) : (∀ x ∈ encVs l, Under nb nr nl x) ↔ True := iff_true_intro (encVs_under nb nr nl l)
@[go_sem] theorem under_encFs (nb nr nl : Nat) (l : List (ByteArray × Vl)) : (∀ x ∈ encFs l, Under nb nr nl x) ↔ True := iff_true_intro (encFs_under nb nr nl l)
@[go_sem] theorem under_encTs (nb nr nl : Nat) (l : List Ty) : (∀ x ∈ encTs l, Under nb nr nl x) ↔ True := iff_true_intro (encTs_under nb nr nl l)
@[go_sem] theorem under_encTFs (nb nr nl : Nat) (l : List (Int × ByteArray × Int × Ty × List Vl)) : (∀ x ∈ encTFs l, Under nb nr nl x) ↔ True := iff_true_intro (encTFs_under nb nr nl l)
theorem Ty.cs_eq (t : Ty) : ∃ k lo hi s w e f, t = .mk k lo hi s w e f := by cases t; exact ⟨_, _, _, _, _, _, _, rfl⟩
@[go_sem] theorem Ty.cs_length (v : Ty) : v.cs.length = 7 := by cases v; rfl
@[go_sem] theorem Ty.cs_pub (v : Ty) : v.cs.map AV.pubCell = v.cs := by cases v; rfl
namespace Ty
def kind : Ty → Int | mk k _ _ _ _ _ _ => k
def min : Ty → Int | mk _ m _ _ _ _ _ => m
def max : Ty → Int | mk _ _ m _ _ _ _ => m
def scale : Ty → Int | mk _ _ _ s _ _ _ => s
def words : Ty → List ByteArray | mk _ _ _ _ w _ _ => w
def elem : Ty → List Ty | mk _ _ _ _ _ e _ => e
def fields : Ty → List (Int × ByteArray × Int × Ty × List Vl) | mk _ _ _ _ _ _ f => f
end Ty
section
variable (v : Vl) (t : Ty) (x d : AV) (l : List AV)
@[go_sem] theorem Vl.g0 : v.cs.getD 0 d = .val (.int .i64 v.kind) := by cases v; rfl
@[go_sem] theorem Vl.g1 : v.cs.getD 1 d = .val (.int .i64 v.int) := by cases v; rfl
@[go_sem] theorem Vl.g2 : v.cs.getD 2 d = .val (.int .i64 v.scale) := by cases v; rfl
@[go_sem] theorem Vl.g3 : v.cs.getD 3 d = .val (.string v.text) := by cases v; rfl
@[go_sem] theorem Vl.g4 : v.cs.getD 4 d = .list (encVs v.list) .none := by cases v; rfl
@[go_sem] theorem Vl.g5 : v.cs.getD 5 d = .list (encFs v.fields) .none := by cases v; rfl
@[go_sem] theorem Vl.take6 : v.cs.take 6 = v.cs := by cases v; rfl
@[go_sem] theorem Vl.take6a : (v.cs ++ l).take 6 = v.cs := by cases v; rfl
@[go_sem] theorem Ty.g0 : t.cs.getD 0 d = .val (.int .i64 t.kind) := by cases t; rfl
@[go_sem] theorem Ty.g1 : t.cs.getD 1 d = .val (.int .i64 t.min) := by cases t; rfl
@[go_sem] theorem Ty.g2 : t.cs.getD 2 d = .val (.int .i64 t.max) := by cases t; rfl
@[go_sem] theorem Ty.g3 : t.cs.getD 3 d = .val (.int .i64 t.scale) := by cases t; rfl
@[go_sem] theorem Ty.g4 : t.cs.getD 4 d = .list (t.words.map fun x => .val (.string x)) .none := by cases t; rfl
@[go_sem] theorem Ty.g5 : t.cs.getD 5 d = .list (encTs t.elem) .none := by cases t; rfl
@[go_sem] theorem Ty.g6 : t.cs.getD 6 d = .list (encTFs t.fields) .none := by cases t; rfl
@[go_sem] theorem Ty.take7 : t.cs.take 7 = t.cs := by cases t; rfl
@[go_sem] theorem Ty.a0 : (t.cs ++ l).getD 0 d = .val (.int .i64 t.kind) := by cases t; rfl
@[go_sem] theorem Ty.a1 : (t.cs ++ l).getD 1 d = .val (.int .i64 t.min) := by cases t; rfl
@[go_sem] theorem Ty.a2 : (t.cs ++ l).getD 2 d = .val (.int .i64 t.max) := by cases t; rfl
@[go_sem] theorem Ty.a3 : (t.cs ++ l).getD 3 d = .val (.int .i64 t.scale) := by cases t; rfl
@[go_sem] theorem Ty.a4 : (t.cs ++ l).getD 4 d = .list (t.words.map fun x => .val (.string x)) .none := by cases t; rfl
@[go_sem] theorem Ty.a5 : (t.cs ++ l).getD 5 d = .list (encTs t.elem) .none := by cases t; rfl
@[go_sem] theorem Ty.a6 : (t.cs ++ l).getD 6 d = .list (encTFs t.fields) .none := by cases t; rfl
@[go_sem] theorem Ty.a7 : (t.cs ++ [x]).getD 7 d = x := by cases t; rfl
@[go_sem] theorem Ty.take7a : (t.cs ++ l).take 7 = t.cs := by cases t; rfl
@[go_sem] theorem Ty.take8a : (t.cs ++ [x]).take 8 = t.cs ++ [x] := by cases t; rfl
@[go_sem] theorem Ty.drop7a : (t.cs ++ l).drop 7 = l := by cases t; rfl
attribute [go_sem] List.length_append List.map_append
end
end Go.Proofs.YtkpooohjodojoaaGreatDoor
namespace Go.Proofs.YtkpooohjodojoaaGreatDoor
open Go Go.RowKit Go.Ev
theorem isNaN_at (w0 : World) (B : List (List AV)) (Rw : List RowA) (L : List LoopA) (a : Int) :
  ACalls Tryz.prog w0 150 [.val (.int .i64 a)] ⟨B, Rw, L⟩ fun r st => r = .val (.bool false) ∧ st = ⟨B, Rw, L⟩ := by
 refine ACalls.finP (acalls_of (rs := [.tmp 2]) Tryz.func150 rfl rfl Tryz.ntmps150 (enters_some Tryz.func150 rfl (by decide)) (Nat.le_of_ble_eq_true rfl) ?_)
 intro M0 W0 hN hNR hNL hcalm hu
 simp only [argsE]
 apply awp_seq; intro K1 hK1
 apply awp_region 1 [0]
 rw [evK_succ]; simp +decide only [go_sem]
 (repeat' apply And.intro) <;> first | refine hK1 _ _ ?_ | exact cl
 clear hK1
 apply awp_seq; intro K2 hK2
 apply awp_region 1 [2]
 rw [evK_succ]; simp +decide only [go_sem]
 (repeat' apply And.intro) <;> first | refine hK2 _ _ ?_ | exact cl
 clear hK2
 apply awp_ret; simp +decide only [go_sem]
 refine fin_p hcalm pf pf pf (by simp +decide only [go_sem]) ⟨?_, rfl⟩
 rw [pubA_val]
theorem Compare_at (w0 : World) (B : List (List AV)) (Rw : List RowA) (L : List LoopA) (a b : Int) :
  ACalls Tryz.prog w0 94 [.val (.int .i64 a), .val (.int .i64 b)] ⟨B, Rw, L⟩ fun r st => r = .val (.int .i64 (if a < b then -1 else if a = b then 0 else 1)) ∧ st = ⟨B, Rw, L⟩ := by
 refine ACalls.finP (acalls_of (rs := [.tmp 4]) Tryz.func94 rfl rfl Tryz.ntmps94 (enters_some Tryz.func94 rfl (by decide)) (Nat.le_of_ble_eq_true rfl) ?_)
 intro M0 W0 hN hNR hNL hcalm hu
 simp only [argsE]
 apply awp_seq; intro K1 hK1
 apply awp_region 1 [0, 1]
 rw [evK_succ]; simp +decide only [go_sem]
 (repeat' apply And.intro) <;> first | refine hK1 _ _ ?_ | exact cl
 clear hK1
 apply awp_seq; intro K2 hK2
 apply awp_region 2 [0, 1, 5]
 rw [evK_succ]; simp +decide only [go_sem]
 (repeat' apply And.intro) <;> first | refine callK_intro _ (isNaN_at w0 _ Rw L _) ?_ | exact cl
 rw [evK_succ]; simp +decide only [go_sem]
 (repeat' apply And.intro) <;> first | refine hK2 _ _ ?_ | exact cl
 clear hK2
 apply awp_seq; intro K3 hK3
 apply awp_region 2 [0, 1, 5, 6]
 rw [evK_succ]; simp +decide only [go_sem]
 (repeat' apply And.intro) <;> first | refine callK_intro _ (isNaN_at w0 _ Rw L _) ?_ | exact cl
 rw [evK_succ]; simp +decide only [go_sem]
 (repeat' apply And.intro) <;> first | refine hK3 _ _ ?_ | exact cl
 clear hK3
 apply awp_seq; intro K4 hK4
 apply awp_seq; intro K5 hK5
 apply awp_region 1 [0, 1, 6, 11]
 rw [evK_succ]; simp +decide only [go_sem]
 (repeat' apply And.intro) <;> first | refine hK5 _ _ ?_ | exact cl
 clear hK5
 refine awp_cond _ (by simp +decide only [go_sem]) (by simp +decide only [go_sem]; rfl) (fun hb => ?_) (fun hb => ?_)
 ·
  simp at hb
 skip
 apply awp_skip; simp only [go_sem]
 (repeat' apply And.intro) <;> first | refine hK4 _ _ ?_ | exact cl
 clear hK4
 apply awp_seq; intro K10 hK10
 apply awp_seq; intro K11 hK11
 apply awp_region 1 [0, 1, 13]
 rw [evK_succ]; simp +decide only [go_sem]
 (repeat' apply And.intro) <;> first | refine hK11 _ _ ?_ | exact cl
 clear hK11
 refine awp_cond _ (by simp +decide only [go_sem]) (by simp +decide only [go_sem]; rfl) (fun hb => ?_) (fun hb => ?_)
 ·
  simp at hb
 try simp at hb
 apply awp_skip; simp only [go_sem]
 (repeat' apply And.intro) <;> first | refine hK10 _ _ ?_ | exact cl
 clear hK10
 apply awp_seq; intro K13 hK13
 apply awp_seq; intro K14 hK14
 apply awp_region 1 [0, 1, 16]
 rw [evK_succ]; simp +decide only [go_sem]
 (repeat' apply And.intro) <;> first | refine hK14 _ _ ?_ | exact cl
 clear hK14
 refine awp_cond _ (by simp +decide only [go_sem]) (by simp +decide only [go_sem]; rfl) (fun hb => ?_) (fun hb => ?_)
 ·
  try simp at hb
  apply awp_seq; intro K15 hK15
  apply awp_region 1 [4]
  rw [evK_succ]; simp +decide only [go_sem]
  (repeat' apply And.intro) <;> first | refine hK15 _ _ ?_ | exact cl
  clear hK15
  apply awp_ret; simp +decide only [go_sem]
  refine fin_p hcalm pf pf pf (by simp +decide only [go_sem]) ⟨?_, rfl⟩
  rw [pubA_val]
  rw [if_pos (by omega)]
 try simp at hb
 apply awp_skip; simp only [go_sem]
 (repeat' apply And.intro) <;> first | refine hK13 _ _ ?_ | exact cl
 clear hK13
 apply awp_seq; intro K16 hK16
 apply awp_seq; intro K17 hK17
 apply awp_region 1 [19]
 rw [evK_succ]; simp +decide only [go_sem]
 (repeat' apply And.intro) <;> first | refine hK17 _ _ ?_ | exact cl
 clear hK17
 refine awp_cond _ (by simp +decide only [go_sem]) (by simp +decide only [go_sem]; rfl) (fun hb => ?_) (fun hb => ?_)
 ·
  try simp at hb
  apply awp_seq; intro K18 hK18
  apply awp_region 1 [4]
  rw [evK_succ]; simp +decide only [go_sem]
  (repeat' apply And.intro) <;> first | refine hK18 _ _ ?_ | exact cl
  clear hK18
  apply awp_ret; simp +decide only [go_sem]
  refine fin_p hcalm pf pf pf (by simp +decide only [go_sem]) ⟨?_, rfl⟩
  rw [pubA_val]
  rw [if_neg (by omega), if_neg (by omega)]
 try simp at hb
 apply awp_skip; simp only [go_sem]
 (repeat' apply And.intro) <;> first | refine hK16 _ _ ?_ | exact cl
 clear hK16
 apply awp_seq; intro K19 hK19
 apply awp_region 1 [4]
 rw [evK_succ]; simp +decide only [go_sem]
 (repeat' apply And.intro) <;> first | refine hK19 _ _ ?_ | exact cl
 clear hK19
 apply awp_ret; simp +decide only [go_sem]
 refine fin_p hcalm pf pf pf (by simp +decide only [go_sem]) ⟨?_, rfl⟩
 rw [pubA_val]
 rw [if_neg (by omega), if_pos (by omega)]
def cmpS (a b : ByteArray) : Int := Lib.compareBytes a.data.toList b.data.toList
theorem sCompare_at (w0 : World) (st : St) (a b : ByteArray) : ACalls Tryz.prog w0 95 [.val (.string a), .val (.string b)] st fun v s' => v = .val (.int .i64 (cmpS a b)) ∧ s' = st :=
 acalls_below (enters_some Tryz.func95 rfl (by decide)) rfl fun M w vals hb hrow => by
  have := row_vals (us := [.string a, .string b]) hrow
  subst this
  exact (Tryz.strings_Compare a b w).mono fun e w' ⟨h1, h2⟩ => ⟨h1, h2 ▸ Below.refl _ _⟩
theorem sValid_at (w0 : World) (st : St) (hT : Lib.Utf8Tabs 0 1 w0) (s : ByteArray) (hs : s.size ≤ maxLen) : ACalls Tryz.prog w0 127 [.val (.string s)] st fun v s' => v = .val (.bool (Lib.validD s.data.toList)) ∧ s' = st :=
 acalls_below (enters_some Tryz.func127 rfl (by decide)) rfl fun M w vals hb hrow => by
  have := row_vals (us := [.string s]) hrow
  subst this
  exact Any.utf8_ValidString Tryz.laysValid s w hs (Utf8Tabs_below hT hb)
def partsV (v : Vl) : List Vl := if v.kind = 8 ∨ v.kind = 10 then v.list else if v.kind = 9 then v.fields.map (·.2) else []
@[go_sem] theorem encVs_cells (l : List Vl) : (∀ y ∈ encVs l, y.cells.length = 6) ↔ True := iff_true_intro (by
 rw [encVs_map]; intro y hy
 obtain ⟨v, _, rfl⟩ := List.mem_map.1 hy
 exact v.cs_length)
@[go_sem] theorem encVs_ob (l : List Vl) : (∀ y ∈ encVs l, y.cells.length = 6 ∧ notTup y = true) ↔ True := iff_true_intro (by
 rw [encVs_map]; intro y hy
 obtain ⟨v, _, rfl⟩ := List.mem_map.1 hy
 exact ⟨v.cs_length, rfl⟩)
@[go_sem] theorem encVs_pub (l : List Vl) : (encVs l).map AV.pub = encVs l := by
 rw [encVs_map, List.map_map]
 refine List.map_congr_left fun v _ => ?_
 simp only [Function.comp, AV.pub, Vl.cs_pub]
theorem sizeVs_mem : ∀ (l : List Vl) (v : Vl), v ∈ l → v.size ≤ sizeVs l
 | [], _, h => by simp at h
 | a :: r, v, h => by
  rcases List.mem_cons.1 h with rfl | h
  ·
   simp [sizeVs]
  ·
   have := sizeVs_mem r v h
   simp [sizeVs]; omega
theorem sizeFs_mem : ∀ (l : List (ByteArray × Vl)) (p : ByteArray × Vl), p ∈ l → p.2.size ≤ sizeFs l
 | [], _, h => by simp at h
 | (n, a) :: r, p, h => by
  rcases List.mem_cons.1 h with rfl | h
  ·
   simp [sizeFs]
  ·
   have := sizeFs_mem r p h
   simp [sizeFs]; omega
theorem Vl.size_pos (v : Vl) : 0 < v.size := by cases v; simp [Vl.size]; omega
theorem sizeVs_len : ∀ l : List Vl, l.length ≤ sizeVs l
 | [] => Nat.le_refl _
 | v :: r => by have := sizeVs_len r; have := v.size_pos; simp [sizeVs]; omega
theorem sizeFs_len : ∀ l : List (ByteArray × Vl), l.length ≤ sizeFs l
 | [] => Nat.le_refl _
 | (n, v) :: r => by have := sizeFs_len r; have := v.size_pos; simp [sizeFs]; omega
theorem Vl.size_eq (v : Vl) : v.size = 1 + sizeVs v.list + sizeFs v.fields := by cases v; simp [Vl.size, Vl.list, Vl.fields]
theorem parts_len (v : Vl) : v.list.length < v.size ∧ v.fields.length < v.size ∧ (partsV v).length < v.size := by
 have e := v.size_eq
 have h1 := sizeVs_len v.list
 have h2 := sizeFs_len v.fields
 refine ⟨by omega, by omega, ?_⟩
 unfold partsV
 split
 ·
  omega
 ·
  split
  ·
   simp; omega
  ·
   simp; omega
mutual
def Vl.wide : Vl → Bool
 | .mk _ _ _ _ l f => decide (l.length ≤ 1000000000000) && decide (f.length ≤ 1000000000000) && wideVs l && wideFs f
def wideVs : List Vl → Bool
 | [] => true
 | v :: r => v.wide && wideVs r
def wideFs : List (ByteArray × Vl) → Bool
 | [] => true
 | (_, v) :: r => v.wide && wideFs r
end
theorem wideVs_iff : ∀ l, wideVs l = true ↔ ∀ v ∈ l, v.wide = true
 | [] => by simp [wideVs]
 | v :: r => by simp [wideVs, wideVs_iff r]
theorem wideFs_iff : ∀ l, wideFs l = true ↔ ∀ p ∈ l, p.2.wide = true
 | [] => by simp [wideFs]
 | (n, v) :: r => by simp [wideFs, wideFs_iff r]
theorem Vl.wide_iff (v : Vl) : v.wide = true ↔ v.list.length ≤ 1000000000000 ∧ v.fields.length ≤ 1000000000000 ∧ (∀ x ∈ v.list, x.wide = true) ∧ ∀ p ∈ v.fields, p.2.wide = true := by
 cases v; simp only [Vl.wide, Bool.and_eq_true, decide_eq_true_eq, wideVs_iff, wideFs_iff, Vl.list, Vl.fields, and_assoc]
theorem wide_of_size : ∀ (k : Nat) (v : Vl), v.size ≤ k → v.size ≤ 1000000000000 → v.wide = true
 | 0, v, h, _ => by have := v.size_pos; omega
 | k + 1, v, h, h2 => by
  have e := v.size_eq
  obtain ⟨a, b, _⟩ := parts_len v
  refine v.wide_iff.2 ⟨by omega, by omega, fun x hx => ?_, fun p hp => ?_⟩
  ·
   have := sizeVs_mem _ _ hx; exact wide_of_size k x (by omega) (by omega)
  ·
   have := sizeFs_mem _ _ hp; exact wide_of_size k p.2 (by omega) (by omega)
mutual
def Vl.depth : Vl → Nat
 | .mk _ _ _ _ l f => 1 + max (depthVs l) (depthFs f)
def depthVs : List Vl → Nat
 | [] => 0
 | t :: r => max t.depth (depthVs r)
def depthFs : List (ByteArray × Vl) → Nat
 | [] => 0
 | (_, t) :: r => max t.depth (depthFs r)
end
structure Part where
 kind : Int
 index : Int
 name : ByteArray
structure Sch where
 name : ByteArray
 version : Int
 type : Ty
@[go_sem] theorem take_map {α : Type} (f : α → AV) (l : List α) (n : Nat) : (l.map f).take n = (l.take n).map f := List.map_take.symm
@[go_sem] theorem drop_map {α : Type} (f : α → AV) (l : List α) (n : Nat) : (l.map f).drop n = (l.drop n).map f := List.map_drop.symm
attribute [go_sem] List.length_map List.take_length
def avI (x : Int) : AV := .val (.int .i64 x)
@[go_sem] theorem avI_eq (x : Int) : avI x = .val (.int .i64 x) := rfl
@[go_sem] theorem avI_cells (l : List (Int)) : (∀ y ∈ l.map avI, y.cells.length = 1) ↔ True := iff_true_intro fun y hy => by
 obtain ⟨x, _, rfl⟩ := List.mem_map.1 hy
 simp +decide only [go_sem]
@[go_sem] theorem avI_ob (l : List (Int)) : (∀ y ∈ l.map avI, y.cells.length = 1 ∧ notTup y = true) ↔ True := iff_true_intro fun y hy => by
 obtain ⟨x, _, rfl⟩ := List.mem_map.1 hy
 simp +decide only [go_sem]
@[go_sem] theorem avI_under (nb nr nl : Nat) (l : List (Int)) : (∀ y ∈ l.map avI, Under nb nr nl y) ↔ True := iff_true_intro fun y hy => by
 obtain ⟨x, _, rfl⟩ := List.mem_map.1 hy
 exact .val _
@[go_sem] theorem avI_pub (l : List (Int)) : (l.map avI).map AV.pub = l.map avI := by
 rw [List.map_map]
 refine List.map_congr_left fun x _ => ?_
 simp +decide only [Function.comp, go_sem]
def avS (x : ByteArray) : AV := .val (.string x)
@[go_sem] theorem avS_eq (x : ByteArray) : avS x = .val (.string x) := rfl
@[go_sem] theorem avS_cells (l : List (ByteArray)) : (∀ y ∈ l.map avS, y.cells.length = 1) ↔ True := iff_true_intro fun y hy => by
 obtain ⟨x, _, rfl⟩ := List.mem_map.1 hy
 simp +decide only [go_sem]
@[go_sem] theorem avS_ob (l : List (ByteArray)) : (∀ y ∈ l.map avS, y.cells.length = 1 ∧ notTup y = true) ↔ True := iff_true_intro fun y hy => by
 obtain ⟨x, _, rfl⟩ := List.mem_map.1 hy
 simp +decide only [go_sem]
@[go_sem] theorem avS_under (nb nr nl : Nat) (l : List (ByteArray)) : (∀ y ∈ l.map avS, Under nb nr nl y) ↔ True := iff_true_intro fun y hy => by
 obtain ⟨x, _, rfl⟩ := List.mem_map.1 hy
 exact .val _
@[go_sem] theorem avS_pub (l : List (ByteArray)) : (l.map avS).map AV.pub = l.map avS := by
 rw [List.map_map]
 refine List.map_congr_left fun x _ => ?_
 simp +decide only [Function.comp, go_sem]
def avV (x : Vl) : AV := .agg x.cs
@[go_sem] theorem avV_eq (x : Vl) : avV x = .agg x.cs := rfl
@[go_sem] theorem avV_cells (l : List (Vl)) : (∀ y ∈ l.map avV, y.cells.length = 6) ↔ True := iff_true_intro fun y hy => by
 obtain ⟨x, _, rfl⟩ := List.mem_map.1 hy
 simp +decide only [go_sem]
@[go_sem] theorem avV_ob (l : List (Vl)) : (∀ y ∈ l.map avV, y.cells.length = 6 ∧ notTup y = true) ↔ True := iff_true_intro fun y hy => by
 obtain ⟨x, _, rfl⟩ := List.mem_map.1 hy
 simp +decide only [go_sem]
@[go_sem] theorem avV_under (nb nr nl : Nat) (l : List (Vl)) : (∀ y ∈ l.map avV, Under nb nr nl y) ↔ True := iff_true_intro fun y hy => by
 obtain ⟨x, _, rfl⟩ := List.mem_map.1 hy
 exact .agg (x.under _ _ _)
@[go_sem] theorem avV_pub (l : List (Vl)) : (l.map avV).map AV.pub = l.map avV := by
 rw [List.map_map]
 refine List.map_congr_left fun x _ => ?_
 simp +decide only [Function.comp, go_sem]
def avT (x : Ty) : AV := .agg x.cs
@[go_sem] theorem avT_eq (x : Ty) : avT x = .agg x.cs := rfl
@[go_sem] theorem avT_cells (l : List (Ty)) : (∀ y ∈ l.map avT, y.cells.length = 7) ↔ True := iff_true_intro fun y hy => by
 obtain ⟨x, _, rfl⟩ := List.mem_map.1 hy
 simp +decide only [go_sem]
@[go_sem] theorem avT_ob (l : List (Ty)) : (∀ y ∈ l.map avT, y.cells.length = 7 ∧ notTup y = true) ↔ True := iff_true_intro fun y hy => by
 obtain ⟨x, _, rfl⟩ := List.mem_map.1 hy
 simp +decide only [go_sem]
@[go_sem] theorem avT_under (nb nr nl : Nat) (l : List (Ty)) : (∀ y ∈ l.map avT, Under nb nr nl y) ↔ True := iff_true_intro fun y hy => by
 obtain ⟨x, _, rfl⟩ := List.mem_map.1 hy
 exact .agg (x.under _ _ _)
@[go_sem] theorem avT_pub (l : List (Ty)) : (l.map avT).map AV.pub = l.map avT := by
 rw [List.map_map]
 refine List.map_congr_left fun x _ => ?_
 simp +decide only [Function.comp, go_sem]
def avF (x : ByteArray × Vl) : AV := .agg (.val (.string x.1) :: x.2.cs)
@[go_sem] theorem avF_eq (x : ByteArray × Vl) : avF x = .agg (.val (.string x.1) :: x.2.cs) := rfl
@[go_sem] theorem avF_cells (l : List (ByteArray × Vl)) : (∀ y ∈ l.map avF, y.cells.length = 7) ↔ True := iff_true_intro fun y hy => by
 obtain ⟨x, _, rfl⟩ := List.mem_map.1 hy
 simp +decide only [go_sem]
@[go_sem] theorem avF_ob (l : List (ByteArray × Vl)) : (∀ y ∈ l.map avF, y.cells.length = 7 ∧ notTup y = true) ↔ True := iff_true_intro fun y hy => by
 obtain ⟨x, _, rfl⟩ := List.mem_map.1 hy
 simp +decide only [go_sem]
@[go_sem] theorem avF_under (nb nr nl : Nat) (l : List (ByteArray × Vl)) : (∀ y ∈ l.map avF, Under nb nr nl y) ↔ True := iff_true_intro fun y hy => by
 obtain ⟨x, _, rfl⟩ := List.mem_map.1 hy
 exact encFs_under nb nr nl [x] _ (by simp [encFs, avF])
@[go_sem] theorem avF_pub (l : List (ByteArray × Vl)) : (l.map avF).map AV.pub = l.map avF := by
 rw [List.map_map]
 refine List.map_congr_left fun x _ => ?_
 simp +decide only [Function.comp, go_sem]
def avTF (x : Int × ByteArray × Int × Ty × List Vl) : AV := .agg (.val (.int .i64 x.1) :: .val (.string x.2.1) :: .val (.int .i64 x.2.2.1) :: (x.2.2.2.1.cs ++ [.list (x.2.2.2.2.map avV) .none]))
@[go_sem] theorem avTF_eq (x : Int × ByteArray × Int × Ty × List Vl) : avTF x = .agg (.val (.int .i64 x.1) :: .val (.string x.2.1) :: .val (.int .i64 x.2.2.1) :: (x.2.2.2.1.cs ++ [.list (x.2.2.2.2.map avV) .none])) := rfl
@[go_sem] theorem avTF_cells (l : List (Int × ByteArray × Int × Ty × List Vl)) : (∀ y ∈ l.map avTF, y.cells.length = 11) ↔ True := iff_true_intro fun y hy => by
 obtain ⟨x, _, rfl⟩ := List.mem_map.1 hy
 simp +decide only [go_sem]
@[go_sem] theorem avTF_ob (l : List (Int × ByteArray × Int × Ty × List Vl)) : (∀ y ∈ l.map avTF, y.cells.length = 11 ∧ notTup y = true) ↔ True := iff_true_intro fun y hy => by
 obtain ⟨x, _, rfl⟩ := List.mem_map.1 hy
 simp +decide only [go_sem]
@[go_sem] theorem avTF_under (nb nr nl : Nat) (l : List (Int × ByteArray × Int × Ty × List Vl)) : (∀ y ∈ l.map avTF, Under nb nr nl y) ↔ True := iff_true_intro fun y hy => by
 obtain ⟨x, _, rfl⟩ := List.mem_map.1 hy
 exact encTFs_under nb nr nl [x] _ (by simp [encTFs, avTF, encVs_map]; intros; rfl)
@[go_sem] theorem avTF_pub (l : List (Int × ByteArray × Int × Ty × List Vl)) : (l.map avTF).map AV.pub = l.map avTF := by
 rw [List.map_map]
 refine List.map_congr_left fun x _ => ?_
 simp +decide only [Function.comp, go_sem]
@[go_sem] theorem encVs_av (l : List Vl) : encVs l = l.map avV := encVs_map l
@[go_sem] theorem encTs_av (l : List Ty) : encTs l = l.map avT := encTs_map l
@[go_sem] theorem encFs_av (l : List (ByteArray × Vl)) : encFs l = l.map avF := encFs_map l
@[go_sem] theorem encTFs_av (l : List (Int × ByteArray × Int × Ty × List Vl)) : encTFs l = l.map avTF := by
 rw [encTFs_map]
 refine List.map_congr_left fun x _ => ?_
 rw [encVs_av]; rfl
@[go_sem] theorem words_av (l : List ByteArray) : (l.map fun x => AV.val (.string x)) = l.map avS := rfl
@[go_sem] theorem Vl.under_mem (nb nr nl : Nat) (v : Vl) : (∀ x ∈ v.cs, Under nb nr nl x) ↔ True := iff_true_intro (v.under nb nr nl)
@[go_sem] theorem Ty.under_mem (nb nr nl : Nat) (v : Ty) : (∀ x ∈ v.cs, Under nb nr nl x) ↔ True := iff_true_intro (v.under nb nr nl)
@[go_sem] theorem mem_app_all {α : Type} (p : α → Prop) (l m : List α) : (∀ x ∈ l ++ m, p x) ↔ (∀ x ∈ l, p x) ∧ ∀ x ∈ m, p x := List.forall_mem_append
theorem rt {α : Type} {x r : α} {F G C p : Prop} (h : some x = some r) (f : F) (hcalm : C) (hO : G) (k : some x = some r → F → C → G → p := by
  intro h hs hcalm hO
  apply awp_ret; simp +decide only [go_sem, Nat.reduceAdd, hs]
  have hgt := Option.some.inj h; subst hgt
  first | refine fin_q0 hcalm rfl hO.pre (by simp +decide only [go_sem, Nat.reduceAdd]) ⟨?_, ?_⟩ | refine fin_q hcalm rfl hO.pre (by simp +decide only [go_sem, Nat.reduceAdd]) ⟨?_, ?_⟩
  all_goals first | rfl | (simp +decide only [go_sem, Nat.reduceAdd, hs]; done) | (simp +decide only [go_sem, Nat.reduceAdd, Vl.cs, Ty.cs, hs]; done)) : p := k h f hcalm hO
theorem hv {p F : Prop} (f : F) (h : F → p := by intro hs; first | rfl | (simp +decide only [go_sem, Nat.reduceAdd, hs]; done) | (simp +decide only [go_sem, Nat.reduceAdd, Vl.cs, Ty.cs, hs]; done)) : p := h f
theorem Ty.cs_eqs (t : Ty) : t.cs = [.val (.int .i64 t.kind), .val (.int .i64 t.min), .val (.int .i64 t.max), .val (.int .i64 t.scale), .list (t.words.map avS) .none, .list (t.elem.map avT) .none, .list (t.fields.map avTF) .none] := by
 cases t; rw [Ty.cs, encTs_av, encTFs_av]; rfl
theorem Vl.cs_eqs (v : Vl) : v.cs = [.val (.int .i64 v.kind), .val (.int .i64 v.int), .val (.int .i64 v.scale), .val (.string v.text), .list (v.list.map avV) .none, .list (v.fields.map avF) .none] := by
 rw [v.cs_eq, encVs_av, encFs_av]
theorem sValid_at2 (w0 : World) (B : List (List AV)) (Rw : List RowA) (L : List LoopA) (hT : Lib.Utf8Tabs 0 1 w0) (s : ByteArray) (hs : s.size ≤ maxLen) :
  ACalls Tryz.prog w0 127 [.val (.string s)] ⟨B, Rw, L⟩ fun v s' => v = .val (.bool (Lib.validD s.data.toList)) ∧ s' = ⟨B, Rw, L⟩ := sValid_at w0 _ hT s hs
theorem sCompare_at2 (w0 : World) (B : List (List AV)) (Rw : List RowA) (L : List LoopA) (a b : ByteArray) :
  ACalls Tryz.prog w0 95 [.val (.string a), .val (.string b)] ⟨B, Rw, L⟩ fun v s' => v = .val (.int .i64 (cmpS a b)) ∧ s' = ⟨B, Rw, L⟩ := sCompare_at w0 _ a b
attribute [go_sem] fillA fillOk placeT Nat.mul_one Nat.zero_add Nat.add_zero Option.isSome_some List.getElem?_cons_zero List.getElem?_cons_succ
abbrev ALp : Prop := (∀ (α : Type) (l m : List α), List.append l m = l ++ m) ∧ (∀ (α : Type) (a : α) (l m : List α), (a :: l) ++ m = a :: (l ++ m)) ∧ ∀ (α : Type) (l : List α), [] ++ l = l
theorem al {F : Prop} (h : F) : ALp ∧ F := ⟨⟨fun _ _ _ => rfl, fun _ _ _ _ => rfl, fun _ _ => rfl⟩, h⟩
theorem le_ {p : Prop} (h : p := by first | rfl | simp only [List.length_append, List.length_cons, List.length_nil, List.length_map, Nat.zero_add, Nat.add_zero]) : p := h
theorem px {p : Prop} (h : p := by first | exact List.prefix_append _ _ | exact List.prefix_refl _) : p := h
theorem nq {p : Prop} (h : p := by first | assumption | omega | (simp only [List.length_set] at *; omega)) : p := h
theorem owf {p V : Prop} {Rw rows : List RowA} {l : List (Nat × Nat × Ev.Own)} {ho : Ev.Own} {v : List VE} (u : V) (hO : Owns Rw rows l ho v) (h : V → Rw.length ≤ rows.length → p := by
  intro u hl
  (simp +decide only [go_sem, Nat.reduceAdd, calmE]) <;> (try (repeat' apply And.intro)) <;> first | omega | assumption | exact u _ _ _ (by omega) (by omega) (by omega)) : p := h u hO.len
theorem ln {p : Prop} {Rw rows Rw' rows' : List RowA} {l l' : List (Nat × Nat × Ev.Own)} {ho ho' : Ev.Own} {v v' : List VE} (h1 : Owns Rw rows l ho v) (h2 : Owns Rw' rows' l' ho' v') (h : Rw.length ≤ rows.length → Rw'.length ≤ rows'.length → p := by intro _ _; first | exact Nat.le_refl _ | omega) : p := h h1.len h2.len
theorem dk {F p q : Prop} (m c1 c2 : Nat) (L : List Nat) (f : F) {P : Program} (hm : P.follows .mixedOrders = true) (k : q) (h : Tg (m, c1, c2, L) → F → P.follows .mixedOrders = true → q → p := by
  intro tt hs hm hq
  refine awp_drawC tt hm (by kernel_rfl) ?_
  rw [evK_succ]; simp +decide only [go_sem, Nat.reduceAdd, hs]
  first | (refine is_callK ?_; exact hq) | ((repeat' apply And.intro) <;> first | (refine is_callK ?_; exact hq) | (clear hq; exact cl))) : p := h tg f hm k
theorem dn {F p q : Prop} (f : F) {A K : Env → St → Prop} (hK : ∀ e s, A e s → K e s) (k : q) (h : F → (∀ e s, A e s → K e s) → q → p := by
  intro hs hK hq
  rw [evK_succ]; simp +decide only [go_sem, Nat.reduceAdd, hs]
  (repeat' with_reducible apply And.intro) <;> first | (rw [evK_succ]; simp +decide only [go_sem, Nat.reduceAdd, hs]) | (clear hq; exact cl)
  first | (refine hK _ _ ?_; exact hq) | ((repeat' apply And.intro) <;> first | (refine hK _ _ ?_; exact hq) | (clear hq; exact cl))) : p := h f hK k
theorem rT {α : Type} {x r : α} {F G C p : Prop} (h : x = r) (f : F) (hcalm : C) (hO : G) (k : x = r → F → C → G → p := by
  intro h hs hcalm hO
  apply awp_ret; simp +decide only [go_sem, Nat.reduceAdd, hs]
  subst h
  first | refine fin_q0 hcalm rfl hO.pre (by simp +decide only [go_sem, Nat.reduceAdd]) ⟨?_, rfl⟩ | refine fin_q hcalm rfl hO.pre (by simp +decide only [go_sem, Nat.reduceAdd]) ⟨?_, rfl⟩
  first | rfl | (simp +decide only [go_sem, Nat.reduceAdd, hs]; done) | (simp +decide only [go_sem, Nat.reduceAdd, Vl.cs, Ty.cs, hs]; done)) : p := k h f hcalm hO
end Go.Proofs.YtkpooohjodojoaaGreatDoor
namespace Go.Ev
open Go Go.RowKit Go.Shelf
section
variable {P : Program} {w0 : World} {st : St}
def infoB (P : Program) (t : TypeId) (size bytes : Nat) : Bool :=
 match P.info? t with
 | some i => (i.size == size) && (i.bytes == bytes) && (match i.zero with | some z => z.cells.size == size | none => false)
 | none => false
theorem infoB_spec {t : TypeId} {size bytes : Nat} (h : infoB P t size bytes = true) : ∃ i0 z, P.info? t = some i0 ∧ i0.zero = some z ∧ i0.size = size ∧ i0.bytes = bytes ∧ z.cells.size = size := by
 unfold infoB at h
 cases hi : P.info? t with
 | none => simp [hi] at h
 | some i =>
  simp only [hi, Bool.and_eq_true, beq_iff_eq] at h
  cases hz : i.zero with
  | none => simp [hz] at h
  | some z =>
   simp only [hz, beq_iff_eq] at h
   exact ⟨i, z, rfl, hz, h.1.1, h.1.2, h.2⟩
end
def cloneO (n : Nat) (rows : List RowA) : Own := if n = 0 then .full else .row rows.length
def cloneR (n sz : Nat) (rows : List RowA) : List RowA := if n = 0 then rows else rows ++ [.grow n sz]
section
variable {P : Program} {w0 : World} {st : St} {M : Mem} {w : World}
theorem RelSt.adoptRow (h : RelSt w0 M st w) {w' : World} (hb : Below w.heap.size w w') {g cap k sz : Nat} {cs : Array Value} {ty : TypeId} (hg : w.heap.size ≤ g) (hcs : w'.heap[g]? = some (.cells cs ty (0, 0))) (hm : cap ≤ maxLen) (hk : k ≤ cap) (hs : cs.size = cap * sz) :
  RelSt w0 (M.addRow g cap k sz (k * sz)) { st with rows := st.rows ++ [.grow k sz] } w' ∧ Ext w0 M w (M.addRow g cap k sz (k * sz)) w' := by
 have hgw : g < w'.heap.size := (Array.getElem?_eq_some_iff.1 hcs).1
 have tp' : ∀ b, b < w.heap.size → (M.addRow g cap k sz (k * sz)).top b = M.top b := fun b hb => by simp [Mem.addRow]; omega
 have hh : ∀ x, x < w.heap.size → w'.heap[x]? = w.heap[x]? := hb.block
 have hko : KeepsObj w w' := fun x o h1 _ => (hh x (Array.getElem?_eq_some_iff.1 h1).1).trans h1
 have old : ∀ i, i < M.NR → (M.addRow g cap k sz (k * sz)).fr i = M.fr i ∧ (M.addRow g cap k sz (k * sz)).blk i = M.blk i ∧ (M.addRow g cap k sz (k * sz)).cap i = M.cap i ∧ (M.addRow g cap k sz (k * sz)).rsz i = M.rsz i := by
  intro i hi
  have : ¬ i = M.NR := by omega
  simp [Mem.addRow, this]
 have hx : Ext w0 M w (M.addRow g cap k sz (k * sz)) w' :=
  ⟨Nat.le_refl _, fun _ _ => rfl, Nat.le_succ _, fun i hi => by obtain ⟨a1, a2, a3, a4⟩ := old i hi; exact ⟨by omega, fun _ => ⟨a2, a3, a4⟩⟩, fun x off v hi hc => by
   have hlt := World.block_lt_of_cell? w _ hc
   refine ⟨?_, hi.imp id fun q => by rw [tp' x hlt]; exact q⟩
   unfold World.cell? at hc ⊢
   simp only [hh x hlt] at hc ⊢
   exact hc, hb.size, Nat.le_refl _, fun _ _ => rfl, fun _ h1 h2 => absurd h2 (Nat.not_lt.2 h1), fun x o h1 h2 _ => hko x o h1 h2, fun b q1 q => ⟨hh b q1, ⟨q.1, fun i hi => by
    by_cases c : i = M.NR
    ·
     subst c; simp only [Mem.addRow, if_true]; omega
    ·
     have hi' : i < M.NR := by simp only [Mem.addRow] at hi; omega
     rw [(old i hi').2.1]; exact q.2.1 i hi', q.2.2⟩, tp' b q1⟩⟩
 have hne : ∀ l, l < M.N → M.bx l ≠ g := fun l hl => by have := h.box_lt hl; omega
 refine ⟨⟨h.below.trans (hb.mono h.base_le), h.N, by simp [Mem.addRow, h.NR], fun b hb' => ?_, h.inj, fun l c hl => ?_, fun id y hid => ?_, fun i j hi hj hij => ?_, h.loop.mono hx rfl hko⟩, hx⟩
 ·
  have := hb.size
  have : (M.addRow g cap k sz (k * sz)).top b = M.top b := by simp [Mem.addRow]; omega
  rw [this]
  exact h.top b (by omega)
 ·
  obtain ⟨a1, a2, c', ty', a3, a4, a5, a6⟩ := h.box l c hl
  have hlt := (Array.getElem?_eq_some_iff.1 a3).1
  exact ⟨a1, by rw [show (M.addRow g cap k sz (k * sz)).bx l = M.bx l from rfl, tp' _ hlt]; exact a2, c', ty', by rw [show (M.addRow g cap k sz (k * sz)).bx l = M.bx l from rfl, hh _ hlt]; exact a3, a4, a5, fun i h1 h2 => (a6 i h1 h2).mono hx⟩
 ·
  by_cases e1 : id = M.NR
  ·
   subst e1
   simp only [h.NR, List.getElem?_concat_length, Option.some.injEq] at hid
   subst hid
   have q : (M.addRow g cap k sz (k * sz)).fr M.NR = k ∧ (M.addRow g cap k sz (k * sz)).blk M.NR = g ∧ (M.addRow g cap k sz (k * sz)).cap M.NR = cap ∧ (M.addRow g cap k sz (k * sz)).rsz M.NR = sz ∧ (M.addRow g cap k sz (k * sz)).top g = k * sz := by simp [Mem.addRow]
   obtain ⟨q1, q2, q3, q4, q5⟩ := q
   simp only [RowOk, q1, q2, q3, q4, q5]
   have hbl := h.base_le
   exact ⟨trivial, trivial, by omega, trivial, hne, hm, hk, cs, ty, hcs, hs⟩
  ·
   have hid' : id < M.NR := by
    have : id < (st.rows ++ [RowA.grow k sz]).length := (List.getElem?_eq_some_iff.1 hid).1
    have hN := h.NR
    simp at this
    omega
   rw [List.getElem?_append_left (by rw [← h.NR]; exact hid')] at hid
   have hk := h.row id y hid
   obtain ⟨o1, o2, o3, o4⟩ := old id hid'
   exact hk.keep hx o1 o4 o2 o3 (tp' _ hk.lt) hk.ne (hh _ hk.lt)
 ·
  have hN : (M.addRow g cap k sz (k * sz)).NR = M.NR + 1 := rfl
  rw [hN] at hi hj
  have new : (M.addRow g cap k sz (k * sz)).blk M.NR = g := by simp [Mem.addRow]
  by_cases e1 : i = M.NR
  ·
   by_cases e2 : j = M.NR
   ·
    omega
   ·
    subst e1
    rw [new, (old j (by omega)).2.1] at hij
    have := h.row_lt (i := j) (by omega)
    omega
  ·
   by_cases e2 : j = M.NR
   ·
    subst e2
    rw [new, (old i (by omega)).2.1] at hij
    have := h.row_lt (i := i) (by omega)
    omega
   ·
    rw [(old i (by omega)).2.1, (old j (by omega)).2.1] at hij
    exact h.rowinj i j (by omega) (by omega) hij
theorem own_row {w' : World} {e : TypeId} {sz : Nat} {v' : Value} {n : Nat} {us : Nat → Value} {xs : List AV} (hst : RelSt w0 M st w) (hb : Below w.heap.size w w') (ho : w'.ownsRow w.heap.size e sz v' n (flat us n)) (hn : xs.length = n) (h0 : n ≠ 0)
  (hus : ∀ i, i < n → (us i).cells.size = sz) (hR : ∀ i (hi : i < xs.length), R w0 M w (us i) xs[i]) : ∃ M', Ext w0 M w M' w' ∧ RelSt w0 M' { st with rows := st.rows ++ [.grow n sz] } w' ∧ R w0 M' w' v' (.list xs (.row st.rows.length)) := by
 subst hn
 obtain ⟨h1, h2⟩ := ho
 rcases h2 with ⟨rfl, h0'⟩ | ⟨g, cap, cur, rfl, hg, hcur, hc1, hc2, hc3, hc4⟩
 ·
  exact absurd h0' h0
 ·
  obtain ⟨r1, r2⟩ := hst.adoptRow hb hg hcur hc2 hc1 hc3
  have hN := hst.NR
  refine ⟨_, r2, r1, .list sz us hc1 hc2 (fun i hi => ⟨hus i hi, fun j hj => ?_⟩) (fun i hi => (hR i hi).mono r2) ⟨by simp [Mem.addRow, hN], by simp [Mem.addRow, hN], fun _ => by simp [Mem.addRow, hN]⟩⟩
  have hlt : i * sz + j < xs.length * sz := by
   have : (i + 1) * sz ≤ xs.length * sz := Nat.mul_le_mul_right _ hi
   rw [Nat.succ_mul] at this; omega
  refine ⟨.inr (by simp only [Mem.addRow, if_true, Nat.zero_add]; exact hlt), ?_⟩
  have hf := flat_get hus i hi j hj
  rw [← hf, ← hc4, List.getElem?_take_of_lt hlt, Array.getElem?_toList]
  simp [World.cell?, hcur]
theorem clone_none {ρ : Ren} (L : Go.Proofs.SlLaysE0.n41 P ρ) (i0 : TypeInfo) (size : Nat) (hi : P.info? (ρ.t 23) = some i0) (hz1 : i0.size = size) (z23 : ∀ w, (Go.sizeOf (ρ.t 23)).run P w = .ok size w) (a : Addr) (c : Nat) (w : World) :
  Calls P (ρ.f 41) #[.slice (some a) 0 c] w fun e w' => ∃ b, e = .returned (.slice (some b) 0 0) ∧ Below w.heap.size w w' := by
 have mixed := L.mixed; have t4 := L.t4; have a4 := L.a4; have z4 := L.z4; have v4 := L.v4; have t22 := L.t22; have a22 := L.a22; have z22 := L.z22; have v22 := L.v22
 have q22 : ∀ (w : World) (a : Option Addr) (n c n' c' : Nat), (binOp .eql (ρ.t 22) (.slice a n c) (.slice none n' c')).run P w = .ok (.bool a.isNone) w := fun w a n c n' c' => Lib.run_eql_slice_nil w _ _ a n c n' c' L.t22
 have u22 : ∀ w, Sem.run P (underlying (ρ.t 22)) w = .ok (TypeDesc.slice (ρ.t 23)) w := run_underlying t22
 have hgo : ∀ (w : World) (ty : TypeId) (ad : Addr), (Builtin.append_ #[ρ.t 22, ρ.t 22] ty #[.slice (some ad) 0 0, .slice (some a) 0 c]).run P w = .ok (.slice (some ad) 0 0) w := fun w ty ad => by
  simp [Builtin.append_, run_underlying t22, sizeOf, typeInfo, hi, hz1, storeCells, Builtin.lenOf, Builtin.firstCells, loadCells, loadCellsFrom]
 obtain ⟨_, _, FG⟩ := L.f41
 go_enter FG, Go.Proofs.SlBodyN.n41_ntmps ρ
 go_wp2_with (at_builtin; refine Lib.wpList_append_run _ rfl _ _ (ρ.t 22) (ρ.t 22) rfl _ _ rfl rfl _ _ (hgo _ _ _) ?_)
 go_wp2
 go_ret
 exact ⟨_, rfl, (Below.refl _ w).alloc (Nat.le_refl _) _⟩
theorem clone_own {ρ : Ren} (L : Go.Proofs.SlLaysE0.n41 P ρ) (hen : Enters P (ρ.f 41)) (size bytes : Nat) (hinf : infoB P (ρ.t 23) size bytes = true) (hsz : 0 < size) (z23 : ∀ w, (Go.sizeOf (ρ.t 23)).run P w = .ok size w) {xs : List AV} {o : Own}
  (hx : ∀ y ∈ xs, y.cells.length = size ∧ notTup y = true) (hbig : xs.length * bytes ≤ 140737488355328) :
  ACalls P w0 (ρ.f 41) [.list xs o] st fun r s => r = .list xs (cloneO xs.length st.rows) ∧ s = { st with rows := cloneR xs.length size st.rows } := by
 obtain ⟨i0, z, hi, hz0, hz1, hz2, hzs⟩ := infoB_spec hinf
 refine ⟨hen, fun M w vals hst hrow => ?_⟩
 obtain ⟨v, rfl⟩ : ∃ v, vals = #[v] := by
  have := hrow.1
  simp only [List.length_cons, List.length_nil] at this
  exact Array.size_eq_one_iff.1 this
 have hv : R w0 M w v (.list xs o) := hrow.2 0 (by simp) (by simp)
 have zero : ∀ (a : Addr) (c : Nat), xs = [] → Calls P (ρ.f 41) #[.slice (some a) 0 c] w fun en w' => ∃ v M' r st', en = .returned v ∧ (r = .list xs (cloneO xs.length st.rows) ∧ st' = { st with rows := cloneR xs.length size st.rows }) ∧ Ext w0 M w M' w' ∧ RelSt w0 M' st' w' ∧ R w0 M' w' v r := fun a c hxs => by
  subst hxs
  refine (clone_none L i0 size hi hz1 z23 a c w).mono ?_
  rintro en w' ⟨b, rfl, hbel⟩
  obtain ⟨r1, r2⟩ := hst.later hbel w.heap.size 0 (Nat.le_refl _) (.inr rfl)
  exact ⟨_, _, _, st, rfl, ⟨rfl, rfl⟩, r2, r1, .emp (fun id => by simp [cloneO])⟩
 cases hv with
 | nil ho =>
  refine (Go.Proofs.AnyE.slices_Clone_nil L 0 0 w).mono ?_
  rintro en w' ⟨rfl, rfl⟩
  exact ⟨_, M, _, st, rfl, ⟨rfl, rfl⟩, .refl _ _ _, hst, .nil (fun id => by simp [cloneO])⟩
 | @emp ad _ ho => exact zero ad 0 rfl
 | @list b off cap _ _ sz us hc hm hcell hu ho =>
  by_cases h0 : xs = []
  ·
   have := zero ⟨b, off, none⟩ cap h0
   rw [h0]
   rw [h0] at this
   exact this
  have hn0 : xs.length ≠ 0 := fun q => h0 (List.length_eq_zero_iff.1 q)
  have hus : ∀ i, i < xs.length → (us i).cells.size = size := fun i hi => by
   rw [((hu i hi).cells).1]; exact (hx _ (List.getElem_mem _)).1
  have hcell' : ∀ i, i < xs.length → ∀ j, j < size → w.cell? ⟨b, off + i * size + j, none⟩ = (us i).cells[j]? := fun i hi j hj => by
   have e : sz = size := ((hcell i hi).1).symm.trans (hus i hi)
   subst e
   exact ((hcell i hi).2 j hj).2
  refine (Go.Proofs.AnyE.slices_Clone L i0 z size bytes hi hz0 hz1 hz2 hzs hsz z23 b off xs.length cap (flat us xs.length) w (flat_length hus) (Nat.le_trans hc hm) hbig (fun j u hj => ?_) (fun u hu' => ?_)).mono ?_
  ·
   have := flat_cell hus hsz hcell' j u hj
   rwa [add_none] at this
  ·
   obtain ⟨i, hi', hu2⟩ := List.mem_flatMap.1 hu'
   have hil : i < xs.length := by simpa using hi'
   obtain ⟨k, hk, rfl⟩ := List.mem_iff_getElem.1 hu2
   have hcs := (hu i hil).cells
   have hk' : k < (us i).cells.size := by simpa using hk
   have := hcs.2 k hk' (by rw [← hcs.1]; exact hk')
   rw [Array.getElem_toList]
   refine this.oneCell ((hu i hil).cellsOne (fun vs hvs => ?_) _ (List.getElem_mem _))
   have := (hx _ (List.getElem_mem hil)).2
   rw [hvs] at this; cases this
  ·
   rintro en w' ⟨v', rfl, hown, _, hbel⟩
   obtain ⟨M', x1, x2, x3⟩ := own_row hst hbel hown rfl hn0 hus hu
   refine ⟨v', M', _, _, rfl, ⟨rfl, rfl⟩, x1, ?_, ?_⟩
   ·
    rw [cloneR, if_neg hn0]; exact x2
   ·
    rw [cloneO, if_neg hn0]; exact x3
end
end Go.Ev
namespace Go.Proofs.YtkpooohjodojoaaGreatDoor
open Go Go.RowKit Go.Ev
def sl_Clone_string_ren : Go.Shelf.Ren := ⟨fun | 41 => 57 | n => n, fun | 22 => 26 | 23 => 9 | 4 => 4 | n => n, fun | n => n⟩
theorem sl_Clone_string_lays : Go.Proofs.SlLaysE0.n41 Tryz.prog sl_Clone_string_ren := {
 mixed := by kernel_rfl
 f41 := ⟨Tryz.f57.name, by decide, Tryz.func57.trans (congrArg some (by kernel_rfl))⟩
 t4 := Tryz.underlying4
 a4 := Tryz.isAgg4
 z4 := Tryz.sizeOf4
 v4 := Tryz.zeroValue4
 t22 := Tryz.underlying26
 a22 := Tryz.isAgg26
 z22 := Tryz.sizeOf26
 v22 := Tryz.zeroValue26 }
theorem sl_Clone_string_own (w0 : World) (B : List (List AV)) (Rw : List RowA) (L : List LoopA) (l : List ByteArray) (h : l.length * 16 ≤ 140737488355328) :
  ACalls Tryz.prog w0 57 [.list (l.map avS) .none] ⟨B, Rw, L⟩ fun r s => r = .list (l.map avS) (cloneO l.length Rw) ∧ s = ⟨B, cloneR l.length 1 Rw, L⟩ := by
 have := clone_own (P := Tryz.prog) (w0 := w0) (st := ⟨B, Rw, L⟩) (o := .none) (xs := l.map avS) (ρ := sl_Clone_string_ren) sl_Clone_string_lays (enters_some Tryz.func57 rfl (by decide)) 1 16 (by kernel_rfl) (by decide) Tryz.sizeOf9 (by simp +decide only [go_sem]) (by rw [List.length_map]; exact h)
 rw [List.length_map] at this
 exact this
def sl_Clone_int_ren : Go.Shelf.Ren := ⟨fun | 41 => 183 | n => n, fun | 22 => 56 | 23 => 3 | 4 => 4 | n => n, fun | n => n⟩
theorem sl_Clone_int_lays : Go.Proofs.SlLaysE0.n41 Tryz.prog sl_Clone_int_ren := {
 mixed := by kernel_rfl
 f41 := ⟨Tryz.f183.name, by decide, Tryz.func183.trans (congrArg some (by kernel_rfl))⟩
 t4 := Tryz.underlying4
 a4 := Tryz.isAgg4
 z4 := Tryz.sizeOf4
 v4 := Tryz.zeroValue4
 t22 := Tryz.underlying56
 a22 := Tryz.isAgg56
 z22 := Tryz.sizeOf56
 v22 := Tryz.zeroValue56 }
theorem sl_Clone_int_own (w0 : World) (B : List (List AV)) (Rw : List RowA) (L : List LoopA) (l : List Int) (h : l.length * 8 ≤ 140737488355328) :
  ACalls Tryz.prog w0 183 [.list (l.map avI) .none] ⟨B, Rw, L⟩ fun r s => r = .list (l.map avI) (cloneO l.length Rw) ∧ s = ⟨B, cloneR l.length 1 Rw, L⟩ := by
 have := clone_own (P := Tryz.prog) (w0 := w0) (st := ⟨B, Rw, L⟩) (o := .none) (xs := l.map avI) (ρ := sl_Clone_int_ren) sl_Clone_int_lays (enters_some Tryz.func183 rfl (by decide)) 1 8 (by kernel_rfl) (by decide) Tryz.sizeOf3 (by simp +decide only [go_sem]) (by rw [List.length_map]; exact h)
 rw [List.length_map] at this
 exact this
def sl_Clone_Value_ren : Go.Shelf.Ren := ⟨fun | 41 => 185 | n => n, fun | 22 => 33 | 23 => 52 | 4 => 4 | n => n, fun | n => n⟩
theorem sl_Clone_Value_lays : Go.Proofs.SlLaysE0.n41 Tryz.prog sl_Clone_Value_ren := {
 mixed := by kernel_rfl
 f41 := ⟨Tryz.f185.name, by decide, Tryz.func185.trans (congrArg some (by kernel_rfl))⟩
 t4 := Tryz.underlying4
 a4 := Tryz.isAgg4
 z4 := Tryz.sizeOf4
 v4 := Tryz.zeroValue4
 t22 := Tryz.underlying33
 a22 := Tryz.isAgg33
 z22 := Tryz.sizeOf33
 v22 := Tryz.zeroValue33 }
theorem sl_Clone_Value_own (w0 : World) (B : List (List AV)) (Rw : List RowA) (L : List LoopA) (l : List Vl) (h : l.length * 88 ≤ 140737488355328) :
  ACalls Tryz.prog w0 185 [.list (l.map avV) .none] ⟨B, Rw, L⟩ fun r s => r = .list (l.map avV) (cloneO l.length Rw) ∧ s = ⟨B, cloneR l.length 6 Rw, L⟩ := by
 have := clone_own (P := Tryz.prog) (w0 := w0) (st := ⟨B, Rw, L⟩) (o := .none) (xs := l.map avV) (ρ := sl_Clone_Value_ren) sl_Clone_Value_lays (enters_some Tryz.func185 rfl (by decide)) 6 88 (by kernel_rfl) (by decide) Tryz.sizeOf52 (by simp +decide only [go_sem]) (by rw [List.length_map]; exact h)
 rw [List.length_map] at this
 exact this
end Go.Proofs.YtkpooohjodojoaaGreatDoor
namespace Go.Ev
open Go Go.RowKit Go.Shelf Go.Sort Go.Proofs
theorem fm_len2 {α β : Type} {f : α → List β} {sz : Nat} : ∀ {xs : List α}, (∀ x ∈ xs, (f x).length = sz) → (xs.flatMap f).length = xs.length * sz
 | [], _ => by simp
 | x :: xs, h => by
  rw [List.flatMap_cons, List.length_append, h x (List.mem_cons_self ..), fm_len2 (fun y hy => h y (List.mem_cons_of_mem _ hy)), List.length_cons, Nat.succ_mul, Nat.add_comm]
theorem fm_get2 {α β : Type} {f : α → List β} {sz : Nat} : ∀ {xs : List α}, (∀ x ∈ xs, (f x).length = sz) → ∀ (i : Nat) (hi : i < xs.length) (j : Nat), j < sz → (xs.flatMap f)[i * sz + j]? = (f xs[i])[j]?
 | [], _, i, hi, _, _ => absurd hi (by simp)
 | x :: xs, h, 0, hi, j, hj => by
  rw [List.flatMap_cons, Nat.zero_mul, Nat.zero_add, List.getElem?_append_left (by rw [h x (List.mem_cons_self ..)]; exact hj)]
  rfl
 | x :: xs, h, i + 1, hi, j, hj => by
  have hl := h x (List.mem_cons_self ..)
  rw [List.flatMap_cons, Nat.succ_mul, List.getElem?_append_right (by omega), hl, show i * sz + sz + j - sz = i * sz + j by omega]
  exact fm_get2 (fun y hy => h y (List.mem_cons_of_mem _ hy)) i (by simpa using hi) j hj
abbrev cbL : List UInt8 → List UInt8 → Int := Lib.compareBytes
theorem cb_self : ∀ a, cbL a a = 0
 | [] => rfl
 | x :: a => by simp only [cbL, Lib.compareBytes, UInt8.lt_irrefl, if_false]; exact cb_self a
theorem cb_swap : ∀ a b, cbL b a = - cbL a b
 | [], [] => rfl
 | [], _ :: _ => rfl
 | _ :: _, [] => rfl
 | x :: a, y :: b => by
  have ih := cb_swap a b
  simp only [cbL, Lib.compareBytes] at *
  by_cases h1 : x < y
  ·
   have h2 : ¬ y < x := fun h => by rw [UInt8.lt_iff_toNat_lt] at *; omega
   simp [h1, h2]
  ·
   by_cases h2 : y < x
   ·
    simp [h1, h2]
   ·
    simp only [h1, h2, if_false]; exact ih
theorem cb_trans : ∀ a b c, cbL a b ≤ 0 → cbL b c ≤ 0 → cbL a c ≤ 0 ∧ (cbL a b < 0 ∨ cbL b c < 0 → cbL a c < 0)
 | [], [], c, _, h => ⟨h, fun q => q.elim (fun q => absurd q (by decide)) id⟩
 | [], _ :: _, [], _, h => absurd (show (1 : Int) ≤ 0 from h) (by decide)
 | [], _ :: _, _ :: _, _, _ => ⟨show (-1 : Int) ≤ 0 by decide, fun _ => show (-1 : Int) < 0 by decide⟩
 | _ :: _, [], c, h, _ => absurd (show (1 : Int) ≤ 0 from h) (by decide)
 | _ :: _, _ :: _, [], _, h => absurd (show (1 : Int) ≤ 0 from h) (by decide)
 | x :: a, y :: b, z :: c, h1, h2 => by
  have ih := cb_trans a b c
  simp only [cbL, Lib.compareBytes, UInt8.lt_iff_toNat_lt] at *
  by_cases p1 : x.toNat < y.toNat
  ·
   by_cases p2 : y.toNat < z.toNat
   ·
    have : x.toNat < z.toNat := by omega
    simp [this]
   ·
    by_cases p3 : z.toNat < y.toNat
    ·
     simp [p2, p3] at h2
    ·
     have : x.toNat < z.toNat := by omega
     simp [this]
  ·
   by_cases p4 : y.toNat < x.toNat
   ·
    simp [p1, p4] at h1
   ·
    simp only [p1, p4, if_false] at h1
    by_cases p2 : y.toNat < z.toNat
    ·
     have : x.toNat < z.toNat := by omega
     simp [this]
    ·
     by_cases p3 : z.toNat < y.toNat
     ·
      simp [p2, p3] at h2
     ·
      simp only [p2, p3, if_false] at h2
      have e1 : ¬ x.toNat < z.toNat := by omega
      have e2 : ¬ z.toNat < x.toNat := by omega
      simp only [p1, p4, p2, p3, e1, e2, if_false]
      exact ih h1 h2
theorem cb_swo {α : Type} (nm : α → ByteArray) : SWO (ltOf fun x y : α => Lib.compareBytes (nm x).data.toList (nm y).data.toList) where
 irrefl x := by simp only [ltOf, decide_eq_false_iff_not]; have := cb_self (nm x).data.toList; simp only [cbL] at this; omega
 trans x y z h1 h2 := by
  simp only [ltOf, decide_eq_true_eq] at *
  exact (cb_trans (nm x).data.toList (nm y).data.toList (nm z).data.toList (by simp only [cbL]; omega) (by simp only [cbL]; omega)).2 (.inl h1)
 ntrans x y z h1 h2 := by
  simp only [ltOf, decide_eq_false_iff_not] at *
  have a := cb_swap (nm x).data.toList (nm y).data.toList
  have b := cb_swap (nm y).data.toList (nm z).data.toList
  have c := cb_swap (nm x).data.toList (nm z).data.toList
  have := (cb_trans (nm z).data.toList (nm y).data.toList (nm x).data.toList (by simp only [cbL] at *; omega) (by simp only [cbL] at *; omega)).1
  simp only [cbL] at *
  omega
def sortI (nm : Nat → ByteArray) (n : Nat) : List Nat := (pdq (ltOf fun i j : Nat => Lib.compareBytes (nm i).data.toList (nm j).data.toList) (Array.range n) 0 n (Lib.bitLen n) true true).toList
theorem sortI_spec (nm : Nat → ByteArray) (n : Nat) : (sortI nm n).Perm (List.range n) ∧ ∀ i j, i < j → j < n → ¬ Lib.compareBytes (nm ((sortI nm n)[j]!)).data.toList (nm ((sortI nm n)[i]!)).data.toList < 0 := by
 have h := pdq_sorts (ltOf fun i j : Nat => Lib.compareBytes (nm i).data.toList (nm j).data.toList) (cb_swo nm) (Array.range n) 0 n (Lib.bitLen n) true true (Nat.zero_le _) (by simp) (Or.inl rfl)
 obtain ⟨⟨h1, h2, h3⟩, h4⟩ := h
 have e1 : (pdq (ltOf fun i j : Nat => Lib.compareBytes (nm i).data.toList (nm j).data.toList) (Array.range n) 0 n (Lib.bitLen n) true true).size = n := by simpa using h1
 refine ⟨?_, fun i j hi hj => ?_⟩
 ·
  have e2 : ((pdq (ltOf fun i j : Nat => Lib.compareBytes (nm i).data.toList (nm j).data.toList) (Array.range n) 0 n (Lib.bitLen n) true true).extract 0 n).toList = sortI nm n := by
   unfold sortI
   rw [Array.toList_extract]
   simp only [List.extract, Nat.sub_zero, List.drop_zero]
   exact List.take_of_length_le (by rw [Array.length_toList, e1]; exact Nat.le_refl _)
  rw [e2] at h3
  have e3 : ((Array.range n).extract 0 n).toList = List.range n := by simp [List.extract, Array.toList_range]
  rwa [e3] at h3
 ·
  have := h4 i j (Nat.zero_le _) hi hj
  unfold ltOf at this
  have := of_decide_eq_false this
  unfold sortI
  have g : ∀ k, k < n → ((pdq (ltOf fun i j : Nat => Lib.compareBytes (nm i).data.toList (nm j).data.toList) (Array.range n) 0 n (Lib.bitLen n) true true).toList)[k]! = (pdq (ltOf fun i j : Nat => Lib.compareBytes (nm i).data.toList (nm j).data.toList) (Array.range n) 0 n (Lib.bitLen n) true true)[k]! := fun k hk => by
   rw [getElem!_pos _ k (by rw [Array.length_toList, e1]; exact hk), getElem!_pos _ k (by rw [e1]; exact hk), Array.getElem_toList]
  rw [g i (by omega), g j hj]
  exact this
theorem sortI_length (nm : Nat → ByteArray) (n : Nat) : (sortI nm n).length = n := by simpa using (sortI_spec nm n).1.length_eq
theorem sortI_lt (nm : Nat → ByteArray) (n : Nat) : ∀ i ∈ sortI nm n, i < n := fun i hi => by simpa using (sortI_spec nm n).1.mem_iff.1 hi
def sortL {α : Type} (nm : α → ByteArray) (d : α) (xs : List α) : List α := (sortI (fun i => nm (xs.getD i d)) xs.length).map fun i => xs.getD i d
section
variable {P : Program} {w0 : World} {st : St} {M : Mem} {w : World}
theorem RelSt.setVec (h : RelSt w0 M st w) {id ver sz : Nat} {cs cs' : List AV} {w' : World} (hid : st.rows[id]? = some (.vec ver sz cs)) (hb : Below w0.heap.size w w') (hoth : ∀ b, b < w.heap.size → b ≠ M.blk id → w'.heap[b]? = w.heap[b]?)
  {c' : Array Value} {ty : TypeId} (hc : w'.heap[M.blk id]? = some (.cells c' ty (0, 0))) (hsz : c'.size = M.cap id * sz) (hle : cs'.length ≤ c'.size) (hone : ∀ x ∈ cs', x.one = true) (hR : ∀ i (h1 : i < c'.size) (h2 : i < cs'.length), R w0 M w c'[i] cs'[i]) :
  Ext w0 M w M w' ∧ RelSt w0 M { st with rows := st.rows.set id (.vec ver sz cs') } w' := by
 have hidl : id < st.rows.length := (List.getElem?_eq_some_iff.1 hid).1
 have hidN : id < M.NR := by rw [h.NR]; exact hidl
 obtain ⟨f1, f2, f3, f4, f5, f6, f7, c, ty0, f8, f9, f10, f11, f12⟩ := h.row id _ hid
 have hko : KeepsObj w w' := fun b o h1 h2 => by
  have hlt := (Array.getElem?_eq_some_iff.1 h1).1
  by_cases q : b = M.blk id
  ·
   subst q; rw [f8] at h1; cases h1; cases h2
  ·
   exact (hoth b hlt q).trans h1
 have hx : Ext w0 M w M w' :=
  ⟨Nat.le_refl _, fun _ _ => rfl, Nat.le_refl _, fun _ _ => ⟨Nat.le_refl _, fun _ => ⟨rfl, rfl, rfl⟩⟩, fun b off v hi hv => by
   have hlt := World.block_lt_of_cell? w _ hv
   refine ⟨?_, hi⟩
   have q : b ≠ M.blk id := by
    rintro rfl
    rcases hi with hi | hi
    ·
     omega
    ·
     rw [f4] at hi; omega
   unfold World.cell? at hv ⊢
   simp only [hoth b hlt q] at hv ⊢
   exact hv, hb.size, Nat.le_refl _, fun _ _ => rfl, fun _ h1 h2 => absurd h2 (Nat.not_lt.2 h1), fun b o h1 h2 _ => hko b o h1 h2, fun b q1 q => ⟨hoth b q1 (fun e => q.2.1 id hidN e.symm), q, rfl⟩⟩
 refine ⟨hx, h.below.trans hb, h.N, by simp [h.NR], fun b hb' => h.top b (Nat.le_trans hb.size hb'), h.inj, fun l cs0 hl => ?_, fun i x hi => ?_, h.rowinj, h.loop.mono hx rfl hko⟩
 ·
  obtain ⟨a1, a2, c2, ty2, a3, a4, a5, a6⟩ := h.box l cs0 hl
  have hlN : l < M.N := by rw [h.N]; exact (List.getElem?_eq_some_iff.1 hl).1
  exact ⟨a1, a2, c2, ty2, by rw [hoth _ (Array.getElem?_eq_some_iff.1 a3).1 (f5 l hlN)]; exact a3, a4, a5, fun i h1 h2 => (a6 i h1 h2).mono hx⟩
 ·
  by_cases q : i = id
  ·
   subst q
   rw [List.getElem?_set_self hidl] at hi
   cases hi
   exact ⟨f1, f2, f3, f4, f5, f6, f7, c', ty, hc, hsz, hle, hone, fun i h1 h2 => (hR i h1 h2).mono hx⟩
  ·
   rw [List.getElem?_set_ne (Ne.symm q)] at hi
   have hiN : i < M.NR := by rw [h.NR]; exact (List.getElem?_eq_some_iff.1 hi).1
   have hk := h.row i x hi
   have hne : M.blk i ≠ M.blk id := fun e => q (h.rowinj i id hiN hidN e)
   exact hk.keep hx rfl rfl rfl rfl rfl hk.ne (hoth _ hk.lt hne)
theorem sort_lift {ρ : Ren} (L : SlLaysF0.n6 P ρ) (hen : Enters P (ρ.f 6)) (k : Nat) (aE : ∀ w, (isAgg (ρ.t 24)).run P w = .ok true w) (zE : ∀ w, (Go.sizeOf (ρ.t 24)).run P w = .ok (k + 1) w) (g : FuncId) (hg : Enters P g)
  (hcmp : ∀ (s s' : ByteArray) (r r' : List Value) (W : World), r.length = k → r'.length = k → (∀ v ∈ r, v.oneCell' = true) → (∀ v ∈ r', v.oneCell' = true) →
   Calls P g #[.agg (.string s :: r).toArray, .agg (.string s' :: r').toArray] W fun e w' => e = .returned (.int .i64 (Lib.compareBytes s.data.toList s'.data.toList)) ∧ ∃ q os', w' = grow (W.drewN q) os')
  {α : Type} (f : α → AV) (nm : α → ByteArray) (d : α) (l : List α) (hf : ∀ x, ∃ r, f x = .agg (.val (.string (nm x)) :: r) ∧ r.length = k) {rid ver : Nat} (hid : st.rows[rid]? = some (.vec ver (k + 1) (l.flatMap fun x => (f x).cells))) (hn : 0 < l.length) (hz : l.length < 4611686018427387904) :
  ACalls P w0 (ρ.f 6) [.vec rid ver 0 l.length, .clo g []] st fun r s => r = .tup [] ∧ s = { st with rows := st.rows.set rid (.vec ver (k + 1) ((sortL nm d l).flatMap fun x => (f x).cells)) } := by
 refine ⟨hen, fun M w vals hst hrow => ?_⟩
 obtain ⟨v0, v1, rfl⟩ : ∃ v0 v1, vals = #[v0, v1] := by
  have hs := hrow.1
  simp only [List.length_cons, List.length_nil] at hs
  match vals, hs with
  | ⟨[a, b]⟩, _ => exact ⟨a, b, rfl⟩
 have h0 : R w0 M w v0 (.vec rid ver 0 l.length) := hrow.2 0 (by simp) (by simp)
 have h1 : R w0 M w v1 (.clo g []) := hrow.2 1 (by simp) (by simp)
 obtain ⟨cs1, rfl, hc1⟩ := clo_inv h1
 have : cs1 = #[] := Array.size_eq_zero_iff.1 hc1.1
 subst this
 have hfl : ∀ x, (f x).cells.length = k + 1 := fun x => by obtain ⟨r, e, hr⟩ := hf x; rw [e]; simp [AV.cells, hr]
 have hcl : (l.flatMap fun x => (f x).cells).length = l.length * (k + 1) := fm_len2 fun x _ => hfl x
 obtain ⟨f1, f2, f3, f4, f5, f6, f7, c, ty, f8, f9, f10, f11, f12⟩ := hst.row rid _ hid
 cases h0 with
 | @vec _ _ _ _ p cap hi hver hh =>
 obtain ⟨rfl, hcap, hm⟩ := hh f1.symm
 have hblk : M.blk rid < w.heap.size := (Array.getElem?_eq_some_iff.1 f8).1
 have hle : l.length * (k + 1) ≤ c.size := by rw [← hcl]; exact f10
 -- the elements, by their number
 let enc : Nat → List Value := fun i => if i < l.length then (c.toList.drop (i * (k + 1))).take (k + 1) else .string (nm d) :: List.replicate k (.int .i64 0)
 have bnd : ∀ i, i < l.length → i * (k + 1) + (k + 1) ≤ c.size := fun i hi => by
  have : (i + 1) * (k + 1) ≤ l.length * (k + 1) := Nat.mul_le_mul_right _ hi
  rw [Nat.succ_mul] at this; omega
 have hk : ∀ i, (enc i).length = k + 1 := fun i => by
  simp only [enc]; split
  ·
   rename_i q; have := bnd i q; simp; omega
  ·
   simp
 have eget : ∀ i, i < l.length → ∀ j, j < k + 1 → (enc i)[j]? = c[i * (k + 1) + j]? := fun i hi j hj => by
  simp only [enc, if_pos hi]
  rw [List.getElem?_take_of_lt hj, List.getElem?_drop, Array.getElem?_toList]
 have cR : ∀ i (hi : i < l.length) j (hj : j < k + 1), ∃ v x, c[i * (k + 1) + j]? = some v ∧ (f l[i]).cells[j]? = some x ∧ x.one = true ∧ R w0 M w v x := fun i hi j hj => by
  have hb := bnd i hi
  have hlt : i * (k + 1) + j < c.size := by omega
  have hlt2 : i * (k + 1) + j < (l.flatMap fun x => (f x).cells).length := by rw [hcl]; have : (i + 1) * (k + 1) ≤ l.length * (k + 1) := Nat.mul_le_mul_right _ hi; rw [Nat.succ_mul] at this; omega
  have e := fm_get2 (f := fun x => (f x).cells) (xs := l) (fun x _ => hfl x) i hi j hj
  rw [List.getElem?_eq_getElem hlt2] at e
  exact ⟨_, _, Array.getElem?_eq_getElem hlt, e.symm, f11 _ (List.getElem_mem _), f12 _ hlt hlt2⟩
 have hone : ∀ i, ∀ v ∈ enc i, v.oneCell' = true := fun i v hv => by
  by_cases q : i < l.length
  ·
   obtain ⟨j, hj, rfl⟩ := List.mem_iff_getElem.1 hv
   have hj' : j < k + 1 := by rw [hk] at hj; exact hj
   obtain ⟨v, x, e1, e2, e3, e4⟩ := cR i q j hj'
   have := eget i q j hj'
   rw [List.getElem?_eq_getElem hj, e1] at this
   cases this
   exact e4.oneCell e3
  ·
   simp only [enc, if_neg q, List.mem_cons, List.mem_replicate] at hv
   rcases hv with rfl | ⟨_, rfl⟩ <;> rfl
 let nmI : Nat → ByteArray := fun i => nm (l.getD i d)
 have henc : ∀ i, ∃ r, enc i = .string (nmI i) :: r ∧ r.length = k := fun i => by
  by_cases q : i < l.length
  ·
   obtain ⟨v, x, e1, e2, e3, e4⟩ := cR i q 0 (by omega)
   obtain ⟨r, er, hr⟩ := hf l[i]
   rw [er] at e2
   simp only [AV.cells, List.getElem?_cons_zero, Option.some.injEq] at e2
   subst e2
   have ev : v = .string (nm l[i]) := by cases e4; rfl
   subst ev
   have hg := eget i q 0 (by omega)
   rw [e1] at hg
   cases he : enc i with
   | nil => rw [he] at hg; cases hg
   | cons y ys =>
    rw [he] at hg
    simp only [List.getElem?_cons_zero, Option.some.injEq] at hg
    have hl := hk i
    rw [he] at hl
    refine ⟨ys, ?_, by simpa using hl⟩
    simp only [nmI, List.getD_eq_getElem?_getD, List.getElem?_eq_getElem q, Option.getD_some, hg]
  ·
   exact ⟨List.replicate k (.int .i64 0), by simp only [enc, nmI, if_neg q, List.getD_eq_getElem?_getD, List.getElem?_eq_none (Nat.le_of_not_lt q), Option.getD_none], by simp⟩
 let cf : Nat → Nat → Int := fun i j => Lib.compareBytes (nmI i).data.toList (nmI j).data.toList
 have hlays : CmpLays P g #[] enc (k + 1) cf (M.blk rid) 0 (Array.range l.length).size w := by
  intro m os dk hdk x y
  obtain ⟨r, e1, e2⟩ := henc x
  obtain ⟨r', e3, e4⟩ := henc y
  have a1 := hone x
  have a2 := hone y
  rw [e1] at a1
  rw [e3] at a2
  have := hcmp (nmI x) (nmI y) r r' (sortWorldK enc (k + 1) w (M.blk rid) 0 m dk os) e2 e4 (fun v hv => a1 v (List.mem_cons_of_mem _ hv)) (fun v hv => a2 v (List.mem_cons_of_mem _ hv))
  simp only [e1, e3, cf]
  exact this
 have hH : HoldsK enc (k + 1) w (M.blk rid) 0 (Array.range l.length) := by
  intro t ht
  rw [size_flatK, Array.size_range] at ht
  rw [get_flatK _ _ _ _ (by simpa using ht)]
  have hq : t / (k + 1) < l.length := Nat.div_lt_of_lt_mul (by rw [Nat.mul_comm]; exact ht)
  have hr : t % (k + 1) < k + 1 := Nat.mod_lt _ (by omega)
  have e1 : ((Array.range l.length)[t / (k + 1)]! : Nat) = t / (k + 1) := by simp [hq]
  have e2 := eget _ hq _ hr
  have e3 : t / (k + 1) * (k + 1) + t % (k + 1) = t := by rw [Nat.mul_comm]; exact Nat.div_add_mod t (k + 1)
  rw [e3] at e2
  rw [e1]
  have hlt : t < c.size := by omega
  have hl2 : t % (k + 1) < (enc (t / (k + 1))).length := by rw [hk]; exact hr
  rw [getElem!_pos (enc (t / (k + 1))) _ hl2]
  rw [List.getElem?_eq_getElem hl2, Array.getElem?_eq_getElem hlt] at e2
  refine ⟨?_, ?_⟩
  ·
   simp only [World.cell?, f8, Nat.zero_add, id_eq]
   rw [Array.getElem?_eq_getElem hlt]
   exact e2.symm
  ·
   simp [World.frozen?, f8]
 have hS := AnyQ.slices_SortFunc_eq L (k + 1) aE zE enc hk hone cf (cb_swo nmI) g #[] (M.blk rid) 0 cap (Array.range l.length) w (fun a w' => by
   have := hg a w'
   exact this) hlays hH hblk (by simpa using hz)
 simp only [Array.size_range] at hS
 have e0 : (some ⟨M.blk rid, 0 * M.rsz rid, none⟩ : Option Addr) = some ⟨M.blk rid, 0, none⟩ := by rw [Nat.zero_mul]
 rw [e0]
 refine hS.mono ?_
 rintro en w' ⟨rfl, m, os, rfl⟩
 -- what the sort leaves
 let D := pdq (ltOf cf) (Array.range l.length) 0 l.length (Lib.bitLen l.length) true true
 have hD : D.toList = sortI nmI l.length := rfl
 have hDs : D.size = l.length := by rw [← Array.length_toList, hD, sortI_length]
 have hDi : ∀ i, i < l.length → (D[i]! : Nat) < l.length := fun i hi => by
  have hi' : i < D.size := by omega
  rw [getElem!_pos D i hi']
  exact sortI_lt nmI l.length _ (by rw [← hD]; exact Array.getElem_mem_toList hi')
 have hDg : ∀ i (hi : i < l.length), (sortI nmI l.length)[i]'(by rw [sortI_length]; exact hi) = (D[i]! : Nat) := fun i hi => by
  have hi' : i < D.size := by omega
  rw [getElem!_pos D i hi', ← Array.getElem_toList]
  simp only [hD]
 let F := flatK enc (k + 1) D
 have hF : F.size = l.length * (k + 1) := by simp only [F, size_flatK, hDs]
 let c' : Array Value := putCells id 0 F c
 have hsl : (sortL nm d l).length = l.length := by simp only [sortL, List.length_map]; exact sortI_length _ _
 have hcl' : ((sortL nm d l).flatMap fun x => (f x).cells).length = l.length * (k + 1) := by rw [fm_len2 fun x _ => hfl x, hsl]
 have key : ∀ t, t < l.length * (k + 1) → ∃ v x, c'[t]? = some v ∧ ((sortL nm d l).flatMap fun x => (f x).cells)[t]? = some x ∧ x.one = true ∧ R w0 M w v x := fun t ht => by
  have hq : t / (k + 1) < l.length := Nat.div_lt_of_lt_mul (by rw [Nat.mul_comm]; exact ht)
  have hr : t % (k + 1) < k + 1 := Nat.mod_lt _ (by omega)
  have e3 : t / (k + 1) * (k + 1) + t % (k + 1) = t := by rw [Nat.mul_comm]; exact Nat.div_add_mod t (k + 1)
  obtain ⟨v, x, e1, e2, e4, e5⟩ := cR _ (hDi _ hq) _ hr
  refine ⟨v, x, ?_, ?_, e4, e5⟩
  ·
   have hlt : t < c.size := by omega
   simp only [c', putCells, Array.getElem?_mapIdx, Array.getElem?_eq_getElem hlt, Option.map_some, Nat.zero_add, Nat.zero_le, true_and, hF, if_pos ht, Nat.sub_zero, id_eq]
   simp only [F]
   rw [get_flatK _ _ _ _ (by rw [hDs]; exact ht)]
   have hl2 : t % (k + 1) < (enc (D[t / (k + 1)]!)).length := by rw [hk]; exact hr
   rw [getElem!_pos (enc (D[t / (k + 1)]!)) _ hl2, ← List.getElem?_eq_getElem hl2, eget _ (hDi _ hq) _ hr]
   exact e1
  ·
   have e6 := fm_get2 (f := fun x => (f x).cells) (xs := sortL nm d l) (fun x _ => hfl x) (t / (k + 1)) (by rw [hsl]; exact hq) (t % (k + 1)) hr
   rw [e3] at e6
   rw [e6]
   have e7 : (sortL nm d l)[t / (k + 1)]'(by rw [hsl]; exact hq) = l[(D[t / (k + 1)]! : Nat)]'(hDi _ hq) := by
    simp only [sortL, List.getElem_map]
    rw [show (sortI (fun i => nm (l.getD i d)) l.length)[t / (k + 1)]'(by rw [sortI_length]; exact hq) = (D[t / (k + 1)]! : Nat) from hDg _ hq]
    rw [List.getD_eq_getElem?_getD, List.getElem?_eq_getElem (hDi _ hq), Option.getD_some]
   rw [e7]
   exact e2
 have hcs' : c'.size = c.size := by simp [c', putCells]
 have hheap : (sortWorldK enc (k + 1) w (M.blk rid) 0 m D os).heap = w.heap.modify (M.blk rid) (onCells (putCells id 0 F)) ++ os := rfl
 have hoth : ∀ b, b < w.heap.size → b ≠ M.blk rid → (sortWorldK enc (k + 1) w (M.blk rid) 0 m D os).heap[b]? = w.heap[b]? := fun b hb hne => by
  rw [hheap, Array.getElem?_append_left (by simpa using hb), Array.getElem?_modify, if_neg (fun q => hne q.symm)]
 obtain ⟨x1, x2⟩ := hst.setVec (c' := c') (ty := ty) (cs' := (sortL nm d l).flatMap fun x => (f x).cells) (w' := sortWorldK enc (k + 1) w (M.blk rid) 0 m D os) hid
  ⟨rfl, rfl, rfl, by rw [hheap]; simp, fun b hb => hoth b (Nat.lt_of_lt_of_le hb hst.base_le) (by omega)⟩ hoth
  (by rw [hheap, Array.getElem?_append_left (by simpa using hblk), Array.getElem?_modify, if_pos rfl, f8]; rfl) (by rw [hcs']; exact f9) (by rw [hcl', hcs']; exact hle)
  (fun x hx => by
   obtain ⟨t, ht, rfl⟩ := List.mem_iff_getElem.1 hx
   rw [hcl'] at ht
   obtain ⟨v, y, _, e2, e3, _⟩ := key t ht
   rw [List.getElem?_eq_getElem (by rw [hcl']; exact ht)] at e2
   cases e2
   exact e3)
  (fun t h1 h2 => by
   rw [hcl'] at h2
   obtain ⟨v, y, e1, e2, _, e4⟩ := key t h2
   rw [List.getElem?_eq_getElem (by rw [hcl']; exact h2)] at e2
   rw [Array.getElem?_eq_getElem h1] at e1
   cases e1; cases e2
   exact e4)
 exact ⟨.tuple #[], M, .tup [], _, rfl, ⟨rfl, rfl⟩, x1, x2, .tup rfl (fun i h1 _ => absurd h1 (by simp))⟩
end
structure VOne (Rw rows : List RowA) (sz : Nat) (xs : List AV) (x : AV) : Prop where
 pre : Rw <+: rows
 calm : ∀ r ∈ rows.drop Rw.length, ∀ y ∈ r.cells, ∀ a b c, Under a b c y
 at_ : (xs = [] ∧ x = .list [] .seed) ∨ ∃ id ver, x = .vec id ver 0 xs.length ∧ 0 < xs.length ∧ Rw.length ≤ id ∧ rows[id]? = some (.vec ver sz (xs.flatMap AV.cells))
theorem VOne.none (Rw : List RowA) (sz : Nat) : VOne Rw Rw sz [] (.list [] .seed) := ⟨List.prefix_refl _, by simp, .inl ⟨rfl, rfl⟩⟩
theorem VOne.of_eq {Rw rows : List RowA} {sz : Nat} {xs ys : List AV} {x : AV} (h : VOne Rw rows sz xs x) (he : xs = ys) : VOne Rw rows sz ys x := he ▸ h
theorem VOne.len {Rw rows : List RowA} {sz : Nat} {xs : List AV} {x : AV} (h : VOne Rw rows sz xs x) : Rw.length ≤ rows.length := h.pre.length_le
theorem VOne.under {Rw rows : List RowA} {sz : Nat} {xs : List AV} {x : AV} (h : VOne Rw rows sz xs x) (nb nl : Nat) : Under nb rows.length nl x := by
 rcases h.at_ with ⟨_, rfl⟩ | ⟨id, ver, rfl, _, _, h3⟩
 ·
  exact .list (by simp) trivial
 ·
  exact .vec (List.getElem?_eq_some_iff.1 h3).1
theorem VOne.cell {Rw rows : List RowA} {sz : Nat} {xs : List AV} {x : AV} (h : VOne Rw rows sz xs x) : x.cells = [x] ∧ notTup x = true ∧ x.pubCell.pubCell = x.pubCell := by
 rcases h.at_ with ⟨_, rfl⟩ | ⟨id, ver, rfl, _, _, h3⟩ <;> exact ⟨rfl, rfl, rfl⟩
theorem VOne.append {P : Program} {t el : TypeId} {sz by8 : Nat} {ag : Bool} {Rw rows : List RowA} {xs : List AV} {x y : AV} (h : VOne Rw rows sz xs x) (he : elT P t = some (el, sz, ag, by8)) (hz : (zeroT P el).isSome = true) (hs : 0 < sz)
  (hb : (xs.length + 1) * by8 ≤ 140737488355328) (hb2 : xs.length + 1 ≤ 4611686018427387904) (hy : y.cells.length = sz ∧ notTup y = true) (hp : y.pub = y) (hu : ∀ c ∈ y.cells, ∀ a b d, Under a b d c) (hxs : ∀ z ∈ xs, z.cells.length = sz) :
  ∃ x' rows', VOne Rw rows' sz (xs ++ [y]) x' ∧ ∀ (B : List (List AV)) (L : List LoopA) (o2 : Own), evAppend P ⟨B, rows, L⟩ t x (.list [y] o2) = (True, x', ⟨B, rows', L⟩) := by
 have hl := h.len
 have ob : appendOb P el sz by8 xs.length [y] = True := by
  simp only [appendOb, hs, hz, List.length_singleton, hb, hb2, true_and, List.mem_singleton, forall_eq, hy, and_self]
 rcases h.at_ with ⟨rfl, rfl⟩ | ⟨id, ver, rfl, h1, h2, h3⟩
 ·
  refine ⟨.vec rows.length 0 0 1, rows ++ [.vec 0 sz y.cells], ⟨h.pre.trans (List.prefix_append _ _), fun r hr z hz' a b c => ?_, .inr ⟨rows.length, 0, rfl, by simp, hl, by simp⟩⟩, fun B L o2 => ?_⟩
  ·
   rw [List.drop_append_of_le_length hl] at hr
   rcases List.mem_append.1 hr with hr | hr
   ·
    exact h.calm r hr z hz' a b c
   ·
    simp only [List.mem_singleton] at hr; subst hr; exact hu z hz' a b c
  ·
   simp only [evAppend, he, listOf, isList, List.length_singleton, List.length_nil, List.flatMap_cons, List.flatMap_nil, List.append_nil, hp]
   rw [show appendOb P el sz by8 0 [y] = True from ob]
   simp
 ·
  have hlt := (List.getElem?_eq_some_iff.1 h3).1
  have hcl : (xs.flatMap AV.cells).length = xs.length * sz := fm_len2 hxs
  refine ⟨.vec id (ver + 1) 0 (xs.length + 1), rows.set id (.vec (ver + 1) sz (xs.flatMap AV.cells ++ y.cells)), ⟨set_grow_pre h.pre h2 _, fun r hr z hz' a b c => ?_, .inr ⟨id, ver + 1, by rw [List.length_append]; rfl, by simp, h2, by simp [hlt, List.flatMap_append]⟩⟩, fun B L o2 => ?_⟩
  ·
   rw [List.drop_set, if_neg (by omega)] at hr
   rcases List.mem_or_eq_of_mem_set hr with hr | rfl
   ·
    exact h.calm r hr z hz' a b c
   ·
    rcases List.mem_append.1 hz' with q | q
    ·
     exact h.calm (.vec ver sz (xs.flatMap AV.cells)) (by
      rw [List.mem_iff_getElem?]
      exact ⟨id - Rw.length, by rw [List.getElem?_drop, Nat.add_sub_cancel' h2]; exact h3⟩) z q a b c
    ·
     exact hu z q a b c
  ·
   simp only [evAppend, he, listOf, isList, List.length_singleton, List.flatMap_cons, List.flatMap_nil, List.append_nil, hp, vecR, h3, if_true]
   rw [ob]
   simp only [hcl, true_and, Nat.le_refl, and_self, Prod.mk.injEq, true_and, List.take_of_length_le (Nat.le_of_eq hcl)]
section
variable {P : Program} {w0 : World} {n : Nat} {e : Env} {st : St} {M0 : Mem} {W0 : World} {ro : Option Nat} {Q : AQ} {c : Code}
theorem tdV {B0 B bs X : List (List AV)} {Rw rows : List RowA} {L : List LoopA} {sz : Nat} {xs : List AV} {x : AV} (hN : M0.N = B0.length) (hNR : M0.NR = Rw.length) (hNL : M0.NL = L.length) (hc : Calm B0.length Rw.length L.length ⟨B, Rw, L⟩) (ho : VOne Rw rows sz xs x)
  (h : awp P w0 n M0 W0 ro c Q e ⟨B ++ bs, rows, L⟩) (hB : B.length = B0.length := by first | rfl | simp only [List.length_set])
  (hbs : ∀ cs ∈ bs, ∀ x ∈ cs, Under (B0.length + bs.length) rows.length L.length x := by (simp +decide only [go_sem, Nat.reduceAdd]) <;> (try (repeat' apply And.intro)) <;> first | omega | assumption)
  (he : calmE (B0.length + bs.length) rows.length L.length e := by (simp +decide only [go_sem, Nat.reduceAdd, calmE]) <;> (try (repeat' apply And.intro)) <;> first | omega | assumption) : awp P w0 n M0 W0 ro c Q e ⟨B ++ (bs ++ X), rows, L⟩ := by
 rw [← hB] at hN hc hbs he
 clear hB B0
 have hl := ho.len
 have e1 : St.cut ⟨B ++ (bs ++ X), rows, L⟩ (B.length + bs.length) rows.length L.length = ⟨B ++ bs, rows, L⟩ := by
  simp only [St.cut, List.take_length, ← List.append_assoc]
  rw [List.take_left' (by simp)]
 refine awp_cut (B.length + bs.length) rows.length L.length (by simp) (Nat.le_refl _) (Nat.le_refl _) (by omega) (by omega) (by omega) ?_ he (by rw [e1]; exact h)
 rw [e1]
 refine ⟨fun r hr x hx => ?_, fun cs hcs x hx => ?_, fun la hla k x hx ht => ?_⟩
 ·
  obtain ⟨t, rfl⟩ := ho.pre
  rcases List.mem_append.1 hr with hr | hr
  ·
   exact under_up (by omega) (by omega) (Nat.le_refl _) (hc.rows r hr x hx)
  ·
   exact ho.calm r (by simpa using hr) x hx _ _ _
 ·
  rcases List.mem_append.1 hcs with hcs | hcs
  ·
   exact under_up (by omega) (by omega) (Nat.le_refl _) (hc.boxes cs hcs x hx)
  ·
   exact hbs cs hcs x hx
 ·
  exact under_up (by omega) (by omega) (Nat.le_refl _) (hc.loops la hla k x hx ht)
theorem frzL_flat {sz : Nat} {ys : List AV} (hy : ∀ y ∈ ys, ∃ cs, y = .agg cs ∧ cs.length = sz) : frzL sz true (ys.flatMap AV.cells) 0 ys.length = ys := by
 have hl : ∀ y ∈ ys, y.cells.length = sz := fun y h => by obtain ⟨cs, rfl, q⟩ := hy y h; exact q
 refine List.ext_getElem (by simp [frzL]) (fun i h1 h2 => ?_)
 simp only [frzL, List.getElem_map, List.getElem_range, Nat.zero_add, loadA, if_true]
 obtain ⟨cs, e, q⟩ := hy _ (List.getElem_mem h2)
 rw [e]
 congr 1
 refine List.ext_getElem? fun j => ?_
 by_cases hj : j < sz
 ·
  rw [List.getElem?_take_of_lt hj, List.getElem?_drop, fm_get2 hl i h2 j hj, e]; rfl
 ·
  rw [List.getElem?_eq_none (by simp; omega), List.getElem?_eq_none (by omega)]
end
end Go.Ev
namespace Go.Proofs
open Go.Shelf
def Tryz.laysSort_ren : Go.Shelf.Ren := ⟨fun | 6 => 102 | 15 => 155 | 14 => 154 | 28 => 206 | 29 => 207 | 20 => 198 | 21 => 199 | 22 => 200 | 23 => 201 | 24 => 202 | 25 => 203 | 26 => 204 | 27 => 205 | 46 => 244 | 47 => 245 | 48 => 246 | 49 => 247 | 50 => 248 | 57 => 286 | n => n, fun | 22 => 50 | 24 => 107 | 25 => 188 | 3 => 3 | 39 => 236 | 0 => 0 | 53 => 295 | 55 => 282 | 4 => 4 | 46 => 289 | 45 => 288 | 50 => 157 | 5 => 5 | 9 => 9 | 66 => 333 | 70 => 93 | 76 => 374 | 77 => 141 | n => n, fun | n => n⟩
theorem Tryz.laysSort : Go.Proofs.SlLaysF0.n6 Tryz.prog Tryz.laysSort_ren := {
 mixed := by kernel_rfl
 f6 := ⟨Tryz.f102.name, by decide, Tryz.func102.trans (congrArg some (by kernel_rfl))⟩
 f14 := ⟨Tryz.f154.name, by decide, Tryz.func154.trans (congrArg some (by kernel_rfl))⟩
 f15 := Tryz.func155.trans (congrArg some (by kernel_rfl))
 f20 := ⟨Tryz.f198.name, by decide, Tryz.func198.trans (congrArg some (by kernel_rfl))⟩
 f21 := ⟨Tryz.f199.name, by decide, Tryz.func199.trans (congrArg some (by kernel_rfl))⟩
 f22 := ⟨Tryz.f200.name, by decide, Tryz.func200.trans (congrArg some (by kernel_rfl))⟩
 f23 := ⟨Tryz.f201.name, by decide, Tryz.func201.trans (congrArg some (by kernel_rfl))⟩
 f24 := ⟨Tryz.f202.name, by decide, Tryz.func202.trans (congrArg some (by kernel_rfl))⟩
 f25 := ⟨Tryz.f203.name, by decide, Tryz.func203.trans (congrArg some (by kernel_rfl))⟩
 f26 := ⟨Tryz.f204.name, by decide, Tryz.func204.trans (congrArg some (by kernel_rfl))⟩
 f27 := ⟨Tryz.f205.name, by decide, Tryz.func205.trans (congrArg some (by kernel_rfl))⟩
 f28 := Tryz.func206.trans (congrArg some (by kernel_rfl))
 f29 := Tryz.func207.trans (congrArg some (by kernel_rfl))
 f46 := ⟨Tryz.f244.name, by decide, Tryz.func244.trans (congrArg some (by kernel_rfl))⟩
 f47 := Tryz.func245.trans (congrArg some (by kernel_rfl))
 f48 := Tryz.func246.trans (congrArg some (by kernel_rfl))
 f49 := ⟨Tryz.f247.name, by decide, Tryz.func247.trans (congrArg some (by kernel_rfl))⟩
 f50 := ⟨Tryz.f248.name, by decide, Tryz.func248.trans (congrArg some (by kernel_rfl))⟩
 f57 := ⟨Tryz.f286.name, by decide, Tryz.func286.trans (congrArg some (by kernel_rfl))⟩
 t0 := Tryz.underlying0
 a0 := Tryz.isAgg0
 z0 := Tryz.sizeOf0
 v0 := Tryz.zeroValue0
 t3 := Tryz.underlying3
 a3 := Tryz.isAgg3
 z3 := Tryz.sizeOf3
 v3 := Tryz.zeroValue3
 t4 := Tryz.underlying4
 a4 := Tryz.isAgg4
 z4 := Tryz.sizeOf4
 v4 := Tryz.zeroValue4
 t5 := Tryz.underlying5
 a5 := Tryz.isAgg5
 z5 := Tryz.sizeOf5
 v5 := Tryz.zeroValue5
 t9 := Tryz.underlying9
 a9 := Tryz.isAgg9
 z9 := Tryz.sizeOf9
 v9 := Tryz.zeroValue9
 t22 := Tryz.underlying50
 a22 := Tryz.isAgg50
 z22 := Tryz.sizeOf50
 v22 := Tryz.zeroValue50
 t25 := Tryz.underlying188
 a25 := Tryz.isAgg188
 z25 := Tryz.sizeOf188
 v25 := Tryz.zeroValue188
 t39 := Tryz.underlying236
 a39 := Tryz.isAgg236
 z39 := Tryz.sizeOf236
 v39 := Tryz.zeroValue236
 t45 := Tryz.underlying288
 a45 := Tryz.isAgg288
 z45 := Tryz.sizeOf288
 v45 := Tryz.zeroValue288
 t46 := Tryz.underlying289
 a46 := Tryz.isAgg289
 z46 := Tryz.sizeOf289
 v46 := Tryz.zeroValue289
 t50 := Tryz.underlying157
 a50 := Tryz.isAgg157
 z50 := Tryz.sizeOf157
 v50 := Tryz.zeroValue157
 t53 := Tryz.underlying295
 a53 := Tryz.isAgg295
 z53 := Tryz.sizeOf295
 v53 := Tryz.zeroValue295
 t55 := Tryz.underlying282
 a55 := Tryz.isAgg282
 z55 := Tryz.sizeOf282
 v55 := Tryz.zeroValue282
 t66 := Tryz.underlying333
 a66 := Tryz.isAgg333
 z66 := Tryz.sizeOf333
 v66 := Tryz.zeroValue333
 t70 := Tryz.underlying93
 a70 := Tryz.isAgg93
 z70 := Tryz.sizeOf93
 v70 := Tryz.zeroValue93
 t76 := Tryz.underlying374
 a76 := Tryz.isAgg374
 z76 := Tryz.sizeOf374
 v76 := Tryz.zeroValue374
 t77 := Tryz.underlying141
 a77 := Tryz.isAgg141
 z77 := Tryz.sizeOf141
 v77 := Tryz.zeroValue141 }
end Go.Proofs
namespace Go.Proofs.YtkpooohjodojoaaGreatDoor
open Go Go.RowKit Go.Ev Go.Shelf Go.Sort Go.Lib
theorem cmpF_calls (s s' : ByteArray) (r r' : List Value) (W : World) (h1 : r.length = 6) (h2 : r'.length = 6) (h3 : ∀ v ∈ r, v.oneCell' = true) (h4 : ∀ v ∈ r', v.oneCell' = true) :
  Calls Tryz.prog 103 #[.agg (.string s :: r).toArray, .agg (.string s' :: r').toArray] W fun e w' => e = .returned (.int .i64 (Lib.compareBytes s.data.toList s'.data.toList)) ∧ ∃ q os', w' = grow (W.drewN q) os' := by
 have hcon := fun W' => Tryz.strings_Compare s s' W'
 change ∀ W', Calls Tryz.prog 95 _ _ _ at hcon
 generalize Lib.compareBytes s.data.toList s'.data.toList = z at hcon ⊢
 match r, h1 with
 | [a1, a2, a3, a4, a5, a6], _ =>
 match r', h2 with
 | [b1, b2, b3, b4, b5, b6], _ =>
 simp only [List.mem_cons, List.not_mem_nil, or_false, forall_eq_or_imp, forall_eq] at h3 h4
 go_enter Tryz.func103, Tryz.ntmps103
 go_wp2_with (go_at_call 95; refine (hcon _).mono ?_; rintro e w' ⟨rfl, rfl⟩)
 go_ret
 exact ⟨rfl, 0, _, by rw [alloc_eq_grow, alloc_eq_grow, grow_grow]; rfl⟩
def pow10Name : String := (Rows.sagaEnvsRow.laid.map (·.1)).getD 2 default
abbrev Pow10 (w : World) : Prop := Lib.TabIs Tryz.prog w pow10Name .u64 Lib.pow10Tab
theorem Pow10.below {w0 w : World} (h : Pow10 w0) (hb : Below w0.heap.size w0 w) : Pow10 w := by
 unfold Pow10 Lib.TabIs World.var? at *
 cases hg : Tryz.prog.globalNamed pow10Name with
 | none => rw [hg] at h; cases h
 | some g =>
  rw [hg] at h
  simp only [Option.bind_some] at h ⊢
  cases hx : w0.heap[g]? with
  | none => rw [hx] at h; cases h
  | some o =>
   rw [hb.block g (Array.getElem?_eq_some_iff.1 hx).1]
   exact h
theorem nDigits_le (u : Nat) : Lib.nDigits u ≤ u / 10 + 1 := by
 induction u using Nat.strongRecOn with
 | _ u ih =>
  by_cases h : u < 10
  ·
   rw [Lib.nDigits_small h]; omega
  ·
   rw [Lib.nDigits_big h]
   have := ih (u / 10) (by omega)
   omega
theorem itoa_size (n : Int) (h : -9223372036854775808 ≤ n ∧ n ≤ 9223372036854775807) : (Lib.itoa n).length ≤ maxLen := by
 unfold Lib.itoa maxLen
 split
 ·
  rw [List.length_cons, Lib.decDigits_length]; have := nDigits_le n.natAbs; omega
 ·
  rw [Lib.decDigits_length]; have := nDigits_le n.toNat; omega
theorem sItoa_at (w0 : World) (B : List (List AV)) (Rw : List RowA) (L : List LoopA) (hP : Pow10 w0) (n : Int) (hn : -9223372036854775808 ≤ n ∧ n ≤ 9223372036854775807) :
  ACalls Tryz.prog w0 53 [.val (.int .i64 n)] ⟨B, Rw, L⟩ fun v s' => v = .val (.string ⟨(Lib.itoa n).toArray⟩) ∧ s' = ⟨B, Rw, L⟩ :=
 acalls_below (enters_some Tryz.func53 rfl (by decide)) (by
  show decide ((Lib.itoa n).toArray.size ≤ maxLen) = true
  rw [List.size_toArray]
  exact decide_eq_true (itoa_size n hn)) fun M w vals hb hrow => by
  have := row_vals (us := [.int .i64 n]) hrow
  subst this
  refine (Any.strconv_Itoa Tryz.laysM171 n hn.1 hn.2 w (hP.below hb)).mono ?_
  rintro e w' ⟨rfl, k, os, rfl⟩
  refine ⟨rfl, rfl, rfl, rfl, by simp [grow], fun i hi => ?_⟩
  show (grow (w.drewN k) os).heap[i]? = w.heap[i]?
  rw [heap_grow_old (w.drewN k) os hi]
  rfl
end Go.Proofs.YtkpooohjodojoaaGreatDoor
namespace Go.Ev
open Go Go.RowKit
def Mem.start : Mem := ⟨0, 0, fun _ => 0, fun _ => 0, fun _ => 0, fun _ => 0, fun _ => 0, fun _ => 0, 0, fun _ => 0⟩
theorem start_rel (W : World) : RelSt W Mem.start ⟨[], [], []⟩ W where
 below := .refl _ _
 N := rfl
 NR := rfl
 top := fun _ _ => rfl
 inj := fun _ _ h => absurd h (Nat.not_lt_zero _)
 box := fun _ _ h => by simp at h
 row := fun _ _ h => by simp at h
 rowinj := fun _ _ h => absurd h (Nat.not_lt_zero _)
 loop := ⟨rfl, fun _ _ h => absurd h (Nat.not_lt_zero _), fun _ _ h => by simp at h⟩
theorem calls_of_acalls {P : Program} {f : FuncId} {W : World} {vals : Array Value} {args : List AV} {r : Value} (h : ACalls P W f args ⟨[], [], []⟩ fun v st => v = .val r ∧ st = ⟨[], [], []⟩) (hr : RowR W Mem.start W vals args) :
  Calls P f vals W fun e w' => e = .returned r ∧ Below W.heap.size W w' :=
 (h.2 Mem.start W vals (start_rel W) hr).mono fun en w' ⟨v, M', a, st, h1, ⟨h2, _⟩, _, h4, h5⟩ => by
  subst h2
  have := h5.val_inv.1
  subst this
  exact ⟨h1, h4.below⟩
theorem rowR_two {W : World} {v u : Value} {x y : AV} (h : R W Mem.start W v x) (k : R W Mem.start W u y) : RowR W Mem.start W #[v, u] [x, y] := ⟨rfl, fun i h1 h2 => by
 have : i = 0 ∨ i = 1 := by simp at h2; omega
 rcases this with rfl | rfl
 ·
  exact h
 ·
  exact k⟩
end Go.Ev
namespace Go.Proofs.YtkpooohjodojoaaGreatDoor
open Go Go.Shelf Go.ChangeShapes Go.WideShapes Go.ChangeAt Go.RowKit Go.Lib Go.Ev
open Go.ChangeMaps (open_string shut_string)
set_option maxRecDepth 100000
theorem law_own : ownKnob Tryz.prog.godebug = none := by kernel_rfl
def flat1 : DataW Unit → List Value
 | .lit (.int k z) => [.int k z]
 | .agg l => l.flatMap fun | .lit (.int k z) => [.int k z] | _ => []
 | _ => []
def flat2 : DataW Unit → List Value
 | .agg l => l.flatMap flat1
 | _ => []
theorem pow10_of_reads {W : World} (h : Lib.VarReads Tryz.prog W pow10Name Rows.laid_internal_strconv_uint64pow10) : Pow10 W := by
 obtain ⟨g, t, cs, fuel, p, h1, h2, h3, h4⟩ := h
 obtain rfl := Option.some.inj ((show Tryz.prog.globalNamed pow10Name = some 3 by kernel_rfl).symm.trans h1)
 obtain rfl := Option.some.inj ((show (Tryz.prog.globals[3]?).map (·.type) = some 331 by kernel_rfl).symm.trans h2)
 have e : (Rows.laid_internal_strconv_uint64pow10 : DataW Unit) = Lib.tabData .u64 Lib.pow10Tab := by kernel_rfl
 rw [e] at h4
 unfold Pow10 Lib.TabIs
 rw [h3, ← Lib.cells_of_tab (n := 20) (k := .u64) (zs := Lib.pow10Tab) Tryz.underlying331 Tryz.underlying282 (by kernel_rfl) (by kernel_rfl) h4]
set_option maxRecDepth 100000
mutual
def Vl.wf : Vl → Prop
 | .mk k i s t l f => I64 k ∧ I64 i ∧ I64 s ∧ t.size ≤ maxLen ∧ l.length ≤ maxLen ∧ f.length ≤ maxLen ∧ wfVs l ∧ wfFs f
def wfVs : List Vl → Prop
 | [] => True
 | v :: r => v.wf ∧ wfVs r
def wfFs : List (ByteArray × Vl) → Prop
 | [] => True
 | (n, v) :: r => n.size ≤ maxLen ∧ v.wf ∧ wfFs r
end
theorem wfVs_iff : ∀ l, wfVs l ↔ ∀ v ∈ l, v.wf
 | [] => by simp [wfVs]
 | v :: r => by simp [wfVs, wfVs_iff r]
theorem wfFs_iff : ∀ l, wfFs l ↔ ∀ p ∈ l, p.1.size ≤ maxLen ∧ p.2.wf
 | [] => by simp [wfFs]
 | (n, v) :: r => by simp [wfFs, wfFs_iff r, and_assoc]
mutual
def Ty.wf : Ty → Prop
 | .mk k lo hi s w e f => I64 k ∧ I64 lo ∧ I64 hi ∧ I64 s ∧ (∀ x ∈ w, x.size ≤ maxLen) ∧ w.length ≤ maxLen ∧ e.length ≤ maxLen ∧ f.length ≤ maxLen ∧ wfTs e ∧ wfTFs f
def wfTs : List Ty → Prop
 | [] => True
 | v :: r => v.wf ∧ wfTs r
def wfTFs : List (Int × ByteArray × Int × Ty × List Vl) → Prop
 | [] => True
 | (n, s, d, t, l) :: r => (I64 n ∧ s.size ≤ maxLen ∧ I64 d ∧ t.wf ∧ l.length ≤ maxLen ∧ ∀ v ∈ l, v.wf) ∧ wfTFs r
end
mutual
def Vl.bulk : Vl → Nat
 | .mk _ _ _ t l f => 1 + t.size + bulkVs l + bulkFs f
def bulkVs : List Vl → Nat
 | [] => 0
 | v :: r => v.bulk + bulkVs r
def bulkFs : List (ByteArray × Vl) → Nat
 | [] => 0
 | (n, v) :: r => n.size + v.bulk + bulkFs r
end
def bulkWs : List ByteArray → Nat
 | [] => 0
 | w :: r => w.size + 1 + bulkWs r
mutual
def Ty.bulk : Ty → Nat
 | .mk _ _ _ _ w e f => 1 + bulkWs w + bulkTs e + bulkTFs f
def bulkTs : List Ty → Nat
 | [] => 0
 | v :: r => v.bulk + bulkTs r
def bulkTFs : List (Int × ByteArray × Int × Ty × List Vl) → Nat
 | [] => 0
 | (_, n, _, t, l) :: r => n.size + t.bulk + bulkVs l + bulkTFs r
end
theorem bulkVs_sum : ∀ l, bulkVs l = (l.map Vl.bulk).sum
 | [] => rfl
 | v :: r => by rw [bulkVs, bulkVs_sum r]; rfl
theorem bulkFs_sum : ∀ l, bulkFs l = (l.map fun p => p.1.size + p.2.bulk).sum
 | [] => rfl
 | (n, v) :: r => by rw [bulkFs, bulkFs_sum r]; rfl
def Part.wf (p : Part) : Prop := I64 p.kind ∧ I64 p.index ∧ p.name.size ≤ maxLen
def Sch.wf (s : Sch) : Prop := s.name.size ≤ maxLen ∧ I64 s.version ∧ s.type.wf
section
variable {H : Type} {enc : TypeId × Value → H} {W : World}
def RC (W : World) (cs : List Value) (xs : List AV) : Prop := cs.length = xs.length ∧ ∀ i (h1 : i < cs.length) (h2 : i < xs.length), R W Mem.start W cs[i] xs[i]
theorem RC.nil : RC W [] [] := ⟨rfl, fun i h1 => absurd h1 (by simp)⟩
theorem RC.cons {v : Value} {x : AV} {cs : List Value} {xs : List AV} (h : R W Mem.start W v x) (k : RC W cs xs) : RC W (v :: cs) (x :: xs) := ⟨by simp [k.1], fun i h1 h2 => by
 cases i with
 | zero => exact h
 | succ i => simpa using k.2 i (by simpa using h1) (by simpa using h2)⟩
theorem RC.agg {cs : List Value} {xs : List AV} (h : RC W cs xs) (h1 : ∀ x ∈ xs, x.one = true) : R W Mem.start W (.agg cs.toArray) (.agg xs) := .agg (by simpa using h.1) h1 (fun i a b => by simpa using h.2 i (by simpa using a) b)
noncomputable abbrev Td (enc : TypeId × Value → H) (W : World) (n : Nat) (t : TypeId) (cs : List Value) : Option (DataW H × List MemPlace) := DataW.trod enc Tryz.prog W 0 (fun _ => true) true n t cs
theorem ubulk_pos (d : DataW H) : 1 ≤ Rows.uptoBulk d := by
 cases d with
 | lit l => cases l <;> simp [Rows.uptoBulk]
 | _ => simp [Rows.uptoBulk]
theorem ubulk_sum {α : Type} (m : α → Nat) : ∀ (l : List α) (es : List (DataW H × List MemPlace)), l.length = es.length → (∀ i (h1 : i < l.length) (h2 : i < es.length), m l[i] ≤ Rows.uptoBulk es[i].1) → (l.map m).sum ≤ Rows.uptoBulkAll (es.map (·.1))
 | [], _, _, _ => by simp
 | y :: r, [], h, _ => by simp at h
 | y :: r, e :: es, h, k => by
  have h0 := k 0 (by simp) (by simp)
  have := ubulk_sum m r es (by simpa using h) (fun i h1 h2 => by have := k (i + 1) (by simpa using h1) (by simpa using h2); simpa using this)
  simp only [List.map_cons, List.sum_cons, Rows.uptoBulkAll, List.getElem_cons_zero] at h0 ⊢
  omega
theorem td_int {n : Nat} {cs : List Value} {x : DataW H × List MemPlace} (h : Td enc W n 3 cs = some x) : ∃ z, I64 z ∧ cs = [.int .i64 z] := by
 obtain ⟨z, rfl, _, hw⟩ := DataW.trod_int Tryz.underlying3 h
 refine ⟨z, ?_, rfl⟩
 simp [Lit.wf, IntKind.min, IntKind.max, IntKind.signed, IntKind.bits] at hw
 unfold I64
 omega
theorem td_str {n : Nat} {cs : List Value} {x : DataW H × List MemPlace} (h : Td enc W n 9 cs = some x) : ∃ s : ByteArray, s.size ≤ maxLen ∧ cs = [.string s] ∧ s.size + 1 ≤ Rows.uptoBulk x.1 := by
 obtain ⟨s, rfl, rfl, hw⟩ := DataW.trod_string Tryz.underlying9 h
 exact ⟨s, hw, rfl, by simp [Rows.uptoBulk]⟩
theorem td_slice {α : Type} (f : α → AV) (p : α → Prop) (m : α → Nat) {t e : TypeId} {sz : Nat} (ht : Tryz.prog.underlying t = some (.slice e)) (hc : Tryz.prog.cellsOf e = sz) (hsz : 0 < sz) {n : Nat}
  (H0 : ∀ cs x, Td enc W n e cs = some x → ∃ y u, p y ∧ u.cells.toList = cs ∧ R W Mem.start W u (f y) ∧ m y ≤ Rows.uptoBulk x.1) {cs : List Value} {x : DataW H × List MemPlace} (h : Td enc W (n + 1) t cs = some x) :
  ∃ (l : List α) (v : Value), (∀ y ∈ l, p y) ∧ l.length ≤ maxLen ∧ cs = [v] ∧ R W Mem.start W v (.list (l.map f) .none) ∧ (l.map m).sum + 1 ≤ Rows.uptoBulk x.1 := by
 rcases DataW.trod_slice ht h with ⟨rfl, _⟩ | ⟨a, len, cap, elems, rest, n', hn, rfl, rfl, hb, hl, hm, hlen, hel, hsp, _⟩
 ·
  exact ⟨[], _, by simp, by simp, rfl, .nil (fun id => by simp), by simpa using ubulk_pos x.1⟩
 ·
  cases hn
  by_cases hcap : cap = 0
  ·
   subst hcap
   obtain rfl : len = 0 := by omega
   exact ⟨[], _, by simp, by simp, rfl, .emp (fun id => by simp), by simpa using ubulk_pos _⟩
  have hspot : a.spot = none := by
   have get : ∀ (c : DataW H × List MemPlace) (r : List Value → Option (DataW H × List MemPlace)), (W.cells? 0 (a.add (0 * Tryz.prog.cellsOf e)) (Tryz.prog.cellsOf e)).bind r = some c → a.spot = none := fun c r hr => by
    obtain ⟨cs', h1, _⟩ := Option.bind_eq_some_iff.1 hr
    obtain ⟨_, h2, h3⟩ := World.cells?_some h1
    have h4 := h3 0 (by omega)
    rw [List.getElem?_eq_getElem (by omega)] at h4
    have e0 : (a.add (0 * Tryz.prog.cellsOf e)).add 0 = a := by simp [Addr.add]
    rw [e0] at h4
    unfold World.cell? at h4
    split at h4
    ·
     split at h4
     ·
      cases h4
     ·
      rename_i q; simpa using q
    ·
     cases h4
   by_cases h0 : 0 < len
   ·
    have := hel 0 h0
    rw [List.getElem?_eq_getElem (by omega)] at this
    exact get _ _ this
   ·
    obtain ⟨h1, h2⟩ := hsp rfl
    have := h2 0 (by omega)
    rw [List.getElem?_eq_getElem (by omega)] at this
    obtain rfl : len = 0 := by omega
    exact get _ _ this
  obtain ⟨b, off, sp⟩ := a
  simp only at hspot
  subst hspot
  have key : ∀ i, i < len → ∃ y u, p y ∧ R W Mem.start W u (f y) ∧ (∀ h : i < elems.length, m y ≤ Rows.uptoBulk elems[i].1) ∧ u.cells.size = sz ∧ ∀ j, j < sz → W.cell? ⟨b, off + i * sz + j, none⟩ = u.cells[j]? := fun i hi => by
   have h1 := hel i hi
   rw [List.getElem?_eq_getElem (by omega)] at h1
   obtain ⟨cs', h2, h3⟩ := Option.bind_eq_some_iff.1 h1
   obtain ⟨y, u, h4, h5, h6, h6m⟩ := H0 _ _ h3
   obtain ⟨_, h7, h8⟩ := World.cells?_some h2
   rw [hc] at h7 h8
   refine ⟨y, u, h4, h6, fun _ => h6m, by rw [← h7, ← h5, Array.length_toList], fun j hj => ?_⟩
   have := h8 j hj
   rw [← h5, Array.getElem?_toList] at this
   rw [← this]
   congr 1
   have ea : ∀ (o m : Nat), (⟨b, o, none⟩ : Addr).add m = ⟨b, o + m, none⟩ := fun o m => by unfold Addr.add; split <;> simp_all
   rw [ea, ea]
  classical
  let y : Nat → Option (α × Value) := fun i => if hi : i < len then some (Classical.choose (key i hi), Classical.choose (Classical.choose_spec (key i hi))) else none
  have hne : len = 0 ∨ Nonempty (α × Value) := by
   by_cases h0 : 0 < len
   ·
    obtain ⟨z, u, _⟩ := key 0 h0; exact .inr ⟨(z, u)⟩
   ·
    exact .inl (by omega)
  rcases hne with h0 | ⟨⟨d⟩⟩
  ·
   subst h0
   exact ⟨[], _, by simp, by simp, rfl, .list (xs := []) 0 (fun _ => undef) (Nat.zero_le _) hm (fun i hi => absurd hi (by simp)) (fun i hi => absurd hi (by simp)) trivial, by simpa using ubulk_pos _⟩
  ·
   let g : Nat → α × Value := fun i => if hi : i < len then (Classical.choose (key i hi), Classical.choose (Classical.choose_spec (key i hi))) else d
   have hg : ∀ i, i < len → p (g i).1 ∧ R W Mem.start W (g i).2 (f (g i).1) ∧ (∀ h : i < elems.length, m (g i).1 ≤ Rows.uptoBulk elems[i].1) ∧ (g i).2.cells.size = sz ∧ ∀ j, j < sz → W.cell? ⟨b, off + i * sz + j, none⟩ = (g i).2.cells[j]? := fun i hi => by
    have := Classical.choose_spec (Classical.choose_spec (key i hi))
    simp only [g, dif_pos hi]
    exact this
   have hlen2 : (((List.range len).map fun i => (g i).1).map f).length = len := by simp
   refine ⟨(List.range len).map fun i => (g i).1, .slice (some ⟨b, off, none⟩) len cap, fun z hz => ?_, by simp; omega, rfl, ?_, ?_⟩
   ·
    obtain ⟨i, hi, rfl⟩ := List.mem_map.1 hz
    exact (hg i (by simpa using hi)).1
   ·
    have := Ev.R.list (w0 := W) (M := Ev.Mem.start) (w := W) (b := b) (off := off) (cap := cap) (xs := ((List.range len).map fun i => (g i).1).map f) (o := .none) sz (fun i => (g i).2) (by rw [hlen2]; exact hl) hm
     (fun i hi => by
      rw [hlen2] at hi
      obtain ⟨_, _, _, h3, h4⟩ := hg i hi
      refine ⟨h3, fun j hj => ⟨.inl ?_, h4 j hj⟩⟩
      have := h4 j hj
      rw [Array.getElem?_eq_getElem (by rw [h3]; exact hj)] at this
      exact World.block_lt_of_cell? W _ this) (fun i hi => by
      rw [hlen2] at hi
      simp only [List.getElem_map, List.getElem_range]
      exact (hg i hi).2.1) trivial
    rw [hlen2] at this
    exact this
   ·
    have := ubulk_sum m ((List.range len).map fun i => (g i).1) elems (by simp; omega) (fun i h1 h2 => by
     simp only [List.getElem_map, List.getElem_range]
     exact (hg i (by omega)).2.2.1 h2)
    simp only [Rows.uptoBulk]
    omega
theorem Vl.ones (v : Vl) : ∀ x ∈ v.cs, x.one = true := by
 cases v; intro x hx
 simp only [Vl.cs, List.mem_cons, List.not_mem_nil, or_false] at hx
 rcases hx with rfl | rfl | rfl | rfl | rfl | rfl <;> rfl
theorem Ty.ones (v : Ty) : ∀ x ∈ v.cs, x.one = true := by
 cases v; intro x hx
 simp only [Ty.cs, List.mem_cons, List.not_mem_nil, or_false] at hx
 rcases hx with rfl | rfl | rfl | rfl | rfl | rfl | rfl <;> rfl
theorem td_val : ∀ (n : Nat) (cs : List Value) (x : DataW H × List MemPlace), Td enc W n 52 cs = some x → ∃ v : Vl, v.wf ∧ RC W cs v.cs ∧ v.bulk ≤ Rows.uptoBulk x.1
 | 0, cs, x, h => by simp [Td, DataW.trod] at h
 | n + 1, cs, x, h => by
  obtain ⟨xs, n', hn, rfl, hl, hx, hf⟩ := DataW.trod_struct Tryz.underlying52 h
  cases hn
  have hl6 : cs.length = 6 := hl.trans (by kernel_rfl)
  have hx6 : xs.length = 6 := hx
  match cs, hl6, xs, hx6, hf with
  | [c0, c1, c2, c3, c4, c5], _, [y0, y1, y2, y3, y4, y5], _, hf =>
  have f0 : _ = some y0 := hf 0 _ rfl; have f1 : _ = some y1 := hf 1 _ rfl; have f2 : _ = some y2 := hf 2 _ rfl; have f3 : _ = some y3 := hf 3 _ rfl; have f4 : _ = some y4 := hf 4 _ rfl; have f5 : _ = some y5 := hf 5 _ rfl
  obtain ⟨k, hk, ek⟩ := td_int f0
  obtain ⟨i, hi, ei⟩ := td_int f1
  obtain ⟨s, hs, es⟩ := td_int f2
  obtain ⟨t, ht, et, bt⟩ := td_str f3
  cases n with
  | zero => simp [DataW.trod] at f4
  | succ n =>
  obtain ⟨l, vl, hl1, hl2, el, hRl, bl⟩ := td_slice avV Vl.wf Vl.bulk Tryz.underlying33 (sz := 6) (by kernel_rfl) (by omega) (fun cs x h => by
   obtain ⟨v, hv, hR, hb⟩ := td_val n cs x h
   exact ⟨v, .agg cs.toArray, hv, by simp [Value.cells], hR.agg v.ones, hb⟩) f4
  obtain ⟨fl, vf, hf1, hf2, ef, hRf, bf⟩ := td_slice avF (fun p => p.1.size ≤ maxLen ∧ p.2.wf) (fun p => p.1.size + p.2.bulk) Tryz.underlying50 (sz := 7) (by kernel_rfl) (by omega) (fun cs x h => by
   cases n with
   | zero => simp [DataW.trod] at h
   | succ n =>
   obtain ⟨ys, n', hn, rfl, hl, hx, hf⟩ := DataW.trod_struct Tryz.underlying107 h
   cases hn
   have hl7 : cs.length = 7 := hl.trans (by kernel_rfl)
   have hx2 : ys.length = 2 := hx
   match ys, hx2, hf with
   | [w0, w1], _, hf =>
   have q0 : _ = some w0 := hf 0 _ rfl; have q1 : _ = some w1 := hf 1 _ rfl
   obtain ⟨nm, hnm, en, bn⟩ := td_str q0
   obtain ⟨v, hv, hR, hb⟩ := td_val n _ _ q1
   have e2 : Tryz.prog.cellsOf 52 = 6 := by kernel_rfl
   have e3 : Tryz.prog.cellsOf 9 = 1 := by kernel_rfl
   simp only [List.getElem_toArray, List.getElem_cons_zero, List.getElem_cons_succ, e2, e3] at en hR
   match cs, hl7 with
   | [c0, c1, c2, c3, c4, c5, c6], _ =>
   simp only [List.drop_zero, List.take_succ_cons, List.take_zero, List.cons.injEq, and_true, List.drop_succ_cons] at en hR
   subst en
   refine ⟨(nm, v), .agg #[.string nm, c1, c2, c3, c4, c5, c6], ⟨hnm, hv⟩, rfl, ?_, by simp only [List.map_cons, List.map_nil, Rows.uptoBulk, Rows.uptoBulkAll]; omega⟩
   exact RC.agg (cs := [.string nm, c1, c2, c3, c4, c5, c6]) (.cons (.flat (decide_eq_true hnm)) hR) (fun x hx => by
    rcases List.mem_cons.1 hx with rfl | hx
    ·
     rfl
    ·
     exact v.ones x hx)) f5
  have c1' : Tryz.prog.cellsOf 3 = 1 := by kernel_rfl
  have c2' : Tryz.prog.cellsOf 9 = 1 := by kernel_rfl
  have c3' : Tryz.prog.cellsOf 33 = 1 := by kernel_rfl
  have c4' : Tryz.prog.cellsOf 50 = 1 := by kernel_rfl
  simp only [List.getElem_toArray, List.getElem_cons_zero, List.getElem_cons_succ, c1', c2', c3', c4', List.drop_zero, List.take_succ_cons, List.take_zero, List.cons.injEq, and_true, List.drop_succ_cons] at ek ei es et el ef
  subst ek ei es et el ef
  refine ⟨.mk k i s t l fl, ?_, ?_, by simp only [List.map_cons, List.map_nil, Rows.uptoBulk, Rows.uptoBulkAll, Vl.bulk, bulkVs_sum, bulkFs_sum]; omega⟩
  ·
   unfold Vl.wf
   exact ⟨hk, hi, hs, ht, hl2, hf2, (wfVs_iff l).2 hl1, (wfFs_iff fl).2 hf1⟩
  ·
   rw [Vl.cs, encVs_av, encFs_av]
   exact .cons (.flat rfl) (.cons (.flat rfl) (.cons (.flat rfl) (.cons (.flat (decide_eq_true ht)) (.cons hRl (.cons hRf .nil)))))
end
section
variable {H : Type} {enc : TypeId × Value → H} {W : World} {base : Nat} {v : Value} {d : DataW H} {p : List MemPlace}
theorem agg_of {t : TypeId} {fs : Array Field} (ht : Tryz.prog.underlying t = some (.struct fs)) (hv : Value.okWide Tryz.prog W .any base t v) : ∃ cs, v = .agg cs := by
 unfold Value.okWide at hv
 rw [ht] at hv
 obtain ⟨cs, h, _⟩ := hv
 exact ⟨cs, h⟩
theorem open_v (hv : Value.okWide Tryz.prog W .any base 52 v) (h : DataW.Trod enc Tryz.prog W 0 (fun _ => true) true 52 v d p) : ∃ t : Vl, t.wf ∧ R W Mem.start W v (.agg t.cs) ∧ t.bulk ≤ Rows.uptoBulk d := by
 obtain ⟨cs, rfl⟩ := agg_of Tryz.underlying52 hv
 obtain ⟨n, hn⟩ := h
 obtain ⟨t, h1, h2, h3⟩ := td_val n _ _ hn
 exact ⟨t, h1, by simpa [Value.cells] using h2.agg t.ones, h3⟩
end
end Go.Proofs.YtkpooohjodojoaaGreatDoor
