/-
  Regions whose order the tape draws: the operations at their head leave the abstract state as it is and look at what they wait for; so every order yields the same. The operations behind them wait for all before.
-/
import Derived.Test.YthlhbbejcmbpoaaDoorEvH
import Derived.StillTail
import Derived.OrdersIn
namespace Go.Ev
open Go Go.RowKit

section
variable {P : Program} {w0 : World} {n : Nat}

/-- One operation of such a region: whatever its guard says, it yields v and leaves the state. -/
def OneOk (P : Program) (w0 : World) (e1 : Env) (c : Bool) (st : St) (o : Oper) (v : AV) : Prop :=
  match o.op with
  | .call ⟨.value f, args, _⟩ => c = true → argOk e1 true f ∧ (∀ x ∈ args.toList, argOk e1 true x) ∧ VCalls P w0 (argV e1 f) (args.toList.map fun x => (argV e1 x).pub) st fun r s => r = v ∧ s = st
  | op => (c = true → (evOp P e1 c st op).1) ∧ (evOp P e1 c st op).2.1 = v ∧ (evOp P e1 c st op).2.2 = st
theorem oneOk_other {e1 : Env} {c : Bool} {st : St} {o : Oper} {v : AV} (hc : ¬ isCallF o.op = true) :
    OneOk P w0 e1 c st o v = ((c = true → (evOp P e1 c st o.op).1) ∧ (evOp P e1 c st o.op).2.1 = v ∧ (evOp P e1 c st o.op).2.2 = st) := by
  obtain ⟨dst, op, type, pos, after, guard⟩ := o
  cases op with
  | call cc =>
    obtain ⟨callee, args, ts⟩ := cc
    cases callee with
    | value f => exact absurd rfl hc
    | _ => rfl
  | _ => rfl
theorem oneOk_sound {M : Mem} {e1 : Env} {st : St} {a : Act} {w : World} (h : Rel w0 n M e1 st a w) (ro : Option Nat) (m : Nat) {all : List Oper} {o : Oper} {v : AV} (hg : guardOk all e1 o.guard) (hv : OneOk P w0 e1 (guardC all e1 o.guard) st o v)
    (Q : Exit → Act → World → Prop) (K : Act → World → Prop) (hK : ∀ u w' M', Ext w0 M w M' w' → RelSt w0 M' st w' → entryOk w0 M' w' u (guardC all e1 o.guard, v) → K (a.put o.dst u) w') :
    if Region.wanted o (yielded all.toArray a.tmps) then o.wpIn (FW ro) m P a w K Q else (∀ f, o.about P w a.eval = some f → (FW ro).fn f) ∧ K (a.put o.dst undef) w := by
  rw [wanted_spec h hg]
  cases hcc : guardC all e1 o.guard with
  | true =>
    rw [hcc] at hv hK
    rw [if_pos rfl]
    by_cases hc : isCallF o.op = true
    · obtain ⟨dst, op, type, pos, after, guard⟩ := o
      cases op <;> try cases hc
      rename_i cc
      obtain ⟨callee, args, ts⟩ := cc
      cases callee <;> try cases hc
      rename_i f
      obtain ⟨b1, b2, b3⟩ := hv rfl
      refine call_sound h ro m b1 b2 b3 Q _ (fun r s hp u w' M' hx hst hu => ?_)
      obtain ⟨rfl, rfl⟩ := hp
      exact hK u w' M' hx hst hu
    · rw [oneOk_other hc] at hv
      obtain ⟨b1, b2, b3⟩ := hv
      refine one_sound h ro m o (b1 rfl) Q _ (fun u w' M' hx hst hu => ?_)
      rw [b3] at hst
      rw [b2] at hu
      exact hK u w' M' hx hst hu
  | false =>
    rw [hcc] at hK
    rw [if_neg (by simp)]
    exact ⟨fun g _ => FW_fn ro g, hK undef w M (.refl _ _ _) h.st rfl⟩

structure Trail (P : Program) (w0 : World) (n : Nat) (all os : List Oper) (e : Env) (st : St) (E : Nat → Env) (C : Nat → Bool) (V : Nat → AV) : Prop where
  zero : E 0 = e
  step : ∀ j o, os[j]? = some o → E (j + 1) = putE (E j) o.dst (C j) (V j) ∧ guardOk all (view true all o (E j)) o.guard ∧ dstOk n o.dst ∧ guardC all (view true all o (E j)) o.guard = C j ∧
    OneOk P w0 (view true all o (E j)) (C j) st o (V j)

theorem trail_cons {all os : List Oper} {e : Env} {st : St} {o : Oper} {E : Nat → Env} {C : Nat → Bool} {V : Nat → AV} {v : AV} (hg : guardOk all (view true all o e) o.guard) (hd : dstOk n o.dst)
    (ho : OneOk P w0 (view true all o e) (guardC all (view true all o e) o.guard) st o v) (T : Trail P w0 n all os (putE e o.dst (guardC all (view true all o e) o.guard) v) st E C V) :
    Trail P w0 n all (o :: os) e st (fun | 0 => e | j + 1 => E j) (fun | 0 => guardC all (view true all o e) o.guard | j + 1 => C j) (fun | 0 => v | j + 1 => V j) := by
  refine ⟨rfl, fun j q hq => ?_⟩
  cases j with
  | zero =>
    simp only [List.getElem?_cons_zero, Option.some.injEq] at hq
    subst hq
    exact ⟨T.zero, hg, hd, rfl, ho⟩
  | succ j =>
    simp only [List.getElem?_cons_succ] at hq
    exact T.step j q hq

theorem trail_of {all : List Oper} {st : St} {KK : Env → St → Prop} : ∀ (c : Nat) (os : List Oper) (e : Env), evK P w0 n true all KK c os e st → ∃ E C V, Trail P w0 n all os e st E C V ∧ KK (E os.length) st
  | 0, _, _, h => h.elim
  | c + 1, os, e, h => by
    have key : ∀ (os : List Oper) (e : Env), evS P w0 n true all (evK P w0 n true all KK c) KK os e st → ∃ E C V, Trail P w0 n all os e st E C V ∧ KK (E os.length) st := by
      intro os
      induction os with
      | nil => exact fun e h => ⟨fun _ => e, fun _ => false, fun _ => .junk, ⟨rfl, fun j o hh => by simp at hh⟩, h⟩
      | cons o os ih =>
        intro e h
        by_cases hc : isCallF o.op = true
        · obtain ⟨dst, op, type, pos, after, guard⟩ := o
          cases op <;> try cases hc
          rename_i cc
          obtain ⟨callee, args, ts⟩ := cc
          cases callee <;> try cases hc
          rename_i f
          simp only [evS] at h
          obtain ⟨hg, hd, h1, hk⟩ := h
          rcases hk with ⟨v, k1, k2⟩ | ⟨hf, _⟩
          · obtain ⟨E, C, V, T, hKK⟩ := trail_of c os _ k2
            exact ⟨_, _, _, trail_cons hg hd (fun hcc => ⟨(h1 hcc).1, (h1 hcc).2, k1 hcc⟩) T, hKK⟩
          · cases hf
        · rw [evS_other hc] at h
          obtain ⟨hg, hd, h1, h0, hrest⟩ := h
          have hst := h0 (.inr rfl)
          simp only at hst
          rw [hst] at hrest
          obtain ⟨E, C, V, T, hKK⟩ := ih _ hrest
          exact ⟨_, _, _, trail_cons hg hd (by rw [oneOk_other hc]; exact ⟨h1, rfl, hst⟩) T, hKK⟩
    exact key os e h

theorem trail_look {all os : List Oper} {e : Env} {st : St} {E : Nat → Env} {C : Nat → Bool} {V : Nat → AV} (T : Trail P w0 n all os e st E C V)
    (uniq : ∀ (i j : Nat) (o p : Oper) (s : Nat), os[i]? = some o → os[j]? = some p → o.dst = some s → p.dst = some s → i = j) (s : Nat) : ∀ j, j ≤ os.length →
    ((∀ i o, i < j → os[i]? = some o → o.dst ≠ some s) → look (E j) s = look e s) ∧ (∀ i o, i < j → os[i]? = some o → o.dst = some s → look (E j) s = some (C i, V i))
  | 0, _ => ⟨fun _ => by rw [T.zero], fun i o h => absurd h (by omega)⟩
  | j + 1, hj => by
    obtain ⟨ih1, ih2⟩ := trail_look T uniq s j (by omega)
    have ho : os[j]? = some os[j] := List.getElem?_eq_getElem (by omega)
    have hstep := (T.step j _ ho).1
    have hne : os[j].dst ≠ some s → look (E (j + 1)) s = look (E j) s := by
      intro hne
      rw [hstep]
      cases hd : os[j].dst with
      | none => rfl
      | some d =>
        rw [hd] at hne
        simp only [putE, look]
        rw [if_neg (fun h => hne (by rw [h]))]
    refine ⟨fun h => ?_, fun i o hi hio hd => ?_⟩
    · rw [hne (h j _ (by omega) ho)]
      exact ih1 fun i o hi => h i o (by omega)
    · by_cases c : i = j
      · subst c
        rw [ho] at hio
        cases hio
        rw [hstep, hd]
        simp only [putE, look, if_true]
      · rw [hne (fun h => c (uniq i j o _ s hio ho hd h))]
        exact ih2 i o (by omega) hio hd

theorem wpAnyIn_of_seq {F : Fence} {m : Nat} {md : Region.Mode} {ops : Array Oper} {Q' : Exit → Act → World → Prop} : ∀ (l : List Oper) (k : Nat) (listed : Array Bool) (a : Act) (w : World), (∀ j, l[j]? = ops[k + j]?) →
    Region.seqB md ops l.length k listed = true → wpListIn F m P ops Q' l a w → wpAnyIn F m P md ops Q' l.length listed a w
  | [], _, _, _, _, _, hB, h => ⟨by simpa [Region.seqB] using hB, h⟩
  | o :: l, k, listed, a, w, hl, hB, h => by
    have h0 : ops[k]? = some o := by simpa using (hl 0).symm
    simp only [List.length_cons, Region.seqB, Bool.and_eq_true, decide_eq_true_eq] at hB
    refine ⟨fun h1 => (by rw [hB.1] at h1; cases h1), fun i hi => ?_⟩
    rw [hB.1] at hi
    have hik : i = k := by simpa using hi
    subst hik
    have hw : wpOpIn F m P ops Q' i (wpListIn F m P ops Q' l) a w := by unfold wpOpIn; simp only [h0]; exact h
    exact wpOpIn_mono (fun a' w' h' => wpAnyIn_of_seq l (i + 1) _ a' w' (fun j => by have := hl (j + 1); simpa [Nat.add_assoc, Nat.add_comm 1 j] using this) hB.2 h') hw

def waitsB (o : Oper) (j : Nat) : Bool := o.after.any fun e => Region.binds .any e && e.on == j
theorem waitsB_spec {o : Oper} {j : Nat} (h : waitsB o j = true) : ∃ e ∈ o.after, Region.binds .any e = true ∧ e.on = j := by
  obtain ⟨e, he, hb⟩ := Array.any_eq_true'.1 h
  simp only [Bool.and_eq_true, beq_iff_eq] at hb
  exact ⟨e, he, hb.1, hb.2⟩

/-- Whether two operations of the head do not meet: their slots differ, and what one looks at it waits for. -/
def meetB (l : List Oper) (i j : Nat) (o p : Oper) : Bool :=
  match p.dst with
  | some s => (decide (i = j) || o.dst != some s) && (!(looks l o).contains s || (decide (j < i) && waitsB o j))
  | none => true
def headB (l : List Oper) (h : Nat) : Bool :=
  (List.range h).all fun i => match l[i]? with
    | some o => (o.after.toList.all fun e => !Region.binds .any e || decide (e.on < i)) && (List.range h).all fun j => match l[j]? with
      | some p => meetB l i j o p
      | none => true
    | none => true
def tailB (l : List Oper) (h : Nat) : Bool :=
  (List.range (l.length - h)).all fun k => (List.range (h + k)).all fun j => (List.range (h + k + 1)).any fun q => decide (j < q) && (match l[q]? with | some o => waitsB o j | none => false)
def drawB (l : List Oper) (h : Nat) : Bool :=
  decide (h ≤ l.length) && headB l h && tailB l h && Region.seqB .any l.toArray (l.length - h) h (Array.replicate h true ++ Array.replicate (l.length - h) false)

theorem headB_spec {l : List Oper} {h : Nat} (hB : headB l h = true) {i : Nat} {o : Oper} (hi : i < h) (ho : l[i]? = some o) :
    (∀ e ∈ o.after, Region.binds .any e = true → e.on < i) ∧ ∀ j p s, j < h → l[j]? = some p → p.dst = some s → (o.dst = some s → i = j) ∧ (s ∈ looks l o → j < i ∧ waitsB o j = true) := by
  have h1 := List.all_eq_true.1 hB i (List.mem_range.2 hi)
  simp only [ho, Bool.and_eq_true] at h1
  refine ⟨fun e he hb => ?_, fun j p s hj hp hs => ?_⟩
  · have := List.all_eq_true.1 h1.1 e (by simpa using he)
    simpa [hb] using this
  · have h2 := List.all_eq_true.1 h1.2 j (List.mem_range.2 hj)
    simp only [hp, meetB, hs, Bool.and_eq_true, Bool.or_eq_true, decide_eq_true_eq, bne_iff_ne, Bool.not_eq_true'] at h2
    refine ⟨fun hd => h2.1.resolve_right (fun c => c hd), fun hm => ?_⟩
    rcases h2.2 with h3 | h3
    · have : (looks l o).contains s = true := by simpa using hm
      rw [h3] at this; cases this
    · exact h3

theorem getD_false {listed : Array Bool} {i : Nat} (h : listed.getD i true = false) : ∃ hi : i < listed.size, listed[i] = false := by
  by_cases c : i < listed.size
  · exact ⟨c, by simpa [c] using h⟩
  · simp [Array.getD_eq_getD_getElem?, Array.getElem?_eq_none (Nat.le_of_not_lt c)] at h
theorem getD_true {listed : Array Bool} {i : Nat} (h : listed.getD i false = true) : ∃ hi : i < listed.size, listed[i] = true := by
  by_cases c : i < listed.size
  · exact ⟨c, by simpa [c] using h⟩
  · simp [Array.getD_eq_getD_getElem?, Array.getElem?_eq_none (Nat.le_of_not_lt c)] at h
theorem getD_set' {listed : Array Bool} {i j : Nat} (hi : i < listed.size) (b : Bool) : (listed.setIfInBounds i true).getD j b = if i = j then true else listed.getD j b := by
  by_cases c : i = j
  · subst c; simp [hi]
  · rw [if_neg c]
    simp [Array.getElem?_setIfInBounds_ne c]

structure DInv (w0 : World) (n : Nat) (l : List Oper) (h : Nat) (e : Env) (st : St) (C : Nat → Bool) (V : Nat → AV) (M1 : Mem) (w1 : World) (ds : List Deferred) (listed : Array Bool) (a : Act) (w : World) (M : Mem) : Prop where
  size : listed.size = l.length
  tail : ∀ t, h ≤ t → t < l.length → listed.getD t true = false
  closed : ∀ j oj, l[j]? = some oj → listed.getD j false = true → ∀ e ∈ oj.after, Region.binds .any e = true → listed.getD e.on false = true
  rel : RelSt w0 M st w
  tmps : a.tmps.size = n
  defers : a.defers = ds
  ext : Ext w0 M1 w1 M w
  old : ∀ s x, (∀ i o, i < h → l[i]? = some o → o.dst ≠ some s) → look e s = some x → entryOk w0 M w (a.tmps.getD s undef) x
  new : ∀ i o s, i < h → l[i]? = some o → o.dst = some s → listed.getD i false = true → entryOk w0 M w (a.tmps.getD s undef) (C i, V i)

theorem least_false {listed : Array Bool} {h : Nat} (hn : ¬ ∀ j, j < h → listed.getD j false = true) : ∃ j, j < h ∧ listed.getD j false = false ∧ ∀ i, i < j → listed.getD i false = true := by
  induction h with
  | zero => exact absurd (fun j hj => absurd hj (by omega)) hn
  | succ h ih =>
    by_cases c : ∀ j, j < h → listed.getD j false = true
    · refine ⟨h, by omega, ?_, c⟩
      cases hq : listed.getD h false with
      | false => rfl
      | true =>
        exact absurd (fun j hj => by
          by_cases e : j = h
          · exact e ▸ hq
          · exact c j (by omega)) hn
    · obtain ⟨j, h1, h2, h3⟩ := ih c
      exact ⟨j, by omega, h2, h3⟩

theorem any_draw {l : List Oper} {h : Nat} {e : Env} {st : St} {E : Nat → Env} {C : Nat → Bool} {V : Nat → AV} {M1 : Mem} {w1 : World} {ds : List Deferred} {ro : Option Nat} {m : Nat} {Q : Exit → Act → World → Prop}
    (T : Trail P w0 n l (l.take h) e st E C V) (hB : drawB l h = true)
    (hend : ∀ a w M, Rel w0 n M (E h) st a w → Ext w0 M1 w1 M w → a.defers = ds → wpListIn (FW ro) m P l.toArray Q (l.drop h) a w) :
    ∀ fuel listed a w M, fuel = listed.toList.count false → DInv w0 n l h e st C V M1 w1 ds listed a w M → wpAnyIn (FW ro) m P .any l.toArray Q fuel listed a w := by
  simp only [drawB, Bool.and_eq_true, decide_eq_true_eq] at hB
  obtain ⟨⟨⟨hle, hH⟩, hT⟩, hS⟩ := hB
  have hlen : (l.take h).length = h := by simp; omega
  have hidx : ∀ j, j < h → (l.take h)[j]? = l[j]? := fun j hj => List.getElem?_take_of_lt hj
  have hlt : ∀ {j : Nat} {o : Oper}, (l.take h)[j]? = some o → j < h := fun {j o} hj => by
    have := (List.getElem?_eq_some_iff.1 hj).1; omega
  have uniq : ∀ (i j : Nat) (o p : Oper) (s : Nat), (l.take h)[i]? = some o → (l.take h)[j]? = some p → o.dst = some s → p.dst = some s → i = j := by
    intro i j o p s hi hj hs hs'
    have a1 := hlt hi
    have a2 := hlt hj
    rw [hidx _ a1] at hi
    rw [hidx _ a2] at hj
    exact ((headB_spec hH a1 hi).2 j p s a2 hj hs').1 hs
  have look1 : ∀ s j, j ≤ h → _ := fun s j hj => trail_look T uniq s j (by omega)
  have done : ∀ (listed : Array Bool) (a : Act) (w : World) (M : Mem) (fuel : Nat), fuel = listed.toList.count false → DInv w0 n l h e st C V M1 w1 ds listed a w M → (∀ j, j < h → listed.getD j false = true) →
      wpAnyIn (FW ro) m P .any l.toArray Q fuel listed a w := by
    intro listed a w M fuel hf inv hall
    have hl : listed = Array.replicate h true ++ Array.replicate (l.length - h) false := by
      apply Array.ext
      · simp [inv.size]; omega
      · intro i h1 h2
        by_cases c : i < h
        · have := hall i c
          simp only [Array.getD_eq_getD_getElem?, Array.getElem?_eq_getElem h1, Option.getD_some] at this
          rw [this, Array.getElem_append_left (by simpa using c)]
          simp
        · have := inv.tail i (by omega) (by rw [← inv.size]; exact h1)
          simp only [Array.getD_eq_getD_getElem?, Array.getElem?_eq_getElem h1, Option.getD_some] at this
          rw [this, Array.getElem_append_right (by simpa using c)]
          simp
    have hfl : fuel = (l.drop h).length := by
      rw [hf, hl]
      simp [List.count_append, List.count_replicate]
    have hrel : Rel w0 n M (E h) st a w := by
      refine ⟨inv.rel, inv.tmps, fun s x hs => ?_⟩
      by_cases c : ∃ j p, j < h ∧ l[j]? = some p ∧ p.dst = some s
      · obtain ⟨j, p, hj, hp, hd⟩ := c
        have := (look1 s h (Nat.le_refl _)).2 j p hj (by rw [hidx _ hj]; exact hp) hd
        rw [this] at hs
        cases hs
        exact inv.new j p s hj hp hd (hall j hj)
      · have := (look1 s h (Nat.le_refl _)).1 (fun j p hj hp hd => c ⟨j, p, hj, by rw [← hidx _ hj]; exact hp, hd⟩)
        rw [this] at hs
        exact inv.old s x (fun j p hj hp hd => c ⟨j, p, hj, hp, hd⟩) hs
    rw [hfl]
    refine wpAnyIn_of_seq (l.drop h) h listed a w (fun j => by simp [List.getElem?_drop]) ?_ (hend a w M hrel inv.ext inv.defers)
    rw [hl, List.length_drop]
    exact hS
  have hwaits : ∀ (listed : Array Bool) (t : Nat) (o : Oper), (∀ j oj, l[j]? = some oj → listed.getD j false = true → ∀ e ∈ oj.after, Region.binds .any e = true → listed.getD e.on false = true) →
      l[t]? = some o → h ≤ t → (∀ e ∈ o.after, Region.binds .any e = true → listed.getD e.on false = true) → ∀ d j, j + d + 1 = t → listed.getD j false = true := by
    intro listed t o hcl ho ht haft d
    induction d using Nat.strongRecOn with
    | _ d ih =>
      intro j hj
      have htl : t < l.length := (List.getElem?_eq_some_iff.1 ho).1
      have h1 := List.all_eq_true.1 (List.all_eq_true.1 hT (t - h) (List.mem_range.2 (by omega))) j (List.mem_range.2 (by omega))
      obtain ⟨q, hq, h2⟩ := List.any_eq_true.1 h1
      have hq' : q ≤ t := by have := List.mem_range.1 hq; omega
      simp only [Bool.and_eq_true, decide_eq_true_eq] at h2
      obtain ⟨hjq, h3⟩ := h2
      cases hoq : l[q]? with
      | none => simp [hoq] at h3
      | some oq =>
        simp only [hoq] at h3
        obtain ⟨ed, he1, he2, he3⟩ := waitsB_spec h3
        by_cases c : q = t
        · subst c
          rw [ho] at hoq; cases hoq
          exact he3 ▸ haft ed he1 he2
        · have := ih (t - q - 1) (by omega) q (by omega)
          exact he3 ▸ hcl q oq hoq this ed he1 he2
  intro fuel
  induction fuel with
  | zero =>
    intro listed a w M hf inv
    refine done listed a w M 0 hf inv (fun j hj => ?_)
    cases hq : listed.getD j false with
    | true => rfl
    | false =>
      exfalso
      have hj' : j < listed.size := by rw [inv.size]; omega
      have : false ∈ listed.toList := by
        have e1 : listed[j] = false := by simpa [hj'] using hq
        rw [← e1]; simp
      have := List.count_pos_iff.2 this
      omega
  | succ fuel ih =>
    intro listed a w M hf inv
    by_cases hall : ∀ j, j < h → listed.getD j false = true
    · exact done listed a w M _ hf inv hall
    · obtain ⟨k, hk1, hk2, hk3⟩ := least_false hall
      have hk' : k < listed.size := by rw [inv.size]; omega
      have hkl : l[k]? = some l[k] := List.getElem?_eq_getElem (by omega)
      have hready : k ∈ Region.ready .any l.toArray listed := by
        refine mem_ready.2 ⟨by simpa [hk'] using hk2, l[k], by simp, fun ed he hb => hk3 _ ((headB_spec hH hk1 hkl).1 ed he hb)⟩
      refine ⟨fun h0 => absurd hready (by rw [h0]; simp), fun i hi => ?_⟩
      obtain ⟨hun, o, ho, haft⟩ := mem_ready.1 hi
      have ho' : l[i]? = some o := by simpa using ho
      have hil : i < l.length := (List.getElem?_eq_some_iff.1 ho').1
      have hih : i < h := by
        refine Nat.lt_of_not_le fun hge => ?_
        have := hwaits listed i o inv.closed ho' hge haft (i - k - 1) k (by omega)
        rw [hk2] at this; cases this
      obtain ⟨t1, t2, t3, t4, t5⟩ := T.step i o (by rw [hidx _ hih]; exact ho')
      have hspec := headB_spec hH hih ho'
      have hrel : Rel w0 n M (view true l o (E i)) st a w := by
        refine ⟨inv.rel, inv.tmps, fun s x hs => ?_⟩
        simp only [view, if_true] at hs
        have hm := mem_keepL _ _ _ _ hs
        have hl := look_keepL _ _ _ _ hs
        by_cases c : ∃ j p, j < h ∧ l[j]? = some p ∧ p.dst = some s
        · obtain ⟨j, p, hj, hp, hd⟩ := c
          obtain ⟨hji, hw⟩ := (hspec.2 j p s hj hp hd).2 hm
          obtain ⟨ed, he1, he2, he3⟩ := waitsB_spec hw
          have hlj : listed.getD j false = true := he3 ▸ haft ed he1 he2
          have := (look1 s i (by omega)).2 j p hji (by rw [hidx _ hj]; exact hp) hd
          rw [this] at hl
          cases hl
          exact inv.new j p s hj hp hd hlj
        · have := (look1 s i (by omega)).1 (fun j p hj hp hd => c ⟨j, p, by omega, by rw [← hidx _ (by omega)]; exact hp, hd⟩)
          rw [this] at hl
          exact inv.old s x (fun j p hj hp hd => c ⟨j, p, hj, hp, hd⟩) hl
      unfold wpOpIn
      simp only [ho]
      have hi' : i < listed.size := by rw [inv.size]; omega
      refine oneOk_sound hrel ro m t2 (by rw [t4]; exact t5) Q _ fun v w' M' hx hst hv => ?_
      rw [t4] at hv
      refine ih _ _ _ M' ?_ ?_
      · have hiu : listed[i] = false := by simpa [hi'] using hun
        have hpos : 0 < listed.toList.count false := List.count_pos_iff.2 (by rw [← hiu]; simp)
        rw [Array.toList_setIfInBounds, List.count_set (by simpa using hi')]
        simp only [Array.getElem_toList, hiu]
        rw [if_pos (show (false == false) = true from rfl), if_neg (show ¬ (true == false) = true by decide)]
        omega
      · have keep : ∀ s x, o.dst ≠ some s → entryOk w0 M w (a.tmps.getD s undef) x → entryOk w0 M' w' ((a.put o.dst v).tmps.getD s undef) x := by
          intro s x hne h1
          rw [getD_put a o.dst v s (by rw [inv.tmps]; exact t3), if_neg hne]
          exact h1.mono hx
        refine ⟨by simp [inv.size], fun t h1 h2 => ?_, fun j oj hj hl ed he hb => ?_, hst, by rw [size_put]; exact inv.tmps, by rw [defers_put]; exact inv.defers, inv.ext.trans hx, fun s x h1 h2 => ?_, fun j p s hj hp hd hl => ?_⟩
        · rw [getD_set' hi', if_neg (by omega)]; exact inv.tail t h1 h2
        · rw [getD_set' hi'] at hl ⊢
          split
          · rfl
          · by_cases c : i = j
            · subst c
              rw [ho'] at hj; cases hj
              exact haft ed he hb
            · rw [if_neg c] at hl
              exact inv.closed j oj hj hl ed he hb
        · exact keep s x (h1 i o hih ho') (inv.old s x h1 h2)
        · by_cases c : i = j
          · subst c
            rw [ho'] at hp; cases hp
            rw [getD_put a o.dst v s (by rw [inv.tmps]; exact t3), if_pos hd]
            exact hv
          · rw [getD_set' hi', if_neg c] at hl
            refine keep s _ (fun hs => c ((hspec.2 j p s hj hp hd).1 hs)) (inv.new j p s hj hp hd hl)

theorem awp_draw {M0 : Mem} {W0 : World} {ro : Option Nat} {Q : AQ} {e : Env} {st : St} (hm : P.follows .mixedOrders = true) (h : Nat) (c1 c2 : Nat) (L : List Nat) {id : Nat} {l : List Oper} (hB : drawB l h = true)
    (hev : evK P w0 n true l (fun e1 s1 => evK P w0 n false l (fun e2 s2 => Q .normal (keepL L e2) s2) c2 (l.drop h) e1 s1) c1 (l.take h) e st) : awp P w0 n M0 W0 ro (.region id l.toArray true) Q e st := by
  intro m M a w hr
  obtain ⟨E, C, V, T, h2⟩ := trail_of _ _ _ hev
  have hle : h ≤ l.length := by
    simp only [drawB, Bool.and_eq_true, decide_eq_true_eq] at hB; exact hB.1.1.1
  have hlen : (l.take h).length = h := by simp; omega
  rw [hlen] at h2
  obtain ⟨d1, d2⟩ := hr.rel.st.drew
  refine wpIn_region_any hm (any_draw T hB (M1 := M) (w1 := w) (ds := a.defers) (fun a1 w1 M1 hr1 hx1 hd1 => ?_) _ _ a _ M (by simp) ?_)
  · refine evK_sound ro m false l _ _ c2 _ _ st a1 w1 M1 hr1 h2 fun e2 s2 a2 w2 M2 k2 r2 x2 q2 => ⟨M2, _, _, ⟨r2.sub (sub_keepL L _), hr.ext.trans (hx1.trans x2), ?_⟩, k2⟩
    rw [q2, hd1]
    exact hr.marks.later (hx1.trans x2) hr.rel.st
  · exact ⟨by simp, fun t _ ht => by simp [Array.getD_eq_getD_getElem?, ht], fun j _ _ hl => by
      exfalso
      by_cases c : j < l.length
      · simp [Array.getD_eq_getD_getElem?, c] at hl
      · simp [Array.getD_eq_getD_getElem?, c] at hl, d1, hr.rel.size, rfl, d2, fun s x _ hs => (hr.rel.env s x hs).mono d2, fun j _ _ _ _ _ hl => by
      exfalso
      by_cases c : j < l.length
      · simp [Array.getD_eq_getD_getElem?, c] at hl
      · simp [Array.getD_eq_getD_getElem?, c] at hl⟩
end
end Go.Ev
