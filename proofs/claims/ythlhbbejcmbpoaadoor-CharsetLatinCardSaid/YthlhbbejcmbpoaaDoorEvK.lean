/-
  A loop over a function: the iterator's contract over whatever a round does; the loop's rule.
-/
import Derived.Test.YthlhbbejcmbpoaaDoorEvH
import Derived.RangeFuncIn
namespace Go.Ev
open Go Go.RowKit

def St.ext (s X : St) : St := ⟨s.boxes ++ X.boxes, s.rows ++ X.rows, s.loops ++ X.loops⟩
def St.push (s : St) (la : LoopA) : St := { s with loops := s.loops ++ [la] }
def St.like (s t : St) : Prop := s.boxes.length = t.boxes.length ∧ t.rows.length ≤ s.rows.length ∧ s.loops.length = t.loops.length

/-- What an iterator owes: called with the yield of loop k it calls it with one item after the other, as long as the rounds go on. 'J i': what holds when i rounds are over; 'Jx': when a round has ended the loop; 'Fr': what the iterator itself asks of the state. -/
def AIter (P : Program) (w0 : World) (gf : FuncId) (caps : List AV) (items : List (List AV)) (Fr : St → Prop) : Prop :=
  ∀ (k : Nat) (J : Nat → St → Prop) (Jx : St → Prop), (∀ i s, J i s → Fr s ∧ k < s.loops.length) →
    (∀ i s x X, X.rows = [] → J i s → items[i]? = some x → YRound P w0 k x (s.ext X) fun r s' => ∃ t, s' = t.ext X ∧ t.like s ∧ ((r = .val (.bool true) ∧ J (i + 1) t) ∨ (r = .val (.bool false) ∧ Jx t))) →
    ∀ s, J 0 s → ACalls P w0 gf (.yld k :: caps) s fun _ s' => J items.length s' ∨ Jx s'

def bindE : Env → List Nat → List AV → Env
  | e, p :: ps, x :: xs => bindE ((p, true, x) :: e) ps xs
  | e, _, _ => e

section
variable {P : Program} {w0 : World} {n : Nat} {M : Mem} {e : Env} {st : St} {a : Act} {w : World}

theorem Rel.bind : ∀ (ps : List Nat) (vs : List Value) (xs : List AV) (e : Env) (a : Act), Rel w0 n M e st a w → ps.length = xs.length → (∀ p ∈ ps, p < n) → vs.length = xs.length → (∀ (i : Nat) (v : Value) (x : AV), vs[i]? = some v → xs[i]? = some x → R w0 M w v x) →
    Rel w0 n M (bindE e ps xs) st { tmps := (ps.zip vs).foldl (fun t (p, v) => t.setIfInBounds p v) a.tmps, defers := a.defers } w
  | [], [], [], _, _, h, _, _, _, _ => h
  | p :: ps, v :: vs, x :: xs, e, a, h, h1, h2, h3, h4 => by
    simp only [List.zip_cons_cons, List.foldl_cons, bindE]
    have hp : p < n := h2 p (by simp)
    have := h.put (M' := M) (w' := w) (st' := st) (.refl _ _ _) h.st (dst := some p) hp (c := true) (v := v) (r := x) (h4 0 v x rfl rfl)
    exact Rel.bind ps vs xs _ (a.put (some p) v) this (by simpa using h1) (fun q hq => h2 q (by simp [hq])) (by simpa using h3) (fun i u y hu hy => h4 (i + 1) u y hu hy)
  | [], _ :: _, [], _, _, _, _, _, h, _ => by simp at h
  | [], _, _ :: _, _, _, _, h, _, _, _ => by simp at h
  | _ :: _, _, [], _, _, _, h, _, _, _ => by simp at h
  | _ :: _, [], _ :: _, _, _, _, _, _, h, _ => by simp at h

/-- The record of a loop of ours is turned. -/
theorem RelSt.setLoop (h : RelSt w0 M st w) {k : Nat} {la : LoopA} (hk : st.loops[k]? = some la) (s : LoopState) (p : Option Code) {r : Loop} (hr : w.heap[M.lb k]? = some (.loop r)) :
    RelSt w0 M { st with loops := st.loops.set k { la with st := s, pend := p } } (w.putObj (M.lb k) (.loop { r with state := s, pending := p })) ∧ Ext w0 M w M (w.putObj (M.lb k) (.loop { r with state := s, pending := p })) := by
  have hkl : k < st.loops.length := (List.getElem?_eq_some_iff.1 hk).1
  have hkN : k < M.NL := by rw [h.loop.NL]; exact hkl
  have hlt : M.lb k < w.heap.size := (Array.getElem?_eq_some_iff.1 hr).1
  obtain ⟨g0, r0, g1, g2, g3, g4, g5, g6, g7, g8⟩ := h.loop.record k la hk
  rw [hr] at g1
  cases g1
  generalize ho' : Obj.loop { r with state := s, pending := p } = o'
  have hs : ∀ (b off : Nat) (v : Value), w.cell? ⟨b, off, none⟩ = some v → (w.putObj (M.lb k) o').cell? ⟨b, off, none⟩ = some v := fun b off v => cell_putObj hr rfl
  have hc : ∀ {b : Nat} {c : Array Value} {ty : TypeId}, w.heap[b]? = some (.cells c ty (0, 0)) → (w.putObj (M.lb k) o').heap[b]? = some (.cells c ty (0, 0)) := by
    intro b c ty hb
    rw [World.putObj_heap_other (fun e => by subst e; rw [hr] at hb; cases hb)]
    exact hb
  refine ⟨⟨Below.putObj h.below g0 _, h.N, h.NR, fun b hb => h.top b (by simpa using hb), h.inj, fun l cs hl' => ?_, fun id m sz hm => ?_, h.rowinj, ⟨by simp [h.loop.NL], h.loop.inj, fun j lj hj => ?_⟩⟩,
    ⟨Nat.le_refl _, fun _ _ => rfl, Nat.le_refl _, fun _ _ => ⟨Nat.le_refl _, fun _ => ⟨rfl, rfl, rfl⟩⟩, fun b off v h1 h2 => ⟨hs b off v h2, h1⟩, by simp, Nat.le_refl _, fun _ _ => rfl, fun _ _ _ => by omega, fun b o h1 _ h3 => ?_⟩⟩
  · obtain ⟨a1, a2, c, ty, a3, a4, a5, a6⟩ := h.box l cs hl'
    exact ⟨a1, a2, c, ty, hc a3, a4, a5, fun i b1 b2 => (a6 i b1 b2).same hs⟩
  · obtain ⟨a1, a2, a3, a4, a5, a6, a7, c, ty, a8, a9⟩ := h.row id m sz hm
    exact ⟨a1, a2, a3, a4, a5, a6, a7, c, ty, hc a8, a9⟩
  · by_cases q : j = k
    · subst q
      rw [List.getElem?_set_self hkl] at hj
      cases hj
      exact ⟨g0, { r with state := s, pending := p }, by rw [← ho']; exact World.putObj_heap_same hlt, rfl, rfl, g4, g5, g6, g7, fun s x hs' => (g8 s x hs').same hs⟩
    · rw [List.getElem?_set_ne (Ne.symm q)] at hj
      have hjN : j < M.NL := by rw [h.loop.NL]; exact (List.getElem?_eq_some_iff.1 hj).1
      obtain ⟨a1, r, a2, a3, a4, a5, a6, a7, a8, a9⟩ := h.loop.record j lj hj
      exact ⟨a1, r, by rw [World.putObj_heap_other (fun e => q (h.loop.inj j k hjN hkN e))]; exact a2, a3, a4, a5, a6, a7, a8, fun s x hs' => (a9 s x hs').same hs⟩
  · rw [World.putObj_heap_other (fun e => h3 k hkN e.symm)]
    exact h1

def Mem.newLoop (M : Mem) (b : Nat) : Mem := { M with NL := M.NL + 1, lb := fun k => if k = M.NL then b else M.lb k }
/-- A loop begins. -/
theorem Rel.newLoop (h : Rel w0 n M e st a w) (fn : FuncId) (ps : Array Tmp) (asg body : Code) :
    RelSt w0 (M.newLoop (w.heap.size + 1)) (st.push ⟨e, n, ps, asg, body, .ready, none⟩) ((w.alloc (.deferred (some []))).alloc (.loop { state := .ready, pending := none, fn, tmps := a.tmps, params := ps, assign := asg, body, defers := w.heap.size })) ∧
    Ext w0 M w (M.newLoop (w.heap.size + 1)) ((w.alloc (.deferred (some []))).alloc (.loop { state := .ready, pending := none, fn, tmps := a.tmps, params := ps, assign := asg, body, defers := w.heap.size })) := by
  generalize hr : ({ state := .ready, pending := none, fn, tmps := a.tmps, params := ps, assign := asg, body, defers := w.heap.size } : Loop) = r
  have hkeep : KeepsObj w ((w.alloc (.deferred (some []))).alloc (.loop r)) := (KeepsObj.alloc _ _).trans (KeepsObj.alloc _ _)
  have hcell : ∀ (b off : Nat) (v : Value), w.cell? ⟨b, off, none⟩ = some v → ((w.alloc (.deferred (some []))).alloc (.loop r)).cell? ⟨b, off, none⟩ = some v := by
    intro b off v hv
    have hlt := World.block_lt_of_cell? w _ hv
    rw [World.cell?_alloc_lt _ _ _ (by simp; exact Nat.lt_succ_of_lt hlt), World.cell?_alloc_lt _ _ _ hlt]
    exact hv
  have hlb : ∀ k, k < M.NL → (M.newLoop (w.heap.size + 1)).lb k = M.lb k := fun k hk => by simp [Mem.newLoop]; omega
  have hnew : (M.newLoop (w.heap.size + 1)).lb M.NL = w.heap.size + 1 := by simp [Mem.newLoop]
  have hx : Ext w0 M w (M.newLoop (w.heap.size + 1)) ((w.alloc (.deferred (some []))).alloc (.loop r)) :=
    ⟨Nat.le_refl _, fun _ _ => rfl, Nat.le_refl _, fun _ _ => ⟨Nat.le_refl _, fun _ => ⟨rfl, rfl, rfl⟩⟩, fun b off v h1 h2 => ⟨hcell b off v h2, h1⟩, by simp; omega, Nat.le_succ _, hlb, fun k h1 h2 => by
      have : k = M.NL := by simp only [Mem.newLoop] at h2; omega
      rw [this, hnew]; omega, fun b o h1 h2 _ => hkeep b o h1 h2⟩
  have hh : ∀ {b : Nat}, b < w.heap.size → ((w.alloc (.deferred (some []))).alloc (.loop r)).heap[b]? = w.heap[b]? := fun {b} hb => by
    rw [heap_alloc_lt _ _ (by simp; omega), heap_alloc_lt _ _ hb]
  refine ⟨⟨(h.st.below.alloc h.st.base_le _).alloc (by have := h.st.base_le; simp; omega) _, h.st.N, h.st.NR, fun b hb => h.st.top b (by simp at hb; omega), h.st.inj, fun l cs hl => ?_, fun id m sz hm => ?_, h.st.rowinj, ⟨by simp [Mem.newLoop, St.push, h.st.loop.NL], fun k k' hk hk' q => ?_, fun k la hk => ?_⟩⟩, hx⟩
  · obtain ⟨a1, a2, c, ty, a3, a4, a5, a6⟩ := h.st.box l cs hl
    exact ⟨a1, a2, c, ty, by rw [show (M.newLoop (w.heap.size + 1)).bx l = M.bx l from rfl, hh (Array.getElem?_eq_some_iff.1 a3).1]; exact a3, a4, a5, fun i b1 b2 => (a6 i b1 b2).mono hx⟩
  · obtain ⟨a1, a2, a3, a4, a5, a6, a7, c, ty, a8, a9⟩ := h.st.row id m sz hm
    exact ⟨a1, a2, a3, a4, a5, a6, a7, c, ty, by rw [show (M.newLoop (w.heap.size + 1)).blk id = M.blk id from rfl, hh (Array.getElem?_eq_some_iff.1 a8).1]; exact a8, a9⟩
  · have hlt : ∀ j, j < M.NL → M.lb j < w.heap.size := fun j hj => by
      obtain ⟨_, r, q, _⟩ := h.st.loop.record j _ (List.getElem?_eq_getElem (by rw [← h.st.loop.NL]; exact hj))
      exact (Array.getElem?_eq_some_iff.1 q).1
    simp only [Mem.newLoop] at hk hk'
    by_cases c : k = M.NL
    · by_cases c' : k' = M.NL
      · omega
      · subst c
        rw [hnew, hlb k' (by omega)] at q
        have := hlt k' (by omega)
        omega
    · by_cases c' : k' = M.NL
      · subst c'
        rw [hnew, hlb k (by omega)] at q
        have := hlt k (by omega)
        omega
      · rw [hlb k (by omega), hlb k' (by omega)] at q
        exact h.st.loop.inj k k' (by omega) (by omega) q
  · simp only [St.push] at hk
    by_cases c : k = st.loops.length
    · subst c
      simp only [List.getElem?_concat_length, Option.some.injEq] at hk
      subst hk
      rw [← h.st.loop.NL, hnew]
      refine ⟨by have := h.st.base_le; omega, r, ?_, ?_⟩
      · have := World.alloc_heap_new (w.alloc (.deferred (some []))) (.loop r)
        rwa [World.size_alloc] at this
      · have et : r.tmps = a.tmps := by rw [← hr]
        exact ⟨by rw [← hr], by rw [← hr], by rw [← hr], by rw [← hr], by rw [← hr], by rw [et]; exact h.size, fun s x hs => by rw [et]; exact (h.env s x hs).mono hx⟩
    · have hk' : k < st.loops.length := by
        have := (List.getElem?_eq_some_iff.1 hk).1
        simp at this; omega
      rw [List.getElem?_append_left hk'] at hk
      obtain ⟨a1, r', a2, a3, a4, a5, a6, a7, a8, a9⟩ := h.st.loop.record k la hk
      rw [hlb k (by rw [h.st.loop.NL]; exact hk')]
      exact ⟨a1, r', hkeep _ _ a2 rfl, a3, a4, a5, a6, a7, a8, fun s x hs => (a9 s x hs).mono hx⟩

/-- What is asked where the body of a round is left: the caller's part of the state, the iterator's as it was, behind them what the round made for itself. -/
def roundQ (I : Exit → St → Prop) (s1 X : St) (la : LoopA) : AQ := fun x _ s =>
  ∃ t b, s = ⟨t.boxes ++ X.boxes ++ b, t.rows, (s1.loops ++ [la]) ++ X.loops⟩ ∧ t.like s1 ∧ t.loops = s1.loops ∧ I x t ∧
    (b = [] ∨ Calm (s1.boxes.length + X.boxes.length) t.rows.length s.loops.length ⟨t.boxes ++ X.boxes, t.rows, s.loops⟩)

/-- How a round is left. -/
def leftBy : Exit → Option (Option Code)
  | .normal => some none
  | .ret => some (some .ret)
  | .exit id => some (some (.exit id))
  | _ => none

theorem round_end {M0 : Mem} {W0 : World} {I : Exit → St → Prop} {s1 X : St} (hX : X.rows = []) {la : LoopA} {Post : AV → St → Prop} {x : Exit} {jump : Option Code}
    (h0 : RelSt w0 M0 ((s1.push { la with st := .ready, pend := none }).ext X) W0) (hx0 : Ext w0 M0 W0 M w) {e' : Env} {s' : St} (hr : RelSt w0 M s' w) (hq : roundQ I s1 X { la with st := .busy, pend := none } x e' s')
    (hpost : ∀ t, t.like s1 → t.loops = s1.loops → I x t → Post (.val (.bool jump.isNone)) ((t.push { la with st := if jump.isNone then .ready else .done, pend := jump }).ext X)) :
    ∃ v w', (Instr.endRound (M0.lb s1.loops.length) jump).run P w = .ok v w' ∧ Comes' w0 M0 W0 Post (.returned v) w' := by
  obtain ⟨t, b, rfl, t1, t2, t3, t4⟩ := hq
  have hk : ((s1.loops ++ [{ la with st := .busy, pend := none }]) ++ X.loops)[s1.loops.length]? = some { la with st := .busy, pend := none } := by
    rw [List.getElem?_append_left (by simp), List.getElem?_concat_length]
  obtain ⟨_, rec, g1, _⟩ := hr.loop.record _ _ hk
  have hkM0 : s1.loops.length < M0.NL := by rw [h0.loop.NL]; simp [St.ext, St.push]
  rw [← hx0.lb _ hkM0]
  obtain ⟨r1, r2⟩ := hr.setLoop hk (if jump.isNone then .ready else .done) jump g1
  refine ⟨_, _, run_endRound jump g1, ?_⟩
  have hL : ((s1.loops ++ [{ la with st := .busy, pend := none }]) ++ X.loops).set s1.loops.length { la with st := if jump.isNone then .ready else .done, pend := jump } = (s1.loops ++ [{ la with st := if jump.isNone then .ready else .done, pend := jump }]) ++ X.loops := by
    rw [List.set_append_left _ _ (by simp), List.set_append_right _ _ (by simp)]
    simp
  simp only at r1
  rw [hL] at r1
  have hx1 := hx0.trans r2
  have hd : M0.N = s1.boxes.length + X.boxes.length ∧ M0.NR = s1.rows.length ∧ M0.NL = s1.loops.length + 1 + X.loops.length := by
    refine ⟨by rw [h0.N]; simp [St.ext, St.push], by rw [h0.NR]; simp [St.ext, St.push, hX], by rw [h0.loop.NL]; simp [St.ext, St.push]; omega⟩
  obtain ⟨l1, l2, l3⟩ := t1
  have hP := hpost t ⟨l1, l2, l3⟩ t2 t3
  have hst : (t.push { la with st := if jump.isNone then .ready else .done, pend := jump }).ext X = ⟨t.boxes ++ X.boxes, t.rows, (s1.loops ++ [{ la with st := if jump.isNone then .ready else .done, pend := jump }]) ++ X.loops⟩ := by
    simp only [St.push, St.ext, t2, hX, List.append_nil]
  rw [hst] at hP
  have hbool : ∀ M' w', R w0 M' w' (.bool jump.isNone) (.val (.bool jump.isNone)) := fun _ _ => .flat rfl
  rcases t4 with rfl | t4
  · simp only [List.append_nil] at r1
    exact ⟨_, M, _, _, rfl, hP, hx1, r1, hbool _ _⟩
  · refine ⟨_, M.cut (s1.boxes.length + X.boxes.length) t.rows.length (s1.loops.length + 1 + X.loops.length), _, _, rfl, hP, hx1.cut (by omega) (by omega) (by omega) (by rw [r1.loop.NL]; simp; omega), ?_, hbool _ _⟩
    have hcut := r1.cut (nb := s1.boxes.length + X.boxes.length) (nr := t.rows.length) (nl := s1.loops.length + 1 + X.loops.length) (by simp; omega) (by simp) (by simp; omega)
    have e1 : List.take (s1.boxes.length + X.boxes.length) (t.boxes ++ X.boxes ++ b) = t.boxes ++ X.boxes := List.take_left' (by simp; omega)
    have e2 : List.take t.rows.length t.rows = t.rows := List.take_length
    have e3 : ∀ la', List.take (s1.loops.length + 1 + X.loops.length) (s1.loops ++ [la'] ++ X.loops) = s1.loops ++ [la'] ++ X.loops := fun la' => List.take_of_length_le (by simp; omega)
    simp only [St.cut, e1, e2, e3] at hcut
    have e4 : (s1.loops ++ [{ la with st := LoopState.busy, pend := none }] ++ X.loops).length = s1.loops.length + 1 + X.loops.length := by simp; omega
    refine hcut ⟨?_, fun la' hla k y hy ht => ?_⟩
    · have := t4.boxes
      simp only [e4] at this
      exact this
    · have q := t4.loops
      simp only [e4] at q
      simp only [List.mem_append, List.mem_singleton] at hla q
      rcases hla with (hla | rfl) | hla
      · exact q la' (.inl (.inl hla)) k y hy ht
      · exact q { la with st := .busy, pend := none } (.inl (.inr rfl)) k y hy ht
      · exact q la' (.inr hla) k y hy ht

/-- A round, out of the assignment to the loop's left sides and the body. -/
theorem yRound_of {la : LoopA} {s1 X : St} (hX : X.rows = []) {I : Exit → St → Prop} {x : List AV} {Post : AV → St → Prop} (hlen : x.length = la.ps.size) (hps : ∀ p ∈ la.ps.toList, p < la.n)
    (hbody : ∀ (M0 : Mem) (W0 : World) (l : Nat), awp P w0 la.n M0 W0 (some l) la.asg (thenA (fun e' s' => s' = (s1.push { la with st := .ready, pend := none }).ext X ∧
      awp P w0 la.n M0 W0 (some l) la.body (roundQ I s1 X { la with st := .busy, pend := none }) e' ((s1.push { la with st := .busy, pend := none }).ext X)) (fun _ _ _ => False))
      (bindE la.e la.ps.toList x) ((s1.push { la with st := .ready, pend := none }).ext X))
    (hI : ∀ ex s, I ex s → (leftBy ex).isSome = true)
    (hpost : ∀ ex jump t, leftBy ex = some jump → t.like s1 → t.loops = s1.loops → I ex t → Post (.val (.bool jump.isNone)) ((t.push { la with st := if jump.isNone then .ready else .done, pend := jump }).ext X)) :
    YRound P w0 s1.loops.length x ((s1.push { la with st := .ready, pend := none }).ext X) Post := by
  intro M w vals hst hrow
  have hk : ((s1.push { la with st := .ready, pend := none }).ext X).loops[s1.loops.length]? = some { la with st := .ready, pend := none } := by
    simp only [St.ext, St.push]
    rw [List.getElem?_append_left (by simp), List.getElem?_concat_length]
  obtain ⟨_, r, g1, g2, g3, g4, g5, g6, g7, g8⟩ := hst.loop.record _ _ hk
  simp only at g2 g3 g4 g5 g6 g7 g8
  have hy := run_yield (P := P) (args := vals) g1 (by rw [g4, hrow.1, hlen])
  refine ⟨_, _, _, _, hy, fun m => roundIn_of_wpIn (F := Fence.wide) trivial ?_⟩
  rw [g5, g6]
  have hrel0 : Rel w0 la.n M la.e ((s1.push { la with st := .ready, pend := none }).ext X) { tmps := r.tmps, defers := [] } w := ⟨hst, g7, g8⟩
  have hrel := Rel.bind la.ps.toList vals.toList x la.e _ hrel0 (by simp [hlen]) hps (by simp [hrow.1]) (fun i v y hv hy => hrow.get (by rw [← Array.getElem?_toList]; exact hv) hy)
  have etm : (r.params.zip vals).foldl (fun tmps (t, a) => tmps.setIfInBounds t a) r.tmps = (la.ps.toList.zip vals.toList).foldl (fun t (p, v) => t.setIfInBounds p v) r.tmps := by
    rw [g4, ← Array.foldl_toList, Array.toList_zip]
  rw [etm]
  refine wpIn_mono (hbody M w (M.lb s1.loops.length) m M _ w ⟨hrel, .refl _ _ _, [], by simp⟩) ?_
  rintro ex a1 w1 ⟨M1, e1, s', h1, h2⟩
  cases ex with
  | normal =>
    obtain ⟨rfl, hb⟩ := h2
    obtain ⟨_, r1, k1, k2, _⟩ := h1.rel.st.loop.record _ _ hk
    have hkM : s1.loops.length < M.NL := by rw [hst.loop.NL]; simp [St.ext, St.push]
    have hlb := h1.ext.lb _ hkM
    rw [hlb] at k1
    refine ⟨_, run_beginRound k1 k2, ?_⟩
    obtain ⟨z1, z2⟩ := h1.rel.st.setLoop hk .busy none (by rw [hlb]; exact k1)
    rw [hlb] at z1 z2
    have hpend : r1.pending = none := by
      obtain ⟨_, r1', k1', _, k3', _⟩ := h1.rel.st.loop.record _ _ hk
      rw [hlb, k1] at k1'
      cases k1'
      exact k3'
    have er : ({ r1 with state := LoopState.busy, pending := none } : Loop) = { r1 with state := LoopState.busy } := by rw [← hpend]
    rw [er] at z1 z2
    have eL : { ((s1.push { la with st := .ready, pend := none }).ext X) with loops := ((s1.push { la with st := .ready, pend := none }).ext X).loops.set s1.loops.length { la with st := .busy, pend := none } } = (s1.push { la with st := .busy, pend := none }).ext X := by
      simp only [St.ext, St.push]
      rw [List.set_append_left _ _ (by simp), List.set_append_right _ _ (by simp)]
      simp
    simp only at z1
    rw [eL] at z1
    have hat : At w0 la.n M w e1 ((s1.push { la with st := .busy, pend := none }).ext X) a1 (w1.putObj (M.lb s1.loops.length) (.loop { r1 with state := .busy })) M1 :=
      ⟨⟨z1, h1.rel.size, fun s x hs => (h1.rel.env s x hs).mono z2⟩, h1.ext.trans z2, h1.marks.later z2 h1.rel.st⟩
    refine wpIn_mono (hb m M1 a1 _ hat) ?_
    rintro ex a2 w2 ⟨M2, e2, s2, h3, h4⟩
    have hsome := hI ex
    have fin : ∀ jump, leftBy ex = some jump → ∃ v w', (Instr.endRound (M.lb s1.loops.length) jump).run P w2 = .ok v w' ∧ Comes' w0 M w Post (.returned v) w' := fun jump hj =>
      round_end hX (jump := jump) hst h3.ext h3.rel.st h4 (fun t t1 t2 t3 => hpost ex jump t hj t1 t2 t3)
    obtain ⟨t, b, q1, q2, q3, q4, q5⟩ := h4
    have := hsome t q4
    cases ex with
    | normal => exact fin _ rfl
    | ret => exact fin _ rfl
    | exit id => exact fin _ rfl
    | _ => simp [leftBy] at this
  | _ => exact h2.elim

/-- THE LOOP. 'I i': what holds when i rounds are over; 'Ix': when a round has left the loop. -/
theorem awp_range {M0 : Mem} {W0 : World} {Q : AQ} {g : Operand} {ps : Array Tmp} {asg body : Code} {gf : FuncId} {caps : List AV} (items : List (List AV)) (Fr : St → Prop) (I : Nat → St → Prop) (Ix : Exit → St → Prop)
    (hg : argOk e true g) (hgv : argV e g = .clo gf caps) (hit : AIter P w0 gf caps items Fr) (hlen : ∀ x ∈ items, x.length = ps.size) (hps : ∀ p ∈ ps.toList, p < n)
    (hFr : ∀ i s la, I i s → s.like st → s.loops = st.loops → Fr (s.push la)) (h0 : I 0 st) (hIx : ∀ ex s, Ix ex s → ex = .ret ∨ ∃ id, ex = .exit id)
    (hbody : ∀ (i : Nat) (s1 X : St) (x : List AV) (M0 : Mem) (W0 : World) (l : Nat) (la la' : LoopA), X.rows = [] → I i s1 → s1.like st → s1.loops = st.loops → items[i]? = some x →
      ∀ K : Env → St → Prop, (∀ e' s', s' = (s1.push la).ext X → (∀ KQ : AQ, (∀ ex e s, roundQ (fun ex s => match ex with | .normal => I (i + 1) s | _ => Ix ex s) s1 X la' ex e s → KQ ex e s) → awp P w0 n M0 W0 (some l) body KQ e' ((s1.push la').ext X)) → K e' s') →
      awp P w0 n M0 W0 (some l) asg (thenA K (fun _ _ _ => False)) (bindE e ps.toList x) ((s1.push la).ext X))
    (hdone : ∀ s la, I items.length s → s.like st → s.loops = st.loops → Q .normal e (s.push la))
    (hleft : ∀ ex s la, Ix ex s → s.like st → s.loops = st.loops → Q ex e (s.push la)) : awp P w0 n M0 W0 none (.rangeFunc g ps asg body) Q e st := by
  intro m M a w hr
  refine wpIn_rangeFunc fun fn _ => ?_
  obtain ⟨n1, n2⟩ := hr.rel.newLoop fn ps asg body
  obtain ⟨cs, hcs, hrow⟩ := clo_inv (hgv ▸ arg_R hr.rel hg)
  generalize hW1 : ((w.alloc (.deferred (some []))).alloc (.loop { state := .ready, pending := none, fn, tmps := a.tmps, params := ps, assign := asg, body, defers := w.heap.size })) = W1 at n1 n2
  generalize hM1 : M.newLoop (w.heap.size + 1) = M1 at n1 n2
  have hNL : M.NL = st.loops.length := hr.rel.st.loop.NL
  have hlbk : M1.lb st.loops.length = w.heap.size + 1 := by rw [← hM1, ← hNL]; simp [Mem.newLoop]
  have hlbo : ∀ k, k < st.loops.length → M1.lb k < w.heap.size := fun k hk => by
    obtain ⟨_, r, q, _⟩ := hr.rel.st.loop.record k _ (List.getElem?_eq_getElem hk)
    rw [n2.lb k (by omega)]
    exact (Array.getElem?_eq_some_iff.1 q).1
  have hNL1 : M1.NL = st.loops.length + 1 := by rw [n1.loop.NL]; simp [St.push]
  have hmark1 : W1.heap[w.heap.size]? = some (.deferred (some [])) := by
    rw [← hW1]; exact (heap_alloc_lt _ _ (by simp)).trans (World.alloc_heap_new w _)
  let la0 : LoopA := ⟨e, n, ps, asg, body, .ready, none⟩
  let J : Nat → St → Prop := fun i s => ∃ s1, I i s1 ∧ s1.like st ∧ s1.loops = st.loops ∧ s = s1.push la0
  let Jx : St → Prop := fun s => ∃ ex c s1, leftBy ex = some (some c) ∧ Ix ex s1 ∧ s1.like st ∧ s1.loops = st.loops ∧ s = s1.push { la0 with st := .done, pend := some c }
  have hcall := hit st.loops.length J Jx (fun i s ⟨s1, j1, j2, j3, j4⟩ => ⟨by rw [j4]; exact hFr i s1 la0 j1 j2 j3, by rw [j4]; simp [St.push, j3]⟩)
    (fun i s x X hX ⟨s1, j1, j2, j3, j4⟩ hx => by
      subst j4
      have := yRound_of hX (P := P) (w0 := w0) (la := la0) (s1 := s1) (X := X) (I := fun ex s => match ex with | .normal => I (i + 1) s | _ => Ix ex s) (x := x)
        (Post := fun r s' => ∃ t, s' = t.ext X ∧ t.like (s1.push la0) ∧ ((r = .val (.bool true) ∧ J (i + 1) t) ∨ (r = .val (.bool false) ∧ Jx t)))
        (hlen x (List.mem_of_getElem? hx)) hps (fun M0 W0 l => hbody i s1 X x M0 W0 l _ _ hX j1 j2 j3 hx _ (fun e' s' h1 h2 => ⟨h1, h2 _ (fun _ _ _ h => h)⟩))
        (fun ex s h => by
          cases ex with
          | normal => rfl
          | ret => rfl
          | exit id => rfl
          | _ => rcases hIx _ s h with h | ⟨id, h⟩ <;> cases h)
        (fun ex jump t hj t1 t2 t3 => by
          refine ⟨_, rfl, ⟨t1.1, t1.2.1, by simp [St.push, t2]⟩, ?_⟩
          have like' : t.like st := ⟨t1.1.trans j2.1, Nat.le_trans j2.2.1 t1.2.1, t1.2.2.trans j2.2.2⟩
          cases ex with
          | normal => cases hj; exact .inl ⟨rfl, t, t3, like', t2.trans j3, rfl⟩
          | ret => cases hj; exact .inr ⟨rfl, .ret, .ret, t, rfl, t3, like', t2.trans j3, rfl⟩
          | exit id => cases hj; exact .inr ⟨rfl, .exit id, .exit id, t, rfl, t3, like', t2.trans j3, rfl⟩
          | _ => cases hj)
      rw [j3] at this
      exact this)
    (st.push la0) ⟨st, h0, ⟨rfl, Nat.le_refl _, rfl⟩, rfl, rfl⟩
  have hargs : RowR w0 M1 W1 (#[.func (.yield (w.heap.size + 1)) #[] #[]] ++ cs) (.yld st.loops.length :: caps) := by
    have e1 : RowR w0 M1 W1 #[.func (.yield (w.heap.size + 1)) #[] #[]] [.yld st.loops.length] := by
      refine ⟨rfl, fun i h1 h2 => ?_⟩
      have : i = 0 := by simp at h2; exact h2
      subst this
      have := R.yld (w0 := w0) (M := M1) (w := W1) (k := st.loops.length) (by omega)
      rw [hlbk] at this
      exact this
    have e2 : RowR w0 M1 W1 cs caps := ⟨hrow.1, fun i h1 h2 => (hrow.2 i h1 h2).mono n2⟩
    exact e1.append e2
  refine ⟨w.heap.size + 1, [{ target := .collected w.heap.size, args := #[] }], W1, { target := .fn (.func gf) cs, args := #[.func (.yield (w.heap.size + 1)) #[] #[]] }, W1, gf,
    #[.func (.yield (w.heap.size + 1)) #[] #[]] ++ cs, W1, ?_, ?_, ?_, ?_, fun q => FW_depth none q m, ?_⟩
  · rw [← hW1]; exact run_enterLoop_outer _ _ _ _ _
  · simp only [resolve, hcs]
    simp [go_sem]
  · intro f' _; exact FW_fn none f'
  · simp [invoke, go_sem, hcall.1 _ W1]
  · refine callsIn_FW ((hcall.2 M1 W1 _ n1 hargs).mono ?_)
    rintro en w3 ⟨v, M3, r, s3, rfl, hp, x3, r3, _⟩
    have hl3 : M3.lb st.loops.length = w.heap.size + 1 := (x3.lb _ (by omega)).trans hlbk
    have finish : ∀ (s1 : St) (p : Option Code) (stt : LoopState), stt ≠ .busy → s3 = s1.push { la0 with st := stt, pend := p } → s1.loops = st.loops →
        ∃ w4, (Instr.endLoop (w.heap.size + 1)).run P w3 = .ok p w4 ∧ At w0 n M0 W0 e (s1.push { la0 with st := .exhausted, pend := p }) { a with defers := [{ target := .collected w.heap.size, args := #[] }] ++ a.defers } w4 M3 := by
      intro s1 p stt hstt hs3 hsl
      subst hs3
      have hk : (s1.push { la0 with st := stt, pend := p }).loops[st.loops.length]? = some { la0 with st := stt, pend := p } := by
        simp only [St.push, hsl, List.getElem?_concat_length]
      obtain ⟨_, rec, g1, g2, g3, _⟩ := r3.loop.record _ _ hk
      simp only at g2 g3
      obtain ⟨z1, z2⟩ := r3.setLoop hk .exhausted p g1
      rw [hl3] at g1 z1 z2
      have hend := run_endLoop (P := P) g1 (by rw [g2]; exact hstt)
      have er : ({ rec with state := LoopState.exhausted, pending := p } : Loop) = { rec with state := LoopState.exhausted } := by rw [← g3]
      rw [er] at z1 z2
      have hend := hend.trans (congrArg (fun q => Result.ok q _) g3)
      have eL : { (s1.push { la0 with st := stt, pend := p }) with loops := (s1.push { la0 with st := stt, pend := p }).loops.set st.loops.length { la0 with st := .exhausted, pend := p } } = s1.push { la0 with st := .exhausted, pend := p } := by
        simp only [St.push, hsl]
        rw [List.set_append_right _ _ (by simp)]
        simp
      simp only at z1
      have hx : Ext w0 M w M3 (w3.putObj (w.heap.size + 1) (.loop { rec with state := .exhausted })) := n2.trans (x3.trans z2)
      refine ⟨_, hend, ⟨⟨?_, hr.rel.size, fun s x hs => (hr.rel.env s x hs).mono hx⟩, hr.ext.trans hx, ?_⟩⟩
      · rw [← eL]; exact z1
      · obtain ⟨Ds, d1, d2, d3⟩ := hr.marks.later hx hr.rel.st
        obtain ⟨Ds', d1', d2', d3'⟩ := hr.marks
        have hDD : Ds' = Ds := by
          rw [d2'] at d2
          have inj : Function.Injective (fun D => ({ target := .collected D, args := #[] } : Deferred)) := fun x y h => by simpa using h
          exact List.map_inj_right (fun x y h => inj h) |>.1 d2
        refine ⟨w.heap.size :: Ds, List.nodup_cons.2 ⟨fun hm => ?_, d1⟩, by simp [d2], fun D hD => ?_⟩
        · have := (d3' _ (hDD ▸ hm)).2
          have := (Array.getElem?_eq_some_iff.1 this).1
          omega
        · rcases List.mem_cons.1 hD with rfl | hD
          · refine ⟨hr.ext.size, ?_⟩
            rw [World.putObj_heap_other (by omega)]
            refine x3.objs _ _ hmark1 rfl fun k hk => ?_
            by_cases c : k = st.loops.length
            · subst c; omega
            · have := hlbo k (by omega)
              omega
          · exact d3 D hD
    rcases hp with ⟨s1, j1, j2, j3, j4⟩ | ⟨ex, c, s1, j0, j1, j2, j3, j4⟩
    · obtain ⟨w4, q1, q2⟩ := finish s1 none .ready (by simp) j4 j3
      exact ⟨none, w4, q1, M3, e, _, q2, hdone s1 _ j1 j2 j3⟩
    · obtain ⟨w4, q1, q2⟩ := finish s1 (some c) .done (by simp) j4 j3
      refine ⟨some c, w4, q1, ?_⟩
      have hq := hleft ex s1 { la0 with st := .exhausted, pend := some c } j1 j2 j3
      cases ex with
      | ret => cases j0; exact wpIn_ret ⟨M3, e, _, q2, hq⟩
      | exit id => cases j0; exact wpIn_exit ⟨M3, e, _, q2, hq⟩
      | _ => cases j0
end
end Go.Ev
