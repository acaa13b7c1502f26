/-
  Code over abstract states: what holds where a piece of code is left, in terms of the environment and the abstract heap alone; its rules.
-/
import Derived.Test.YthlhbbejcmbpoaaDoorEvF
namespace Go.Ev
open Go Go.RowKit

/-- The deferred calls that an activation holds are marks of loops that are over, without calls. -/
def Marked (W0 : World) (ds : List Deferred) (w : World) : Prop :=
  ∃ Ds : List Nat, Ds.Nodup ∧ ds = Ds.map (fun D => { target := .collected D, args := #[] }) ∧ ∀ D ∈ Ds, W0.heap.size ≤ D ∧ w.heap[D]? = some (.deferred (some []))

/-! ### code -/
abbrev AQ := Exit → Env → St → Prop
/-- Where code begins or ends. -/
structure At (w0 : World) (n : Nat) (M0 : Mem) (W0 : World) (e : Env) (st : St) (a : Act) (w : World) (M : Mem) : Prop where
  rel : Rel w0 n M e st a w
  ext : Ext w0 M0 W0 M w
  marks : Marked W0 a.defers w
def Lands (w0 : World) (n : Nat) (M0 : Mem) (W0 : World) (Q : AQ) (x : Exit) (a' : Act) (w' : World) : Prop :=
  ∃ M' e' st', At w0 n M0 W0 e' st' a' w' M' ∧ Q x e' st'
/-- 'M0', 'W0': the memory when the function was entered; 'ro': the round in which the code is run. -/
def awp (P : Program) (w0 : World) (n : Nat) (M0 : Mem) (W0 : World) (ro : Option Nat) (c : Code) (Q : AQ) (e : Env) (st : St) : Prop :=
  ∀ m M a w, At w0 n M0 W0 e st a w M → c.wpIn (FW ro) m P (Lands w0 n M0 W0 Q) a w
def thenA (K : Env → St → Prop) (Q : AQ) : AQ
  | .normal, e, st => K e st
  | x, e, st => Q x e st
def inBlockA (id : Nat) (Q : AQ) : AQ
  | .exit i, e, st => if i = id then Q .normal e st else Q (.exit i) e st
  | x, e, st => Q x e st

section
variable {P : Program} {w0 : World} {n : Nat} {M0 : Mem} {W0 : World} {ro : Option Nat} {Q : AQ} {e : Env} {st : St}

theorem awp_mono {c : Code} {Q' : AQ} (h : awp P w0 n M0 W0 ro c Q e st) (hq : ∀ x e s, Q x e s → Q' x e s) : awp P w0 n M0 W0 ro c Q' e st :=
  fun m M a w hr => wpIn_mono (h m M a w hr) fun _ _ _ ⟨M', e', s', h1, h3⟩ => ⟨M', e', s', h1, hq _ _ _ h3⟩
theorem At.sub {M : Mem} {a : Act} {w : World} {e' : Env} (h : At w0 n M0 W0 e st a w M) (hs : subE e' e) : At w0 n M0 W0 e' st a w M := ⟨h.rel.sub hs, h.ext, h.marks⟩
theorem Marked.later {M M' : Mem} {ds : List Deferred} {w w' : World} (h : Marked W0 ds w) (hx : Ext w0 M w M' w') (hl : RelSt w0 M st w) : Marked W0 ds w' := by
  obtain ⟨Ds, h1, h2, h3⟩ := h
  refine ⟨Ds, h1, h2, fun D hD => ⟨(h3 D hD).1, hx.objs D _ (h3 D hD).2 rfl fun k hk e => ?_⟩⟩
  have hk' : k < st.loops.length := by rw [← hl.loop.NL]; exact hk
  obtain ⟨_, r, hr, _⟩ := hl.loop.record k _ (List.getElem?_eq_getElem hk')
  rw [e, (h3 D hD).2] at hr
  cases hr

theorem awp_sub {c : Code} (e' : Env) (h : awp P w0 n M0 W0 ro c Q e' st) (hs : subE e' e) : awp P w0 n M0 W0 ro c Q e st := fun m M a w hr => h m M a w (hr.sub hs)

/-- A region that draws no order: the operations in the text's order; the slots 'L' are kept. -/
theorem awp_region (c : Nat) (L : List Nat) {id : Nat} {l : List Oper} (h : evK P w0 n false l (fun e' st' => Q .normal (keepL L e') st') c l e st) : awp P w0 n M0 W0 ro (.region id l.toArray false) Q e st := by
  intro m M a w hr
  refine wpIn_region_lit (evK_sound ro m false l _ _ c l e st a w M hr.rel h fun e' st' a' w' M' k1 k2 k3 k4 => ⟨M', _, _, ⟨k2.sub (sub_keepL L _), hr.ext.trans k3, ?_⟩, k1⟩)
  rw [k4]
  exact hr.marks.later k3 hr.rel.st

theorem awp_skip (h : Q .normal e st) : awp P w0 n M0 W0 ro .skip Q e st := fun _ M _ _ hr => wpIn_skip ⟨M, e, st, hr, h⟩
theorem awp_exit {id : Nat} (h : Q (.exit id) e st) : awp P w0 n M0 W0 ro (.exit id) Q e st := fun _ M _ _ hr => wpIn_exit ⟨M, e, st, hr, h⟩
theorem awp_ret (h : Q .ret e st) : awp P w0 n M0 W0 ro .ret Q e st := fun _ M _ _ hr => wpIn_ret ⟨M, e, st, hr, h⟩

theorem awp_seq {x y : Code} (h : ∀ K : Env → St → Prop, (∀ e s, awp P w0 n M0 W0 ro y Q e s → K e s) → awp P w0 n M0 W0 ro x (thenA K Q) e st) : awp P w0 n M0 W0 ro (.seq x y) Q e st := by
  intro m M a w hr
  refine wpIn_seq (wpIn_mono (h (awp P w0 n M0 W0 ro y Q) (fun _ _ h => h) m M a w hr) ?_)
  rintro ex a' w' ⟨M', e', s', h1, h3⟩
  cases ex with
  | normal => exact h3 m M' a' w' h1
  | _ => exact ⟨M', e', s', h1, h3⟩
/-- The same, with what holds between the two. -/
theorem awp_mid {x y : Code} (I : Env → St → Prop) (hx : ∀ K : Env → St → Prop, (∀ e s, I e s → K e s) → awp P w0 n M0 W0 ro x (thenA K Q) e st) (hy : ∀ e s, I e s → awp P w0 n M0 W0 ro y Q e s) : awp P w0 n M0 W0 ro (.seq x y) Q e st :=
  awp_seq fun K hK => awp_mono (hx I fun _ _ h => h) fun ex e s h => by
    cases ex with
    | normal => exact hK e s (hy e s h)
    | _ => exact h

theorem awp_block {id : Nat} {c : Code} (h : awp P w0 n M0 W0 ro c (inBlockA id Q) e st) : awp P w0 n M0 W0 ro (.block id c) Q e st := by
  intro m M a w hr
  refine wpIn_block (wpIn_mono (h m M a w hr) ?_)
  rintro ex a' w' ⟨M', e', s', h1, h3⟩
  cases ex with
  | exit i =>
    simp only [inBlockA] at h3
    simp only [Exit.inBlock]
    split at h3 <;> rename_i hc
    · rw [if_pos hc]; exact ⟨M', e', s', h1, h3⟩
    · rw [if_neg hc]; exact ⟨M', e', s', h1, h3⟩
  | _ => exact ⟨M', e', s', h1, h3⟩

theorem awp_cond {c : Operand} {x y : Code} (b : Bool) (hc : argOk e true c) (hb : argV e c = .val (.bool b)) (ht : b = true → awp P w0 n M0 W0 ro x Q e st) (hf : b = false → awp P w0 n M0 W0 ro y Q e st) : awp P w0 n M0 W0 ro (.cond c x y) Q e st := by
  intro m M a w hr
  have hv := arg_R hr.rel hc
  rw [hb] at hv
  have ev : a.eval c = .bool b := hv.val_inv.1
  exact wpIn_cond_split ev (fun h => ht h m M a w hr) (fun h => hf h m M a w hr)

theorem exists_least (p : Nat → Prop) (h : ∃ k, p k) : ∃ k, p k ∧ ∀ m, p m → k ≤ m := by
  obtain ⟨k, hk⟩ := h
  induction k using Nat.strongRecOn with
  | _ k ih =>
    by_cases c : ∃ m, m < k ∧ p m
    · obtain ⟨m, h1, h2⟩ := c
      exact ih m h1 h2
    · exact ⟨k, hk, fun m hm => by
        by_cases c' : m < k
        · exact absurd ⟨m, c', hm⟩ c
        · omega⟩

/-- A loop: what holds at the head of every round, and a number that falls. -/
theorem awp_loop {c : Code} (I : Nat → Env → St → Prop) (k0 : Nat) (h0 : I k0 e st) (round : ∀ k e s, I k e s → ∀ K : Env → St → Prop, (∀ k' e' s', k' < k → I k' e' s' → K e' s') → awp P w0 n M0 W0 ro c (thenA K Q) e s) : awp P w0 n M0 W0 ro (.loop c) Q e st := by
  intro m M a w hr
  let J : Nat → Act → World → Prop := fun k a' w' => ∃ M' e' s', At w0 n M0 W0 e' s' a' w' M' ∧ I k e' s'
  let μ : Act → World → Nat := fun a' w' => by
    classical exact if h : ∃ k, J k a' w' then Classical.choose (exists_least (fun k => J k a' w') h) else 0
  have hμ : ∀ a' w' k, J k a' w' → J (μ a' w') a' w' ∧ μ a' w' ≤ k := by
    intro a' w' k hk
    have hex : ∃ k, J k a' w' := ⟨k, hk⟩
    have := Classical.choose_spec (exists_least (fun k => J k a' w') hex)
    have e : μ a' w' = Classical.choose (exists_least (fun k => J k a' w') hex) := by simp only [μ, dif_pos hex]
    rw [e]
    exact ⟨this.1, this.2 k hk⟩
  refine wpIn_loop (fun a' w' => ∃ k, J k a' w') μ ⟨k0, M, e, st, hr, h0⟩ ?_
  rintro a1 w1 ⟨k, hk⟩
  obtain ⟨⟨M1, e1, s1, r1, i1⟩, _⟩ := hμ a1 w1 k hk
  refine wpIn_mono (round _ e1 s1 i1 (fun e' s' => ∃ k', k' < _ ∧ I k' e' s') (fun k' _ _ h1 h2 => ⟨k', h1, h2⟩) m M1 a1 w1 r1) ?_
  rintro ex a' w' ⟨M', e', s', h1, h3⟩
  cases ex with
  | normal =>
    obtain ⟨k', hlt, hI⟩ := h3
    have hJ : J k' a' w' := ⟨M', e', s', h1, hI⟩
    exact ⟨⟨k', hJ⟩, Nat.lt_of_le_of_lt (hμ a' w' k' hJ).2 hlt⟩
  | _ => exact ⟨M', e', s', h1, h3⟩

/-! ### forgetting what is not reached any more -/
def Own.under (nr : Nat) : Own → Prop
  | .row id => id < nr
  | _ => True
inductive Under (nb nr nl : Nat) : AV → Prop
  | val (v : Value) : Under nb nr nl (.val v)
  | list {xs : List AV} {o : Own} (h : ∀ x ∈ xs, Under nb nr nl x) (ho : o.under nr) : Under nb nr nl (.list xs o)
  | elem {x : AV} {k : Nat} (h : Under nb nr nl x) : Under nb nr nl (.elem x k)
  | box {l k : Nat} (h : l < nb) : Under nb nr nl (.box l k)
  | clo {f : FuncId} {xs : List AV} (h : ∀ x ∈ xs, Under nb nr nl x) : Under nb nr nl (.clo f xs)
  | agg {xs : List AV} (h : ∀ x ∈ xs, Under nb nr nl x) : Under nb nr nl (.agg xs)
  | tup {xs : List AV} (h : ∀ x ∈ xs, Under nb nr nl x) : Under nb nr nl (.tup xs)
  | yld {k : Nat} (h : k < nl) : Under nb nr nl (.yld k)
theorem under_val {nb nr nl : Nat} (v : Value) : Under nb nr nl (.val v) ↔ True := iff_true_intro (.val v)
theorem under_list {nb nr nl : Nat} {xs : List AV} {o : Own} : Under nb nr nl (.list xs o) ↔ (∀ x ∈ xs, Under nb nr nl x) ∧ o.under nr := ⟨fun h => by cases h with | list a b => exact ⟨a, b⟩, fun h => .list h.1 h.2⟩
theorem under_elem {nb nr nl : Nat} {x : AV} {k : Nat} : Under nb nr nl (.elem x k) ↔ Under nb nr nl x := ⟨fun h => by cases h; assumption, .elem⟩
theorem under_box {nb nr nl l k : Nat} : Under nb nr nl (.box l k) ↔ l < nb := ⟨fun h => by cases h; assumption, .box⟩
theorem under_clo {nb nr nl : Nat} {f : FuncId} {xs : List AV} : Under nb nr nl (.clo f xs) ↔ ∀ x ∈ xs, Under nb nr nl x := ⟨fun h => by cases h; assumption, .clo⟩
theorem under_agg {nb nr nl : Nat} {xs : List AV} : Under nb nr nl (.agg xs) ↔ ∀ x ∈ xs, Under nb nr nl x := ⟨fun h => by cases h; assumption, .agg⟩
theorem under_tup {nb nr nl : Nat} {xs : List AV} : Under nb nr nl (.tup xs) ↔ ∀ x ∈ xs, Under nb nr nl x := ⟨fun h => by cases h; assumption, .tup⟩

theorem under_yld {nb nr nl k : Nat} : Under nb nr nl (.yld k) ↔ k < nl := ⟨fun h => by cases h; assumption, .yld⟩

def Mem.cut (M : Mem) (nb nr nl : Nat) : Mem := { M with N := nb, NR := nr, NL := nl }
theorem R.cut {M : Mem} {w : World} {v : Value} {x : AV} {nb nr nl : Nat} (h : R w0 M w v x) (hu : Under nb nr nl x) : R w0 (M.cut nb nr nl) w v x := by
  induction h with
  | flat h => exact .flat h
  | agg hl h1 _ ih => exact .agg hl h1 fun i a b => ih i a b (under_agg.1 hu _ (List.getElem_mem _))
  | tup hl _ ih => exact .tup hl fun i a b => ih i a b (under_tup.1 hu _ (List.getElem_mem _))
  | nil ho => exact .nil ho
  | @list b off cap xs o sz us hc hm hcell _ ho ih =>
    obtain ⟨h1, h2⟩ := under_list.1 hu
    refine .list sz us hc hm hcell (fun i hi => ih i hi (h1 _ (List.getElem_mem _))) ?_
    cases o with
    | none => trivial
    | full => exact ho
    | row id => exact ⟨h2, ho.2⟩
  | elem u k hcell _ ih => exact .elem u k hcell (ih (under_elem.1 hu))
  | box _ => exact .box (M := M.cut nb nr nl) (under_box.1 hu)
  | clo hl _ ih => exact .clo hl fun i a b => ih i a b (under_clo.1 hu _ (List.getElem_mem _))
  | yld _ => exact .yld (M := M.cut nb nr nl) (under_yld.1 hu)
theorem R.under {M : Mem} {w : World} {v : Value} {x : AV} (h : R w0 M w v x) : Under M.N M.NR M.NL x := by
  have key : ∀ {cs : Array Value} {xs : List AV}, cs.size = xs.length → (∀ i (_ : i < cs.size) (h2 : i < xs.length), Under M.N M.NR M.NL xs[i]) → ∀ x ∈ xs, Under M.N M.NR M.NL x := by
    intro cs xs hl h x hx
    obtain ⟨i, hi, rfl⟩ := List.mem_iff_getElem.1 hx
    exact h i (hl ▸ hi) hi
  induction h with
  | flat h => exact .val _
  | agg hl h1 _ ih => exact .agg (key hl ih)
  | tup hl _ ih => exact .tup (key hl ih)
  | nil ho => exact .list (fun _ h => by cases h) (by rename_i o; cases o <;> first | trivial | exact absurd rfl (ho _))
  | @list b off cap xs o sz us hc hm hcell _ ho ih =>
    refine .list (fun x hx => ?_) ?_
    · obtain ⟨i, hi, rfl⟩ := List.mem_iff_getElem.1 hx
      exact ih i hi
    · cases o with
      | row id => exact ho.1
      | _ => trivial
  | elem u k hcell _ ih => exact .elem ih
  | box h => exact .box h
  | clo hl _ ih => exact .clo (key hl ih)
  | yld h => exact .yld h

def calmE (nb nr nl : Nat) : Env → Prop
  | [] => True
  | (_, c, v) :: e => (c = true → Under nb nr nl v) ∧ calmE nb nr nl e
theorem calmE_look {nb nr nl : Nat} : ∀ {e : Env} {s : Nat} {x : Bool × AV}, calmE nb nr nl e → look e s = some x → x.1 = true → Under nb nr nl x.2
  | (k, c, v) :: e, s, x, h, hl, ht => by
    simp only [look] at hl
    by_cases q : k = s
    · rw [if_pos q] at hl; cases hl; exact h.1 ht
    · rw [if_neg q] at hl; exact calmE_look h.2 hl ht
def St.cut (s : St) (nb nr nl : Nat) : St := ⟨s.boxes.take nb, s.rows.take nr, s.loops.take nl⟩
structure Calm (nb nr nl : Nat) (s : St) : Prop where
  boxes : ∀ cs ∈ s.boxes, ∀ x ∈ cs, Under nb nr nl x
  loops : ∀ la ∈ s.loops, ∀ k x, look la.e k = some x → x.1 = true → Under nb nr nl x.2
theorem RelSt.calm {M : Mem} {w : World} (h : RelSt w0 M st w) : Calm st.boxes.length st.rows.length st.loops.length st where
  boxes := by
    intro cs hcs x hx
    obtain ⟨l, hl, rfl⟩ := List.mem_iff_getElem.1 hcs
    obtain ⟨_, _, c, _, _, hsz, _, hR⟩ := h.box l _ (List.getElem?_eq_getElem hl)
    obtain ⟨i, hi, rfl⟩ := List.mem_iff_getElem.1 hx
    have := (hR i (hsz ▸ hi) hi).under
    rwa [h.N, h.NR, h.loop.NL] at this
  loops := by
    intro la hla k x hx ht
    obtain ⟨l, hl, rfl⟩ := List.mem_iff_getElem.1 hla
    obtain ⟨_, r, _, _, _, _, _, _, _, he⟩ := h.loop.record l _ (List.getElem?_eq_getElem hl)
    have := he k x hx
    unfold entryOk at this
    rw [if_pos ht] at this
    have := this.under
    rwa [h.N, h.NR, h.loop.NL] at this

theorem entryOk.cut {M : Mem} {w : World} {nb nr nl : Nat} {v : Value} {x : Bool × AV} (h : entryOk w0 M w v x) (hu : x.1 = true → Under nb nr nl x.2) : entryOk w0 (M.cut nb nr nl) w v x := by
  unfold entryOk at *
  split
  · rename_i c; rw [if_pos c] at h; exact h.cut (hu c)
  · rename_i c; rw [if_neg c] at h; exact h
theorem RelSt.cut {M : Mem} {w : World} (h : RelSt w0 M st w) {nb nr nl : Nat} (h1 : nb ≤ st.boxes.length) (h2 : nr ≤ st.rows.length) (h3 : nl ≤ st.loops.length) (hc : Calm nb nr nl (st.cut nb nr nl)) :
    RelSt w0 (M.cut nb nr nl) (st.cut nb nr nl) w where
  below := h.below
  N := by simp [Mem.cut, St.cut]; omega
  NR := by simp [Mem.cut, St.cut]; omega
  top := h.top
  inj := fun l l' k k' e => h.inj l l' (by have := h.N; simp only [Mem.cut] at k; omega) (by have := h.N; simp only [Mem.cut] at k'; omega) e
  box := fun l cs hl => by
    simp only [St.cut] at hl
    have hl' : l < nb := by
      have := (List.getElem?_eq_some_iff.1 hl).1
      simp at this; omega
    have hmem : cs ∈ st.boxes.take nb := List.mem_of_getElem? hl
    rw [List.getElem?_take_of_lt hl'] at hl
    obtain ⟨a1, a2, c, ty, a3, a4, a5, a6⟩ := h.box l cs hl
    exact ⟨a1, a2, c, ty, a3, a4, a5, fun i b1 b2 => (a6 i b1 b2).cut (hc.boxes cs hmem _ (List.getElem_mem _))⟩
  row := fun id k sz hk => by
    simp only [St.cut] at hk
    have hid : id < nr := by
      have := (List.getElem?_eq_some_iff.1 hk).1
      simp at this; omega
    rw [List.getElem?_take_of_lt hid] at hk
    obtain ⟨a1, a2, a3, a4, a5, a6, a7, a8⟩ := h.row id k sz hk
    exact ⟨a1, a2, a3, a4, fun l hl => a5 l (by have := h.N; simp only [Mem.cut] at hl; omega), a6, a7, a8⟩
  rowinj := fun i j hi hj e => h.rowinj i j (by have := h.NR; simp only [Mem.cut] at hi; omega) (by have := h.NR; simp only [Mem.cut] at hj; omega) e
  loop := {
    NL := by simp [Mem.cut, St.cut]; omega
    inj := fun i j hi hj e => h.loop.inj i j (by have := h.loop.NL; simp only [Mem.cut] at hi; omega) (by have := h.loop.NL; simp only [Mem.cut] at hj; omega) e
    record := fun k la hk => by
      simp only [St.cut] at hk
      have hk' : k < nl := by
        have := (List.getElem?_eq_some_iff.1 hk).1
        simp at this; omega
      have hmem : la ∈ st.loops.take nl := List.mem_of_getElem? hk
      rw [List.getElem?_take_of_lt hk'] at hk
      obtain ⟨a1, r, a2, a3, a4, a5, a6, a7, a8, a9⟩ := h.loop.record k la hk
      exact ⟨a1, r, a2, a3, a4, a5, a6, a7, a8, fun s x hs => (a9 s x hs).cut (hc.loops la hmem s x hs)⟩ }
theorem Ext.cut {M1 : Mem} {w1 w2 : World} {M2 : Mem} (h : Ext w0 M1 w1 M2 w2) {nb nr nl : Nat} (h1 : M1.N ≤ nb) (h2 : M1.NR ≤ nr) (h3 : M1.NL ≤ nl) (h4 : nl ≤ M2.NL) : Ext w0 M1 w1 (M2.cut nb nr nl) w2 :=
  ⟨h1, h.bx, h2, h.rows, h.cell, h.size, h3, h.lb, fun k a b => h.lnew k a (Nat.lt_of_lt_of_le b h4), h.objs⟩
theorem Rel.cut {M : Mem} {a : Act} {w : World} (h : Rel w0 n M e st a w) {nb nr nl : Nat} (h1 : nb ≤ st.boxes.length) (h2 : nr ≤ st.rows.length) (h3 : nl ≤ st.loops.length) (hc : Calm nb nr nl (st.cut nb nr nl)) (he : calmE nb nr nl e) :
    Rel w0 n (M.cut nb nr nl) e (st.cut nb nr nl) a w :=
  ⟨h.st.cut h1 h2 h3 hc, h.size, fun s x hs => (h.env s x hs).cut (calmE_look he hs)⟩

/-- The boxes, rows and loops above 'nb', 'nr', 'nl' are forgotten. -/
theorem awp_cut {c : Code} (nb nr nl : Nat) (h1 : nb ≤ st.boxes.length) (h2 : nr ≤ st.rows.length) (h3 : nl ≤ st.loops.length) (k1 : M0.N ≤ nb) (k2 : M0.NR ≤ nr) (k3 : M0.NL ≤ nl) (hc : Calm nb nr nl (st.cut nb nr nl)) (he : calmE nb nr nl e)
    (h : awp P w0 n M0 W0 ro c Q e (st.cut nb nr nl)) : awp P w0 n M0 W0 ro c Q e st :=
  fun m M a w hr => h m _ a w ⟨hr.rel.cut h1 h2 h3 hc he, hr.ext.cut k1 k2 k3 (by rw [hr.rel.st.loop.NL]; exact h3), hr.marks⟩
end
end Go.Ev
