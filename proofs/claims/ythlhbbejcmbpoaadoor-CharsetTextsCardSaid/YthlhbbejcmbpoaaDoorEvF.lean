/-
  Regions: the abstract reading of a list of operations, in the order of the text; calls by their abstract contracts, of functions and of the round of a loop over a function.
-/
import Derived.Test.YthlhbbejcmbpoaaDoorEvE
namespace Go.Ev
open Go Go.RowKit

/-- No fence: outside a round, in a round. -/
def FW (ro : Option Nat) : Fence := { Fence.wide with round := ro }
theorem FW_fn (ro : Option Nat) (f : FuncId) : (FW ro).fn f := trivial
theorem FW_depth (ro : Option Nat) : (FW ro).depth.isSome = true → ∀ n, 1 ≤ n := fun h => by cases h
theorem callsIn_FW {ro : Option Nat} {n : Nat} {P : Program} {f : FuncId} {args : Array Value} {w : World} {Q : Ending → World → Prop} (h : Calls P f args w Q) : CallsIn (FW ro) n P f args w Q := by
  cases ro with
  | none => exact callsIn_wide.2 h
  | some l => exact CallsIn.inRound (F := Fence.wide) l (callsIn_wide.2 h)
theorem calls_of_FW {n : Nat} {P : Program} {f : FuncId} {args : Array Value} {w : World} {Q : Ending → World → Prop} (h : CallsIn (FW none) n P f args w Q) : Calls P f args w Q := callsIn_wide.1 h

def Enters (P : Program) (f : FuncId) : Prop := ∀ args w, (callFunc f args).run P w = .ok (.enter f args) w

/-- What comes of a call: a value and a state of which Post holds. -/
def Comes' (w0 : World) (M : Mem) (w : World) (Post : AV → St → Prop) (en : Ending) (w' : World) : Prop :=
  ∃ v M' r st', en = .returned v ∧ Post r st' ∧ Ext w0 M w M' w' ∧ RelSt w0 M' st' w' ∧ R w0 M' w' v r

/-- Called with values that stand for these, in a world that stands for this state: it returns, and what it returns and leaves stands for something of which Post holds. -/
def ACalls (P : Program) (w0 : World) (f : FuncId) (args : List AV) (st : St) (Post : AV → St → Prop) : Prop :=
  Enters P f ∧ ∀ (M : Mem) (w : World) (vals : Array Value), RelSt w0 M st w → RowR w0 M w vals args → Calls P f vals w (Comes' w0 M w Post)

theorem Comes'.mono {w0 : World} {M : Mem} {w : World} {Post Post' : AV → St → Prop} (hp : ∀ r s, Post r s → Post' r s) {en : Ending} {w' : World} (h : Comes' w0 M w Post en w') : Comes' w0 M w Post' en w' :=
  let ⟨v, M', r, st', a1, a2, a3, a4, a5⟩ := h; ⟨v, M', r, st', a1, hp _ _ a2, a3, a4, a5⟩
theorem ACalls.mono {P : Program} {w0 : World} {f : FuncId} {args : List AV} {st : St} {Post Post' : AV → St → Prop} (h : ACalls P w0 f args st Post) (hp : ∀ r s, Post r s → Post' r s) : ACalls P w0 f args st Post' :=
  ⟨h.1, fun M w vals h1 h2 => (h.2 M w vals h1 h2).mono fun _ _ h => h.mono hp⟩

/-- The same of a round of loop k: yield is called. -/
def YRound (P : Program) (w0 : World) (k : Nat) (args : List AV) (st : St) (Post : AV → St → Prop) : Prop :=
  ∀ (M : Mem) (w : World) (vals : Array Value), RelSt w0 M st w → RowR w0 M w vals args →
    ∃ fn tmps asg body, (Instr.yield (M.lb k) vals).run P w = .ok (.round (M.lb k) fn tmps asg body) w ∧ ∀ n, RoundIn Fence.wide n P (M.lb k) fn tmps asg body w (Comes' w0 M w Post)
/-- Of whatever may be called. -/
def VCalls (P : Program) (w0 : World) (fv : AV) (args : List AV) (st : St) (Post : AV → St → Prop) : Prop :=
  match fv with
  | .clo f cs => ACalls P w0 f (args ++ cs) st Post
  | .yld k => YRound P w0 k args st Post
  | _ => False

def putE (e : Env) (dst : Option Nat) (c : Bool) (v : AV) : Env :=
  match dst with
  | some d => (d, c, v) :: e
  | none => e
def dstOk (n : Nat) : Option Nat → Prop
  | some d => d < n
  | none => True

/-- Whether an operation is carried out. -/
def guardC (all : List Oper) (e : Env) : Option (Nat × Bool) → Bool
  | none => true
  | some (j, want) => match (all[j]?).bind (·.dst) with
    | some d => match look e d with
      | some (cj, .val (.bool b)) => cj && (b == want)
      | _ => false
    | none => false
def guardOk (all : List Oper) (e : Env) : Option (Nat × Bool) → Prop
  | none => True
  | some (j, _) => match (all[j]?).bind (·.dst) with
    | some d => match look e d with
      | some (_, v) => isB v = true
      | none => False
    | none => False

/-- Which slots an operation looks at. -/
def tmpsOf : List Operand → List Nat
  | [] => []
  | .tmp t :: r => t :: tmpsOf r
  | _ :: r => tmpsOf r
def looksG (all : List Oper) : Option (Nat × Bool) → List Nat
  | none => []
  | some (j, _) => ((all[j]?).bind (·.dst)).toList
def looks (all : List Oper) (o : Oper) : List Nat := tmpsOf o.op.operands.toList ++ looksG all o.guard
/-- What of the environment an operation is read under: all of it, or the slots alone that it looks at. -/
def view (d : Bool) (all : List Oper) (o : Oper) (e : Env) : Env := if d then keepL (looks all o) e else e

/-- A call and what follows it. In a region whose order is drawn ('d') a call must leave the state as it was. -/
def callK (P : Program) (w0 : World) (c d : Bool) (fv : AV) (args : List AV) (st : St) (k : AV → St → Prop) : Prop :=
  (∃ v, (c = true → VCalls P w0 fv args st fun r s => r = v ∧ s = st) ∧ k v st) ∨
  (d = false ∧ ∃ Post, (c = true → VCalls P w0 fv args st Post) ∧ ∀ v st', (c = true → Post v st') → (c = false → st' = st) → k v st')

theorem callK_intro {P : Program} {w0 : World} {c d : Bool} {f : FuncId} {cs args : List AV} {st : St} {k : AV → St → Prop} (v : AV)
    (h : ACalls P w0 f (args ++ cs) st fun r s => r = v ∧ s = st) (hk : k v st) : callK P w0 c d (.clo f cs) args st k := .inl ⟨v, fun _ => h, hk⟩
theorem callK_intro_if {P : Program} {w0 : World} {c d : Bool} {f : FuncId} {cs args : List AV} {st : St} {k : AV → St → Prop} (v : AV)
    (h : c = true → ACalls P w0 f (args ++ cs) st fun r s => r = v ∧ s = st) (hk : k v st) : callK P w0 c d (.clo f cs) args st k := .inl ⟨v, h, hk⟩
theorem callK_post {P : Program} {w0 : World} {f : FuncId} {cs args : List AV} {st : St} {k : AV → St → Prop} (Post : AV → St → Prop)
    (h : ACalls P w0 f (args ++ cs) st Post) (hk : ∀ v s, Post v s → k v s) : callK P w0 true false (.clo f cs) args st k := .inr ⟨rfl, Post, fun _ => h, fun v s h1 _ => hk v s (h1 rfl)⟩
theorem callK_yield {P : Program} {w0 : World} {c : Bool} {i : Nat} {args : List AV} {st : St} {k : AV → St → Prop} (Post : AV → St → Prop)
    (h : c = true → YRound P w0 i args st Post) (hk : ∀ v s, (c = true → Post v s) → (c = false → s = st) → k v s) : callK P w0 c false (.yld i) args st k := .inr ⟨rfl, Post, h, hk⟩

/-- The operations one after the other as far as the next call; 'R' is what follows it. -/
def evS (P : Program) (w0 : World) (n : Nat) (d : Bool) (all : List Oper) (R : List Oper → Env → St → Prop) (K : Env → St → Prop) : List Oper → Env → St → Prop
  | [], e, st => K e st
  | o :: os, e, st =>
    guardOk all (view d all o e) o.guard ∧ dstOk n o.dst ∧
    match o.op with
    | .call ⟨.value f, args, _⟩ =>
      (guardC all (view d all o e) o.guard = true → argOk (view d all o e) true f ∧ ∀ x ∈ args.toList, argOk (view d all o e) true x) ∧
      callK P w0 (guardC all (view d all o e) o.guard) d (argV (view d all o e) f) (args.toList.map fun x => (argV (view d all o e) x).pub) st
        fun v st' => R os (putE e o.dst (guardC all (view d all o e) o.guard) v) st'
    | op => match evOp P (view d all o e) (guardC all (view d all o e) o.guard) st op with
      | (ob, v, st') => (guardC all (view d all o e) o.guard = true → ob) ∧ ((guardC all (view d all o e) o.guard = false ∨ d = true) → st' = st) ∧ evS P w0 n d all R K os (putE e o.dst (guardC all (view d all o e) o.guard) v) st'
/-- In 'c - 1' calls. -/
def evK (P : Program) (w0 : World) (n : Nat) (d : Bool) (all : List Oper) (K : Env → St → Prop) : Nat → List Oper → Env → St → Prop
  | 0, _, _, _ => False
  | c + 1, os, e, st => evS P w0 n d all (evK P w0 n d all K c) K os e st

theorem evK_succ {P : Program} {w0 : World} {n : Nat} {d : Bool} {all : List Oper} {K : Env → St → Prop} {c : Nat} {os : List Oper} {e : Env} {st : St} : evK P w0 n d all K (c + 1) os e st = evS P w0 n d all (evK P w0 n d all K c) K os e st := rfl

def isCallF : Op → Bool
  | .call ⟨.value _, _, _⟩ => true
  | _ => false
theorem evS_other {P : Program} {w0 : World} {n : Nat} {d : Bool} {all : List Oper} {R : List Oper → Env → St → Prop} {K : Env → St → Prop} {o : Oper} {os : List Oper} {e : Env} {st : St} (hc : ¬ isCallF o.op = true) :
    evS P w0 n d all R K (o :: os) e st = (guardOk all (view d all o e) o.guard ∧ dstOk n o.dst ∧ match evOp P (view d all o e) (guardC all (view d all o e) o.guard) st o.op with
      | (ob, v, st') => (guardC all (view d all o e) o.guard = true → ob) ∧ ((guardC all (view d all o e) o.guard = false ∨ d = true) → st' = st) ∧ evS P w0 n d all R K os (putE e o.dst (guardC all (view d all o e) o.guard) v) st') := by
  obtain ⟨dst, op, type, pos, after, guard⟩ := o
  cases op with
  | call cc =>
    obtain ⟨callee, args, ts⟩ := cc
    cases callee with
    | value f => exact absurd rfl hc
    | _ => rfl
  | _ => rfl

section
variable {P : Program} {w0 : World} {n : Nat} {M : Mem} {e : Env} {st : St} {a : Act} {w : World}

/-- Any operation but a call of a function, carried out. -/
theorem one_sound (h : Rel w0 n M e st a w) (ro : Option Nat) (m : Nat) (o : Oper) (hob : (evOp P e true st o.op).1) (Q : Exit → Act → World → Prop) (K : Act → World → Prop)
    (hK : ∀ v w' M', Ext w0 M w M' w' → RelSt w0 M' (evOp P e true st o.op).2.2 w' → R w0 M' w' v (evOp P e true st o.op).2.1 → K (a.put o.dst v) w') : o.wpIn (FW ro) m P a w K Q := by
  have hd : ∀ c, o.op ≠ .defer c := by
    intro c hh
    rw [hh] at hob
    exact hob
  obtain ⟨v, w', M', hr, h1, h2, h3⟩ := op_sound (P := P) h o hob
  refine ⟨fun f _ => FW_fn ro f, ?_⟩
  have hs : Oper.semAt (FW ro).round a.eval o = execOp a.eval o := by
    cases ro with
    | none => rfl
    | some l => exact Oper.semAt_some l a.eval o hd
  rw [hs]
  rcases hr with hr | ⟨hr, rfl⟩
  · rw [hr]; exact hK v w' M' h1 h2 h3
  · rw [hr]; exact hK _ w' M' h1 h2 h3

theorem clo_inv {v : Value} {f : FuncId} {xs : List AV} (h : R w0 M w v (.clo f xs)) : ∃ cs, v = .func (.func f) #[] cs ∧ RowR w0 M w cs xs := by
  cases h with
  | clo hl h => exact ⟨_, rfl, hl, h⟩
theorem yld_inv {v : Value} {k : Nat} (h : R w0 M w v (.yld k)) : v = .func (.yield (M.lb k)) #[] #[] := by
  cases h with
  | yld hk => rfl
theorem row_pub (h : Rel w0 n M e st a w) {args : Array Operand} (hargs : ∀ x ∈ args.toList, argOk e true x) : RowR w0 M w (args.map a.eval) (args.toList.map fun x => (argV e x).pub) := by
  refine .mk (by simp) (fun i u y hu hy => ?_)
  by_cases c : i < args.size
  · simp only [Array.getElem?_map, Array.getElem?_eq_getElem c, Option.map_some, Option.some.injEq] at hu
    simp only [List.getElem?_map, Array.getElem?_toList, Array.getElem?_eq_getElem c, Option.map_some, Option.some.injEq] at hy
    subst hu; subst hy
    exact (arg_R h (hargs _ (by simp))).pub
  · simp [Array.getElem?_eq_none (Nat.le_of_not_lt c)] at hu
theorem RowR.append {cs ds : Array Value} {xs ys : List AV} (h : RowR w0 M w cs xs) (k : RowR w0 M w ds ys) : RowR w0 M w (cs ++ ds) (xs ++ ys) := by
  refine .mk (by simp [h.1, k.1]) (fun i u y hu hy => ?_)
  by_cases c : i < cs.size
  · rw [Array.getElem?_append_left c] at hu
    rw [List.getElem?_append_left (h.1 ▸ c)] at hy
    exact h.get hu hy
  · rw [Array.getElem?_append_right (by omega)] at hu
    rw [List.getElem?_append_right (by have := h.1; omega)] at hy
    rw [h.1] at hu
    exact k.get hu hy

/-- A call, carried out. -/
theorem call_sound (h : Rel w0 n M e st a w) (ro : Option Nat) (m : Nat) {dst : Option Tmp} {f : Operand} {args : Array Operand} {ts : Array TypeId} {type : TypeId} {pos : String} {after : Array Edge} {guard : Option (Nat × Bool)}
    (hf : argOk e true f) (hargs : ∀ x ∈ args.toList, argOk e true x) {Post : AV → St → Prop} (hv : VCalls P w0 (argV e f) (args.toList.map fun x => (argV e x).pub) st Post) (Q : Exit → Act → World → Prop) (K : Act → World → Prop)
    (hK : ∀ r s, Post r s → ∀ v w' M', Ext w0 M w M' w' → RelSt w0 M' s w' → R w0 M' w' v r → K (a.put dst v) w') :
    (⟨dst, .call ⟨.value f, args, ts⟩, type, pos, after, guard⟩ : Oper).wpIn (FW ro) m P a w K Q := by
  have hrow := row_pub h hargs
  have hR := arg_R h hf
  refine ⟨fun f _ => FW_fn ro f, ?_⟩
  have hs : Oper.semAt (FW ro).round a.eval ⟨dst, .call ⟨.value f, args, ts⟩, type, pos, after, guard⟩ = execOp a.eval ⟨dst, .call ⟨.value f, args, ts⟩, type, pos, after, guard⟩ := by
    cases ro with
    | none => rfl
    | some l => exact Oper.semAt_some l a.eval _ (fun c hh => by cases hh)
  rw [hs]
  cases hx : argV e f with
  | clo g xs =>
    rw [hx] at hR hv
    obtain ⟨cs, ef, hcs⟩ := clo_inv hR
    have hrun : (execOp a.eval ⟨dst, .call ⟨.value f, args, ts⟩, type, pos, after, guard⟩).run P w = .ok (.enter g (args.map a.eval ++ cs)) w := by
      simp [execOp, resolve, ef, Deferred.ofValue, invoke, hv.1 (args.map a.eval ++ cs) w]
    rw [hrun]
    refine ⟨fun q => FW_depth ro q m, callsIn_FW ((hv.2 M w _ h.st (hrow.append hcs)).mono ?_)⟩
    rintro en w' ⟨v', M', r, s, rfl, hp, h1, h2, h3⟩
    exact hK r s hp v' w' M' h1 h2 h3
  | yld k =>
    rw [hx] at hR hv
    have ef := yld_inv hR
    obtain ⟨fn, tmps, asg, body, hy, hround⟩ := hv M w _ h.st hrow
    have hrun : (execOp a.eval ⟨dst, .call ⟨.value f, args, ts⟩, type, pos, after, guard⟩).run P w = .ok (.round (M.lb k) fn tmps asg body) w := by
      simp [execOp, resolve, ef, Deferred.ofValue, invoke, hy]
    rw [hrun]
    refine ⟨fun q => FW_depth ro q m, ?_⟩
    have := hround (m - 1)
    refine RoundIn.mono (F := FW ro) (by cases ro <;> exact this) ?_
    rintro en w' ⟨v', M', r, s, rfl, hp, h1, h2, h3⟩
    exact hK r s hp v' w' M' h1 h2 h3
  | _ => rw [hx] at hv; exact hv.elim

/-! ### the environment after a step -/
theorem getD_put (a : Act) (dst : Option Nat) (v : Value) (s : Nat) (hd : dstOk a.tmps.size dst) : (a.put dst v).tmps.getD s undef = if dst = some s then v else a.tmps.getD s undef := by
  cases dst with
  | none => simp [Act.put]
  | some d =>
    simp only [dstOk] at hd
    simp only [Act.put, Option.some.injEq]
    by_cases c : d = s
    · subst c
      simp [hd]
    · rw [if_neg c]
      simp [Array.getElem?_setIfInBounds_ne c]
theorem size_put (a : Act) (dst : Option Nat) (v : Value) : (a.put dst v).tmps.size = a.tmps.size := by cases dst <;> simp [Act.put]
theorem defers_put (a : Act) (dst : Option Nat) (v : Value) : (a.put dst v).defers = a.defers := by cases dst <;> rfl

theorem Rel.put (h : Rel w0 n M e st a w) {M' : Mem} {w' : World} {st' : St} (hx : Ext w0 M w M' w') (hst : RelSt w0 M' st' w') {dst : Option Nat} (hd : dstOk n dst) {c : Bool} {v : Value} {r : AV} (hv : entryOk w0 M' w' v (c, r)) :
    Rel w0 n M' (putE e dst c r) st' (a.put dst v) w' := by
  refine ⟨hst, by rw [size_put]; exact h.size, fun s x hs => ?_⟩
  rw [getD_put a dst v s (by rw [h.size]; exact hd)]
  cases dst with
  | none => exact (h.env s x hs).mono hx
  | some d =>
    simp only [putE, look] at hs
    simp only [Option.some.injEq]
    by_cases q : d = s
    · rw [if_pos q] at hs ⊢
      cases hs
      exact hv
    · rw [if_neg q] at hs ⊢
      exact (h.env s x hs).mono hx

theorem yielded_some {ops : Array Oper} {ts : Array Value} {j d : Nat} (h : (ops[j]?).bind (·.dst) = some d) : yielded ops ts j = match ts.getD d undef with | .bool b => some b | _ => none := by
  unfold yielded
  simp only [h]
  rw [Array.getD_eq_getD_getElem?]
  change (match ts[(d : Nat)]? with | some (.bool b) => some b | _ => none) = _
  cases ts[(d : Nat)]? with
  | none => rfl
  | some v => cases v <;> rfl

theorem wanted_spec (h : Rel w0 n M e st a w) {all : List Oper} {o : Oper} (hg : guardOk all e o.guard) : Region.wanted o (yielded all.toArray a.tmps) = guardC all e o.guard := by
  unfold Region.wanted guardC
  cases hgd : o.guard with
  | none => rfl
  | some p =>
    obtain ⟨j, want⟩ := p
    rw [hgd] at hg
    simp only [guardOk] at hg
    have e0 : (all.toArray[j]?).bind (·.dst) = (all[j]?).bind (·.dst) := by simp
    dsimp only
    cases hd : (all[j]?).bind (·.dst) with
    | none => simp [hd] at hg
    | some d =>
      rw [yielded_some (e0.trans hd)]
      simp only [hd] at hg ⊢
      cases hl : look e d with
      | none => simp [hl] at hg
      | some x =>
        obtain ⟨cj, v⟩ := x
        simp only [hl] at hg ⊢
        have hen := h.env d _ hl
        cases v with
        | val u =>
          cases u <;> try cases hg
          rename_i b
          unfold entryOk at hen
          cases cj with
          | true =>
            rw [if_pos rfl] at hen
            obtain ⟨e1, _⟩ := hen.val_inv
            rw [e1]
            cases b <;> cases want <;> rfl
          | false =>
            rw [if_neg (by simp)] at hen
            rw [hen]
            rfl
        | _ => cases hg

def subE (e' e : Env) : Prop := ∀ s x, look e' s = some x → look e s = some x
theorem Rel.sub {e' : Env} (h : Rel w0 n M e st a w) (hs : subE e' e) : Rel w0 n M e' st a w := ⟨h.st, h.size, fun s x hx => h.env s x (hs s x hx)⟩
theorem look_keepL : ∀ (K : List Nat) (e : Env) (s : Nat) (x : Bool × AV), look (keepL K e) s = some x → look e s = some x
  | [], _, _, _, h => by simp [keepL, look] at h
  | k :: K, e, s, x, h => by
    simp only [keepL] at h
    cases hk : look e k with
    | none =>
      simp only [hk] at h
      exact look_keepL K e s x h
    | some y =>
      obtain ⟨c, v⟩ := y
      simp only [hk, look] at h
      by_cases q : k = s
      · rw [if_pos q] at h
        subst q
        rw [hk]; exact h
      · rw [if_neg q] at h
        exact look_keepL K e s x h
theorem sub_keepL (K : List Nat) (e : Env) : subE (keepL K e) e := look_keepL K e
theorem mem_keepL : ∀ (K : List Nat) (e : Env) (s : Nat) (x : Bool × AV), look (keepL K e) s = some x → s ∈ K
  | [], _, _, _, h => by simp [keepL, look] at h
  | k :: K, e, s, x, h => by
    simp only [keepL] at h
    cases hk : look e k with
    | none =>
      simp only [hk] at h
      exact List.mem_cons_of_mem _ (mem_keepL K e s x h)
    | some y =>
      obtain ⟨c, v⟩ := y
      simp only [hk, look] at h
      by_cases q : k = s
      · exact q ▸ List.mem_cons_self
      · rw [if_neg q] at h
        exact List.mem_cons_of_mem _ (mem_keepL K e s x h)
theorem sub_view (d : Bool) (all : List Oper) (o : Oper) (e : Env) : subE (view d all o e) e := by
  unfold view
  split
  · exact sub_keepL _ _
  · exact fun _ _ h => h


/-- Regions, in the order of the text. -/
theorem evK_sound (ro : Option Nat) (m : Nat) (d : Bool) (all : List Oper) (KK : Env → St → Prop) (Q : Exit → Act → World → Prop) : ∀ (c : Nat) (os : List Oper) (e : Env) (st : St) (a : Act) (w : World) (M : Mem), Rel w0 n M e st a w →
    evK P w0 n d all KK c os e st → (∀ e' st' a' w' M', KK e' st' → Rel w0 n M' e' st' a' w' → Ext w0 M w M' w' → a'.defers = a.defers → Q .normal a' w') → wpListIn (FW ro) m P all.toArray Q os a w
  | 0, _, _, _, _, _, _, _, h, _ => h.elim
  | c + 1, os, e, st, a, w, M, hr, h, hQ => by
    have key : ∀ (os : List Oper) (e : Env) (st : St) (a : Act) (w : World) (M : Mem), Rel w0 n M e st a w → evS P w0 n d all (evK P w0 n d all KK c) KK os e st →
        (∀ e' st' a' w' M', KK e' st' → Rel w0 n M' e' st' a' w' → Ext w0 M w M' w' → a'.defers = a.defers → Q .normal a' w') → wpListIn (FW ro) m P all.toArray Q os a w := by
      intro os
      induction os with
      | nil => exact fun e st a w M hr h hQ => hQ e st a w M h hr (.refl _ _ _) rfl
      | cons o os ih =>
        intro e st a w M hr h hQ
        have hv := sub_view d all o e
        have hr1 := hr.sub hv
        by_cases hc : isCallF o.op = true
        · obtain ⟨dst, op, type, pos, after, guard⟩ := o
          cases op <;> try cases hc
          rename_i cc
          obtain ⟨callee, args, ts⟩ := cc
          cases callee <;> try cases hc
          rename_i f
          simp only [evS] at h
          obtain ⟨hg, hd, h1, hk⟩ := h
          unfold wpListIn
          rw [wanted_spec hr1 hg]
          have go : ∀ v s, evK P w0 n d all KK c os (putE e dst (guardC all (view d all ⟨dst, .call ⟨.value f, args, ts⟩, type, pos, after, guard⟩ e) guard) v) s → ∀ u w' M', Ext w0 M w M' w' → RelSt w0 M' s w' →
              entryOk w0 M' w' u (guardC all (view d all ⟨dst, .call ⟨.value f, args, ts⟩, type, pos, after, guard⟩ e) guard, v) → wpListIn (FW ro) m P all.toArray Q os (a.put dst u) w' := by
            intro v s hev u w' M' hx hst hu
            exact evK_sound ro m d all KK Q c os _ _ _ _ M' (hr.put hx hst hd hu) hev (fun e' st' a' w'' M'' k1 k2 k3 k4 => hQ e' st' a' w'' M'' k1 k2 (hx.trans k3) (k4.trans (defers_put a dst u)))
          cases hcc : guardC all (view d all ⟨dst, .call ⟨.value f, args, ts⟩, type, pos, after, guard⟩ e) guard with
          | true =>
            rw [hcc] at h1 hk go
            obtain ⟨b1, b2⟩ := h1 rfl
            rw [if_pos rfl]
            rcases hk with ⟨v, k1, k2⟩ | ⟨_, Post, k1, k2⟩
            · refine call_sound hr1 ro m b1 b2 (k1 rfl) Q _ (fun r s hp u w' M' hx hst hu => ?_)
              obtain ⟨rfl, rfl⟩ := hp
              exact go _ _ k2 u w' M' hx hst hu
            · exact call_sound hr1 ro m b1 b2 (k1 rfl) Q _ (fun r s hp u w' M' hx hst hu => go _ _ (k2 r s (fun _ => hp) (fun q => by cases q)) u w' M' hx hst hu)
          | false =>
            rw [hcc] at h1 hk go
            rw [if_neg (by simp)]
            refine ⟨fun g _ => FW_fn ro g, ?_⟩
            rcases hk with ⟨v, k1, k2⟩ | ⟨_, Post, k1, k2⟩
            · exact go _ _ k2 undef w M (.refl _ _ _) hr.st rfl
            · exact go .junk st (k2 .junk st (fun q => by cases q) (fun _ => rfl)) undef w M (.refl _ _ _) hr.st rfl
        · rw [evS_other hc] at h
          obtain ⟨hg, hd, h1, h0, hrest⟩ := h
          unfold wpListIn
          rw [wanted_spec hr1 hg]
          have go : ∀ u w' M', Ext w0 M w M' w' → RelSt w0 M' (evOp P (view d all o e) (guardC all (view d all o e) o.guard) st o.op).2.2 w' →
              entryOk w0 M' w' u (guardC all (view d all o e) o.guard, (evOp P (view d all o e) (guardC all (view d all o e) o.guard) st o.op).2.1) → wpListIn (FW ro) m P all.toArray Q os (a.put o.dst u) w' := by
            intro u w' M' hx hst hu
            exact ih _ _ _ _ M' (hr.put hx hst hd hu) hrest (fun e' st' a' w'' M'' k1 k2 k3 k4 => hQ e' st' a' w'' M'' k1 k2 (hx.trans k3) (k4.trans (defers_put a o.dst u)))
          cases hcc : guardC all (view d all o e) o.guard with
          | true =>
            rw [hcc] at h1 go
            rw [if_pos rfl]
            exact one_sound hr1 ro m o (h1 rfl) Q _ (fun v w' M' hx hst hv => go v w' M' hx hst hv)
          | false =>
            rw [hcc] at h0 go
            rw [if_neg (by simp)]
            refine ⟨fun g _ => FW_fn ro g, go undef w M (.refl _ _ _) ?_ rfl⟩
            have q : (evOp P (view d all o e) false st o.op).2.2 = st := h0 (.inl rfl)
            rw [q]
            exact hr.st
    exact key os e st a w M hr h hQ
end
end Go.Ev
