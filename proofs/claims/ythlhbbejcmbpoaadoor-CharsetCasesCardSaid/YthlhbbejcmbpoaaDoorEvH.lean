/-
  A function's contract out of its body.
-/
import Derived.Test.YthlhbbejcmbpoaaDoorEvG
namespace Go.Ev
open Go Go.RowKit

section
variable {P : Program} {w0 : World} {n : Nat} {M : Mem} {e : Env} {st : St} {a : Act} {w : World}

def resOk (P : Program) (e : Env) (st : St) : ResultVar → Prop
  | .tmp t => argOk e true (.tmp t)
  | .cell t ty => (evOp P e true st (.load ty (.tmp t))).1
def resV (P : Program) (e : Env) (st : St) : ResultVar → AV
  | .tmp t => (argV e (.tmp t)).pub
  | .cell t ty => (evOp P e true st (.load ty (.tmp t))).2.1.pub
def retV : List AV → AV
  | [x] => x
  | l => .tup l
/-- What a function's body comes to. -/
def bodyA (P : Program) (rs : List ResultVar) (Post : AV → St → Prop) : AQ := fun x e st =>
  match x with
  | .normal | .ret => (∀ r ∈ rs, resOk P e st r) ∧ Post (retV (rs.map (resV P e st))) st
  | _ => False
theorem load_sound (h : Rel w0 n M e st a w) (t : TypeId) (x : Operand) (hob : (evOp P e true st (.load t x)).1) :
    ∃ v, (do loadVar t (← asAddr (a.eval x)) : Sem Value).run P w = .ok v w ∧ R w0 M w v (evOp P e true st (.load t x)).2.1 := by
  unfold evOp at hob ⊢
  cases ht : tyT P t with
  | none => simp [ht] at hob
  | some p =>
    obtain ⟨sz, ag⟩ := p
    simp only [ht] at hob ⊢
    obtain ⟨hx, hr, hle, h1⟩ := hob
    obtain ⟨b, o, ev, hone, hc⟩ := ref_spec h.st (arg_R h hx) hr
    rw [ev]
    have key : ∀ j, j < sz → ∃ u, w.cell? ⟨b, o + offAt (argV e x) + j, none⟩ = some u ∧ ∀ hj, R w0 M w u ((cellsAt st (argV e x))[offAt (argV e x) + j]'hj) := by
      intro j hj
      obtain ⟨u, h2, h3⟩ := hc (offAt (argV e x) + j) (by omega)
      exact ⟨u, by rw [← h2, Nat.add_assoc], fun _ => h3⟩
    let f : Nat → Value := fun j => ((w.cell? ⟨b, o + offAt (argV e x) + j, none⟩).getD undef)
    have hf : ∀ j, j < sz → w.cell? ⟨b, o + offAt (argV e x) + j, none⟩ = some (f j) := fun j hj => by
      obtain ⟨u, hu, _⟩ := key j hj
      simp [f, hu]
    refine ⟨if ag then .agg ((List.range sz).map f).toArray else f 0, ?_, (loadA_R hone hle h1 (fun j hj => ?_))⟩
    · simp only [asAddr, Sem.run_bind, Sem.run_pure, Result.andThen_ok]
      exact run_loadVar' ht hf h1
    · by_cases hjs : j < sz
      · obtain ⟨u, hu, hR⟩ := key j hjs
        have : f j = u := by simp [f, hu]
        rw [this]
        exact hR hj
      · obtain ⟨u, hu, hR⟩ := hc (offAt (argV e x) + j) hj
        have : f j = u := by simp [f, Nat.add_assoc, hu]
        rw [this]
        exact hR

theorem run_mapM_at {α : Type} (f : α → Sem Value) (g : α → Value) : ∀ (l : List α), (∀ x ∈ l, (f x).run P w = .ok (g x) w) → (l.mapM f).run P w = .ok (l.map g) w
  | [], _ => by simp
  | x :: l, h => by simp [h x (by simp), run_mapM_at f g l (fun y hy => h y (by simp [hy]))]

theorem retV_sound {V : ResultVar → AV} (rs : List ResultVar) (g : ResultVar → Value) (hg : ∀ r ∈ rs, R w0 M w (g r) (V r)) :
    R w0 M w (if h : (rs.map g).toArray.size = 1 then (rs.map g).toArray[0] else .tuple (rs.map g).toArray) (retV (rs.map V)) := by
  match rs, hg with
  | [], _ => exact .tup rfl (fun i h1 _ => absurd h1 (by simp))
  | [r], hg => exact (hg r (by simp))
  | r :: r' :: l, hg =>
    have : ¬ ((List.map g (r :: r' :: l)).toArray.size = 1) := by simp
    rw [dif_neg this]
    refine .tup (by simp) (fun i h1 h2 => ?_)
    have hi : i < (r :: r' :: l).length := by simpa using h2
    have e1 : (List.map g (r :: r' :: l)).toArray[i] = g (r :: r' :: l)[i] := by rw [List.getElem_toArray, List.getElem_map]
    have e2 : (List.map V (r :: r' :: l))[i]'h2 = V (r :: r' :: l)[i] := by rw [List.getElem_map]
    have := (hg (r :: r' :: l)[i] (List.getElem_mem _))
    rw [← e1, ← e2] at this
    exact this

theorem res_sound (h : Rel w0 n M e st a w) {fn : Func} {rs : List ResultVar} (hfn : fn.results = rs.toArray) (hrs : ∀ r ∈ rs, resOk P e st r) :
    ∃ v, (results fn a.tmps).run P w = .ok v w ∧ R w0 M w v (retV (rs.map (resV P e st))) := by
  let f : ResultVar → Sem Value := fun
    | .tmp t => pure (a.tmps.getD t undef)
    | .cell b t => do loadVar t (← asAddr (a.tmps.getD b undef))
  have hone : ∀ r ∈ rs, ∃ v, (f r).run P w = .ok v w ∧ R w0 M w v (resV P e st r) := by
    intro r hr
    have := hrs r hr
    cases r with
    | tmp t => exact ⟨_, rfl, (arg_R h (x := .tmp t) this).pub⟩
    | cell b t =>
      obtain ⟨v, h1, h2⟩ := load_sound h t (.tmp b) this
      exact ⟨v, h1, h2.pub⟩
  classical
  let g : ResultVar → Value := fun r => if hr : r ∈ rs then Classical.choose (hone r hr) else undef
  have hg : ∀ r ∈ rs, (f r).run P w = .ok (g r) w ∧ R w0 M w (g r) (resV P e st r) := by
    intro r hr
    have := Classical.choose_spec (hone r hr)
    have e : g r = Classical.choose (hone r hr) := by simp only [g, dif_pos hr]
    rw [e]; exact this
  have hm : (fn.results.mapM f).run P w = .ok ((rs.map g).toArray) w := by
    rw [hfn, Array.mapM_eq_mapM_toList]
    simp only [Sem.run_map, run_mapM_at f g rs (fun r hr => (hg r hr).1), Result.andThen_ok]
  have hrun : (results fn a.tmps).run P w = .ok (if h : (rs.map g).toArray.size = 1 then (rs.map g).toArray[0] else .tuple (rs.map g).toArray) w := by
    unfold results
    simp only [Sem.run_bind]
    refine Eq.trans (congrArg (fun x => Result.andThen x _) hm) ?_
    simp only [Result.andThen_ok, Sem.run_pure]
  refine ⟨_, hrun, ?_⟩
  exact retV_sound rs g fun r hr => (hg r hr).2

def argsE : Nat → List AV → Env
  | _, [] => []
  | k, x :: l => (k, true, x) :: argsE (k + 1) l
theorem look_argsE : ∀ (l : List AV) (k s : Nat) (x : Bool × AV), look (argsE k l) s = some x → ∃ i, s = k + i ∧ ∃ y, l[i]? = some y ∧ x = (true, y)
  | [], _, _, _, h => by cases h
  | y :: l, k, s, x, h => by
    simp only [argsE, look] at h
    by_cases c : k = s
    · rw [if_pos c] at h; cases h; exact ⟨0, c.symm, y, rfl, rfl⟩
    · rw [if_neg c] at h
      obtain ⟨i, h1, z, h2, h3⟩ := look_argsE l (k + 1) s x h
      exact ⟨i + 1, by omega, z, h2, h3⟩

/-! ### the marks go -/
theorem R.same {M : Mem} {w w' : World} (hs : ∀ (b off : Nat) (v : Value), w.cell? ⟨b, off, none⟩ = some v → w'.cell? ⟨b, off, none⟩ = some v) {v : Value} {x : AV} (h : R w0 M w v x) : R w0 M w' v x := by
  induction h with
  | flat h => exact .flat h
  | agg hl h1 _ ih => exact .agg hl h1 ih
  | tup hl _ ih => exact .tup hl ih
  | nil ho => exact .nil ho
  | @list b off cap xs o sz us hc hm hcell _ ho ih =>
    refine .list sz us hc hm (fun i hi => ⟨(hcell i hi).1, fun j hj => ⟨((hcell i hi).2 j hj).1, ?_⟩⟩) ih ho
    obtain ⟨v, hv⟩ := cells_get (u := us i) (j := j) (by rw [(hcell i hi).1]; exact hj)
    exact (hs _ _ _ ((((hcell i hi).2 j hj).2).trans hv)).trans hv.symm
  | @elem b off x u k hcell _ ih =>
    refine .elem u k (fun j hj => ⟨(hcell j hj).1, ?_⟩) ih
    obtain ⟨v, hv⟩ := cells_get (u := u) (j := j) hj
    exact (hs _ _ _ ((hcell j hj).2.trans hv)).trans hv.symm
  | box hl => exact .box hl
  | clo hl _ ih => exact .clo hl ih
  | yld hk => exact .yld hk

theorem cell_putObj {w : World} {D : Nat} {o o' : Obj} (hD : w.heap[D]? = some o) (ho : o.isCells = false) {b off : Nat} {v : Value} (h : w.cell? ⟨b, off, none⟩ = some v) : (w.putObj D o').cell? ⟨b, off, none⟩ = some v := by
  by_cases c : b = D
  · subst c
    unfold World.cell? at h
    simp only [hD] at h
    cases o with
    | cells c ty fz => simp [Obj.isCells] at ho
    | _ => simp at h
  · unfold World.cell? at h ⊢
    simp only [World.putObj_heap_other c] at h ⊢
    exact h
theorem entryOk.same {M : Mem} {w w' : World} (hs : ∀ (b off : Nat) (v : Value), w.cell? ⟨b, off, none⟩ = some v → w'.cell? ⟨b, off, none⟩ = some v) {v : Value} {x : Bool × AV} (h : entryOk w0 M w v x) : entryOk w0 M w' v x := by
  unfold entryOk at *
  split
  · rename_i c; rw [if_pos c] at h; exact h.same hs
  · rename_i c; rw [if_neg c] at h; exact h
theorem Below.putObj {B D : Nat} {x y : World} (h : Below B x y) (hD : B ≤ D) (o : Obj) : Below B x (y.putObj D o) :=
  h.trans ⟨rfl, rfl, rfl, by simp, fun k hk => World.putObj_heap_other (by omega)⟩
/-- A block that is no cells and no loop of ours is turned. -/
theorem RelSt.putObj {M : Mem} {w : World} (h : RelSt w0 M st w) {D : Nat} {o : Obj} (o' : Obj) (hD : w.heap[D]? = some o) (ho : o.isCells = false) (h0 : w0.heap.size ≤ D) (hl : ∀ k, k < M.NL → M.lb k ≠ D) : RelSt w0 M st (w.putObj D o') := by
  have hs : ∀ (b off : Nat) (v : Value), w.cell? ⟨b, off, none⟩ = some v → (w.putObj D o').cell? ⟨b, off, none⟩ = some v := fun b off v => cell_putObj hD ho
  have hc : ∀ {b : Nat} {c : Array Value} {ty : TypeId}, w.heap[b]? = some (.cells c ty (0, 0)) → (w.putObj D o').heap[b]? = some (.cells c ty (0, 0)) := by
    intro b c ty hb
    rw [World.putObj_heap_other (fun e => by subst e; rw [hD] at hb; cases hb; cases ho)]
    exact hb
  refine ⟨Below.putObj h.below h0 _, h.N, h.NR, fun b hb => h.top b (by simpa using hb), h.inj, fun l cs hl' => ?_, fun id k sz hk => ?_, h.rowinj, ⟨h.loop.NL, h.loop.inj, fun k la hk => ?_⟩⟩
  · obtain ⟨a1, a2, c, ty, a3, a4, a5, a6⟩ := h.box l cs hl'
    exact ⟨a1, a2, c, ty, hc a3, a4, a5, fun i b1 b2 => (a6 i b1 b2).same hs⟩
  · obtain ⟨a1, a2, a3, a4, a5, a6, a7, c, ty, a8, a9⟩ := h.row id k sz hk
    exact ⟨a1, a2, a3, a4, a5, a6, a7, c, ty, hc a8, a9⟩
  · have hk' : k < M.NL := by rw [h.loop.NL]; exact (List.getElem?_eq_some_iff.1 hk).1
    obtain ⟨a1, r, a2, a3, a4, a5, a6, a7, a8, a9⟩ := h.loop.record k la hk
    exact ⟨a1, r, by rw [World.putObj_heap_other (hl k hk')]; exact a2, a3, a4, a5, a6, a7, a8, fun s x hs' => (a9 s x hs').same hs⟩

/-- A function's end, marks and all. -/
theorem leaves_marks {M0 : Mem} {W0 : World} {fn : Func} {RR : Ending → World → Prop} {m : Nat} {tmps : Array Value} : ∀ (Ds : List Nat) (M : Mem) (w : World), Ds.Nodup → (∀ D ∈ Ds, W0.heap.size ≤ D ∧ w.heap[D]? = some (.deferred (some []))) →
    W0.heap.size ≥ w0.heap.size → RelSt w0 M st w → Ext w0 M0 W0 M w →
    (∀ w', RelSt w0 M st w' → Ext w0 M0 W0 M w' → (∀ v x, R w0 M w v x → R w0 M w' v x) → ∃ v, (results fn tmps).run P w' = .ok v w' ∧ RR (.returned v) w') →
    LeavesInM (FW none) m P fn tmps RR (Ds.map fun D => { target := .collected D, args := #[] }) .returning w
  | [], M, w, _, _, _, hr, hx, hk => hk w hr hx fun _ _ h => h
  | D :: Ds, M, w, hn, hD, hw, hr, hx, hk => by
    obtain ⟨d1, d2⟩ := hD D (by simp)
    have hne : ∀ k, k < M.NL → M.lb k ≠ D := by
      intro k hk' e
      have hk'' : k < st.loops.length := by rw [← hr.loop.NL]; exact hk'
      obtain ⟨_, r, hr', _⟩ := hr.loop.record k _ (List.getElem?_eq_getElem hk'')
      rw [e, d2] at hr'
      cases hr'
    have hs : ∀ (b off : Nat) (v : Value), w.cell? ⟨b, off, none⟩ = some v → (w.putObj D (.deferred none)).cell? ⟨b, off, none⟩ = some v := fun b off v => cell_putObj d2 rfl
    have hx' : Ext w0 M0 W0 M (w.putObj D (.deferred none)) :=
      ⟨hx.N, hx.bx, hx.NR, hx.rows, fun b off v h1 h2 => let ⟨a, b'⟩ := hx.cell b off v h1 h2; ⟨hs _ _ _ a, b'⟩, by have := hx.size; simpa using this, hx.NL, hx.lb, hx.lnew, fun b o h1 h2 h3 => by
        have hb : b < W0.heap.size := (Array.getElem?_eq_some_iff.1 h1).1
        rw [World.putObj_heap_other (by omega)]
        exact hx.objs b o h1 h2 h3⟩
    refine ⟨by simp, .inl ⟨D, _, rfl, run_takeDeferred d2, ?_⟩⟩
    have hn' := List.nodup_cons.1 hn
    refine leaves_marks Ds M _ hn'.2 (fun E hE => ?_) hw (hr.putObj _ d2 rfl (by omega) hne) hx' (fun w' k1 k2 k3 => hk w' k1 k2 fun v x h => k3 v x (h.same hs))
    obtain ⟨e1, e2⟩ := hD E (List.mem_cons_of_mem _ hE)
    have hne' : E ≠ D := fun e => hn'.1 (by rw [← e]; exact hE)
    exact ⟨e1, by rw [World.putObj_heap_other hne']; exact e2⟩

theorem acalls_of {f : FuncId} {fn : Func} {c : Code} {args : List AV} {rs : List ResultVar} {Post : AV → St → Prop} (hf : P.funcs[f]? = some fn) (hb : fn.body = some c) (hrs : fn.results = rs.toArray) (hn : fn.ntmps = n)
    (hen : Enters P f) (ha : args.length ≤ n)
    (h : ∀ (M0 : Mem) (W0 : World), M0.N = st.boxes.length → M0.NR = st.rows.length → M0.NL = st.loops.length → Calm st.boxes.length st.rows.length st.loops.length st → (∀ x ∈ args, Under st.boxes.length st.rows.length st.loops.length x) →
      awp P w0 n M0 W0 none c (bodyA P rs Post) (argsE 0 args) st) : ACalls P w0 f args st Post := by
  refine ⟨hen, fun M w vals hst hrow => ?_⟩
  have hsz : vals.size = args.length := hrow.1
  have hu : ∀ x ∈ args, Under st.boxes.length st.rows.length st.loops.length x := by
    intro x hx
    obtain ⟨i, hi, rfl⟩ := List.mem_iff_getElem.1 hx
    have := (hrow.get (i := i) (Array.getElem?_eq_getElem (by omega)) (List.getElem?_eq_getElem hi)).under
    rwa [hst.N, hst.NR, hst.loop.NL] at this
  have hrel : Rel w0 n M (argsE 0 args) st { tmps := vals ++ Array.replicate (fn.ntmps - vals.size) undef, defers := [] } w := by
    refine ⟨hst, by simp; omega, fun s x hs => ?_⟩
    obtain ⟨i, h1, y, h2, rfl⟩ := look_argsE _ _ _ _ hs
    have hi : i < args.length := (List.getElem?_eq_some_iff.1 h2).1
    have hs' : s = i := by omega
    subst hs'
    simp only [entryOk, if_true]
    have e1 : (vals ++ Array.replicate (fn.ntmps - vals.size) undef).getD s undef = vals[s]'(by omega) := by
      simp [Array.getD_eq_getD_getElem?, Array.getElem?_append_left (show s < vals.size by omega), Array.getElem?_eq_getElem (show s < vals.size by omega)]
    rw [e1]
    exact hrow.get (Array.getElem?_eq_getElem (by omega)) h2
  refine calls_of_FW (n := 0) (callsIn_of_wp_marks hf hb trivial (wpIn_mono (h M w hst.N hst.NR hst.loop.NL hst.calm hu 0 M _ w ⟨hrel, .refl _ _ _, [], by simp⟩) ?_))
  rintro ex a' w' ⟨M', e', s', h1, h3⟩
  have done : ∀ (hr : ∀ r ∈ rs, resOk P e' s' r) (hp : Post (retV (rs.map (resV P e' s'))) s'),
      LeavesInM (FW none) 0 P fn a'.tmps (Comes' w0 M w Post) a'.defers .returning w' := by
    intro hr hp
    obtain ⟨Ds, m1, m2, m3⟩ := h1.marks
    rw [m2]
    refine leaves_marks Ds M' w' m1 m3 hst.base_le h1.rel.st h1.ext fun w2 k1 k2 k3 => ?_
    have hrel2 : Rel w0 n M' e' s' a' w2 := ⟨k1, h1.rel.size, fun s x hs => by
      have := h1.rel.env s x hs
      unfold entryOk at *
      split
      · rename_i c; rw [if_pos c] at this; exact k3 _ _ this
      · rename_i c; rw [if_neg c] at this; exact this⟩
    obtain ⟨v, q1, q2⟩ := res_sound hrel2 hrs hr
    exact ⟨v, q1, v, M', _, s', rfl, hp, k2, k1, q2⟩
  cases ex with
  | normal => exact done h3.1 h3.2
  | ret => exact done h3.1 h3.2
  | _ => exact h3.elim

/-- What the call made for itself is forgotten when it returns. -/
def finA (st : St) (Post : AV → St → Prop) (r : AV) (s : St) : Prop :=
  st.boxes.length ≤ s.boxes.length ∧ st.rows.length ≤ s.rows.length ∧ st.loops.length ≤ s.loops.length ∧ Calm st.boxes.length st.rows.length st.loops.length (s.cut st.boxes.length st.rows.length st.loops.length) ∧
    Under st.boxes.length st.rows.length st.loops.length r ∧ Post r (s.cut st.boxes.length st.rows.length st.loops.length)

theorem ACalls.fin {f : FuncId} {args : List AV} {Post : AV → St → Prop} (h : ACalls P w0 f args st (finA st Post)) : ACalls P w0 f args st Post := by
  refine ⟨h.1, fun M w vals hst hrow => (h.2 M w vals hst hrow).mono ?_⟩
  rintro en w' ⟨v, M', r, st', h1, ⟨b1, b2, b3, b4, b5, b6⟩, h3, h4, h5⟩
  exact ⟨v, M'.cut st.boxes.length st.rows.length st.loops.length, r, _, h1, b6, h3.cut (by have := hst.N; omega) (by have := hst.NR; omega) (by have := hst.loop.NL; omega) (by rw [h4.loop.NL]; exact b3), h4.cut b1 b2 b3 b4, h5.cut b5⟩

theorem enters_of {f : FuncId} {fn : Func} {c : Code} (hf : P.funcs[f]? = some fn) (hb : fn.body = some c) (hn : fn.name ≠ "runtime.NumGoroutine") : Enters P f := by
  intro args w
  simp [callFunc, hf, hb, hn]
end
end Go.Ev
