/-
  Part 5 of the proof: rules and walks that the claim's last text uses.
-/
import Derived.BigQuiet
import Derived.Deep.LoopGhost
import Derived.Deep.QuietTactic
import Derived.Deep.RegionLaw
import Derived.Ground.Names2Prog
import Derived.Ground.NamesProg
import Derived.Ground.SlgfProg
import Derived.Ground.SlgnProg
import Derived.Ground.SlsfProg
import Derived.Laws.RangeAny
import Derived.Lib.OthersKept
import Derived.Lib.SliceRun
import Derived.Lib.Walk
import Derived.Shelf.LaysC
import Derived.Shelf.LaysM
import Derived.Shelf.RegionOpenPlain
import Derived.Shelf.SlBodiesN
import Derived.Shelf.Slices.Clone
import Derived.Shelf.SlicesE.Clone
import Derived.Shelf.SlicesE.IndexFunc
import Derived.Shelf.Small.Bits
import Derived.Shelf.Small.Strs
import Derived.Shelf.Small.Utf8
import Derived.Shelf.Spec.SlicesInsertGrow
import Derived.Shelf.Strconv.Atoi
import Derived.Shelf.Strconv.AtoiAll
import Derived.Shelf.Strconv.AtoiErrFast
import Derived.Shelf.Strconv.AtoiFail
import Derived.Shelf.Strconv.AtoiInnerAll
import Derived.Shelf.Strconv.AtoiLong
import Derived.Shelf.Strconv.Clone
import Derived.Shelf.Strconv.Lower
import Derived.Shelf.Strconv.ParseInt10
import Derived.Shelf.Strconv.ParseIntEmpty
import Derived.Shelf.Strconv.ParseUint10
import Derived.Shelf.Strconv.ParseUint10Any
import Derived.Shelf.Strconv.ParseUint10Empty
import Derived.Shelf.Strconv.RangeError
import Derived.Shelf.Strconv.SyntaxError
import Derived.Shelf.Strconv.ToError
import Derived.Shelf.Strconv.ToErrorRange
import Derived.Shelf.Strings.AsciiSet
import Derived.Shelf.Strings.Cut
import Derived.Shelf.Strings.IndexAny
import Derived.Shelf.Strings.IndexAnyAll
import Derived.Shelf.Strings.Prefix
import Derived.Shelf.Strings.Repeat
import Derived.Shelf.Strings.Runes
import Derived.Shelf.Strings.Search1
import Derived.Shelf.Strings.Search2
import Derived.Shelf.Strings.Shaped
import Derived.Shelf.Unicode.Decode
import Derived.Shelf.Unicode.DecodeAny
import Derived.Shelf.Unicode.DecodeSlow
import Derived.Test.YtkpooohjodojoaaGreatDoorProg
import Derived.WalkKit
import Derived.WalkMore
import Derived.WalkSmall
import Derived.Test.YtkpooohjodojoaaGreatDoorSg4
set_option linter.unusedSimpArgs false
set_option linter.unusedVariables false
set_option maxRecDepth 100000
set_option maxHeartbeats 4000000
namespace Go.Ev
open Go Go.RowKit
noncomputable def Fits (F : Fl) (s : St) : Prop := F.b ≤ s.boxes.length ∧ F.r ≤ s.rows.length ∧ F.l ≤ s.loops.length
noncomputable def Pre (F : Fl) (s t : St) : Prop := (t.boxes.take F.b = s.boxes.take F.b ∧ t.rows.take F.r = s.rows.take F.r ∧ t.loops.take F.l = s.loops.take F.l) ∧ Fits F t
theorem Fits.self (s : St) : Fits s.fl s := ⟨Nat.le_refl _, Nat.le_refl _, Nat.le_refl _⟩
theorem Pre.refl {F : Fl} {s : St} (hf : Fits F s) : Pre F s s := ⟨⟨rfl, rfl, rfl⟩, hf⟩
theorem Pre.of {F : Fl} {s t : St} (hf : Fits F s) (h : t = s) : Pre F s t := by subst h; exact .refl hf
theorem Pre.trans {F : Fl} {s t u : St} (h : Pre F s t) (k : Pre F t u) : Pre F s u := ⟨⟨k.1.1.trans h.1.1, k.1.2.1.trans h.1.2.1, k.1.2.2.trans h.1.2.2⟩, k.2⟩
theorem Pre.andThen {F : Fl} {s t u : St} (h : Pre F s t) (k : Fits F t → Pre F t u) : Pre F s u := h.trans (k h.2)
theorem take_set_ge {α : Type} {l : List α} {k n : Nat} {x : α} (h : n ≤ k) : (l.set k x).take n = l.take n := by
 rw [List.take_set, List.set_eq_of_length_le]
 rw [List.length_take]
 omega
theorem Pre.box {F : Fl} {s : St} {k : Nat} (c : List AV) (hf : Fits F s) (hk : F.b ≤ k) : Pre F s { s with boxes := s.boxes.set k c } := ⟨⟨take_set_ge hk, rfl, rfl⟩, by simpa using hf.1, hf.2⟩
theorem Pre.row {F : Fl} {s : St} {k : Nat} (c : RowA) (hf : Fits F s) (hk : F.r ≤ k) : Pre F s { s with rows := s.rows.set k c } := ⟨⟨rfl, take_set_ge hk, rfl⟩, hf.1, by simpa using hf.2.1, hf.2.2⟩
theorem Pre.loop {F : Fl} {s : St} {k : Nat} (c : LoopA) (hf : Fits F s) (hk : F.l ≤ k) : Pre F s { s with loops := s.loops.set k c } := ⟨⟨rfl, rfl, take_set_ge hk⟩, hf.1, hf.2.1, by simpa using hf.2.2⟩
theorem Pre.boxes {F : Fl} {s : St} (c : List (List AV)) (hf : Fits F s) : Pre F s { s with boxes := s.boxes ++ c } := ⟨⟨List.take_append_of_le_length hf.1, rfl, rfl⟩, by simp; have := hf.1; omega, hf.2⟩
theorem Pre.rows {F : Fl} {s : St} (c : List RowA) (hf : Fits F s) : Pre F s { s with rows := s.rows ++ c } := ⟨⟨rfl, List.take_append_of_le_length hf.2.1, rfl⟩, hf.1, by simp; have := hf.2.1; omega, hf.2.2⟩
theorem Pre.loops {F : Fl} {s : St} (c : List LoopA) (hf : Fits F s) : Pre F s { s with loops := s.loops ++ c } := ⟨⟨rfl, rfl, List.take_append_of_le_length hf.2.2⟩, hf.1, hf.2.1, by simp; have := hf.2.2; omega⟩
theorem Pre.get {F : Fl} {k : Nat} {s t : St} (h : Pre F s t) (hk : k < F.l) : t.loops[k]? = s.loops[k]? := by
 rw [← List.getElem?_take_of_lt hk, h.1.2.2, List.getElem?_take_of_lt hk]
noncomputable def Fl.le (G F : Fl) : Prop := G.b ≤ F.b ∧ G.r ≤ F.r ∧ G.l ≤ F.l
theorem take_le {α : Type} {l m : List α} {a b : Nat} (h : l.take b = m.take b) (hab : a ≤ b) : l.take a = m.take a := by
 have := congrArg (List.take a) h
 rwa [List.take_take, List.take_take, Nat.min_eq_left hab] at this
theorem Pre.mono {F G : Fl} {s t : St} (h : Pre F s t) (hm : G.le F) : Pre G s t :=
 ⟨⟨take_le h.1.1 hm.1, take_le h.1.2.1 hm.2.1, take_le h.1.2.2 hm.2.2⟩, Nat.le_trans hm.1 h.2.1, Nat.le_trans hm.2.1 h.2.2.1, Nat.le_trans hm.2.2 h.2.2.2⟩
theorem Pre.cut {s t : St} (h : Pre s.fl s t) : t.cut s.boxes.length s.rows.length s.loops.length = s := by
 obtain ⟨⟨h1, h2, h3⟩, _⟩ := h
 simp only [St.fl, List.take_length] at h1 h2 h3
 simp only [St.cut, h1, h2, h3]
theorem storeB_pre {F : Fl} {st : St} {a : AV} (xs : List AV) (hf : Fits F st) (h : aboveB F a = true) : Pre F st (storeB st a xs) := by
 unfold storeB
 split
 ·
  exact .box _ hf (Nat.le_of_ble_eq_true h)
 ·
  split
  ·
   exact .row _ hf (Nat.le_of_ble_eq_true h)
  ·
   exact .refl hf
 ·
  exact .refl hf
theorem evAppend_pre {P : Program} {F : Fl} {st : St} {t : TypeId} {s x : AV} (hf : Fits F st) (h : aboveB F s = true) : Pre F st (evAppend P st t s x).2.2 := by
 unfold evAppend
 split
 ·
  split
  ·
   split
   ·
    exact .refl hf
   ·
    exact .rows _ hf
  ·
   exact .row _ hf (Nat.le_of_ble_eq_true h)
  ·
   split
   ·
    exact .refl hf
   ·
    exact .rows _ hf
  ·
   split
   ·
    exact .row _ hf (Nat.le_of_ble_eq_true h)
   ·
    exact .refl hf
  ·
   exact .refl hf
 ·
  exact .refl hf
theorem evOp_pre {P : Program} {e : Env} {F : Fl} {st : St} {op : Op} (hf : Fits F st) (h : effOk F e op = true) : Pre F st (evOp P e true st op).2.2 := by
 have id : Pre F st st := .refl hf
 cases op
 case call cc =>
  obtain ⟨f, args, ts⟩ := cc
  cases f
  case builtin b =>
   cases b
   case append =>
    simp only [effOk] at h
    dsimp only [evOp]
    split
    ·
     rename_i s x t t' q1 q2
     rw [q1] at h
     exact evAppend_pre hf h
    ·
     exact id
   case clear =>
    simp only [effOk] at h
    dsimp only [evOp]
    split
    ·
     rename_i x t q1 q2
     rw [q1] at h
     simp only at h
     split
     ·
      rename_i hv _
      rw [hv] at h
      split
      ·
       exact .row _ hf (Nat.le_of_ble_eq_true h)
      ·
       exact id
     ·
      exact id
    ·
     exact id
   all_goals (dsimp only [evOp]; repeat' (first | exact id | split))
  all_goals exact id
 case makeMap t r => exact .loops _ hf
 case mapUpdate t m k v =>
  dsimp only [evOp]
  split
  ·
   rename_i i s em ek ev
   cases hks : keysAt st i with
   | none => simp only; exact id
   | some ks =>
    simp only
    simp only [effOk, em] at h
    exact .loop _ hf (Nat.le_of_ble_eq_true h)
  ·
   exact id
 case store t a v =>
  simp only [effOk] at h
  dsimp only [evOp]
  repeat' (first | exact storeB_pre _ hf h | exact id | split)
 case makeFunc f fi cap => cases f <;> first | exact id | (dsimp only [evOp]; done)
 all_goals first | exact id | (dsimp only [evOp, fixSt]; repeat' (first | exact id | exact .boxes _ hf | exact .rows _ hf | split))
theorem runR0_pre {P : Program} {n : Nat} {F : Fl} {d : Bool} {all : List Oper} {gl : TypeId → Nat → Option AV} {call : AV → List AV → St → Option (AV × St)}
  (hcall : ∀ fv args st v st', Fits F st → call fv args st = some (v, st') → Pre F st st') :
  ∀ (os : List Oper) (e : Env) (st : St) (e' : Env) (st' : St), Fits F st → runR0 P n F d all gl call os e st = some (e', st') → Pre F st st'
 | [], e, st, e', st', hf, h => by
  cases h
  exact .refl hf
 | o :: os, e, st, e', st', hf, h => by
  have ih := runR0_pre (P := P) (n := n) (d := d) (all := all) (gl := gl) hcall os
  rw [runR0] at h
  by_cases h0 : guardOk all (view d all o e) o.guard ∧ dstOk n o.dst
  rotate_left
  ·
   rw [if_neg h0] at h; cases h
  rw [if_pos h0] at h
  split at h
  ·
   split at h
   ·
    split at h
    ·
     split at h
     ·
      rename_i v s1 hv
      have q := hcall _ _ _ _ _ hf hv
      split at h
      ·
       exact ih _ _ _ _ hf h
      ·
       exact q.trans (ih _ _ _ _ q.2 h)
     ·
      cases h
    ·
     cases h
   ·
    exact ih _ _ _ _ hf h
  ·
   split at h
   ·
    split at h
    ·
     split at h
     ·
      exact ih _ _ _ _ hf h
     ·
      cases h
    ·
     cases h
   ·
    cases h
  ·
   split at h
   ·
    split at h
    ·
     exact ih _ _ _ _ hf h
    ·
     cases h
   ·
    split at h
    ·
     split at h
     ·
      rename_i hm
      have q := evOp_pre (P := P) (st := st) hf hm.1
      exact q.trans (ih _ _ _ _ q.2 h)
     ·
      cases h
    ·
     cases h
theorem runR_pre {P : Program} {n : Nat} {F : Fl} {d : Bool} {all : List Oper} {gl : TypeId → Nat → Option AV} {call : AV → List AV → St → Option (AV × St)}
  (hcall : ∀ fv args st v st', Fits F st → call fv args st = some (v, st') → Pre F st st') (os : List Oper) (e : Env) (st : St) (e' : Env) (st' : St) (hf : Fits F st) (h : runR P n F d all gl call os e st = some (e', st')) : Pre F st st' :=
 runR0_pre hcall os e st e' st' hf (runR_le _ _ _ _ h)
section
variable {P : Program} {w0 : World} {n : Nat} {e : Env} {st : St}
theorem yRoundX {la : LoopA} {k : Nat} {x : List AV} {e1 : Env} {s1 s2 : St} {ex : Exit} {jump : Option Code} (hk : st.loops[k]? = some la) (hka : la.keys = none) (hrd : la.st = .ready) (hpd : la.pend = none) (hlen : x.length = la.ps.size) (hps : ∀ p ∈ la.ps.toList, p < la.n)
  (hasg : ∀ (M0 : Mem) (W0 : World) (l : Nat), awp P w0 la.n M0 W0 (some l) la.asg (fun x e s => x = .normal ∧ e = e1 ∧ s = s1) (bindE la.e la.ps.toList x) st) (hs1 : s1.loops[k]? = some la)
  (hbody : ∀ (M0 : Mem) (W0 : World) (l : Nat), awp P w0 la.n M0 W0 (some l) la.body (fun x e s => x = ex ∧ s = s2) e1 { s1 with loops := s1.loops.set k { la with st := .busy, pend := none } })
  (hs2 : s2.loops[k]? = some { la with st := .busy, pend := none }) (hj : leftBy ex = some jump) :
  YRound P w0 k x st fun r s => r = .val (.bool jump.isNone) ∧ s = { s2 with loops := s2.loops.set k { la with st := if jump.isNone then .ready else .done, pend := jump } } := by
 intro M w vals hst hrow
 obtain ⟨r, g1, g2, g3, g4, g5, g6, g7, g8⟩ := (hst.loop.record _ _ hk).2.loop hka
 have hy := run_yield (P := P) (args := vals) g1 (by rw [g4, hrow.1, hlen])
 refine ⟨_, _, _, _, hy, fun m => roundIn_of_wpIn (F := Fence.wide) trivial ?_⟩
 rw [g5, g6]
 have hkM : k < M.NL := by rw [hst.loop.NL]; exact (List.getElem?_eq_some_iff.1 hk).1
 have hrel0 : Rel w0 la.n M la.e st { tmps := r.tmps, defers := [] } w := ⟨hst, g7, g8⟩
 have hrel := Rel.bind la.ps.toList vals.toList x la.e _ hrel0 (by simp [hlen]) hps (by simp [hrow.1]) (fun i v y hv hy => hrow.get (by rw [← Array.getElem?_toList]; exact hv) hy)
 have etm : (r.params.zip vals).foldl (fun tmps (t, a) => tmps.setIfInBounds t a) r.tmps = (la.ps.toList.zip vals.toList).foldl (fun t (p, v) => t.setIfInBounds p v) r.tmps := by
  rw [g4, ← Array.foldl_toList, Array.toList_zip]
 rw [etm]
 refine wpIn_mono (hasg M w (M.lb k) m M _ w ⟨hrel, .refl _ _ _, [], by simp⟩) ?_
 rintro ex1 a1 w1 ⟨M1, e', s', h1, rfl, rfl, rfl⟩
 obtain ⟨r1, k1, k2, k3, _⟩ := (h1.rel.st.loop.record _ _ hs1).2.loop hka
 have hlb := h1.ext.lb _ hkM
 obtain ⟨z1, z2⟩ := h1.rel.st.setLoop hs1 .busy none k1
 rw [hlb] at k1 z1 z2
 refine ⟨_, run_beginRound k1 (k2.trans hrd), ?_⟩
 have er : ({ r1 with state := LoopState.busy, pending := none } : Loop) = { r1 with state := LoopState.busy } := by rw [← k3.trans hpd]
 rw [er] at z1 z2
 have hat : At w0 la.n M w e' { s' with loops := s'.loops.set k { la with st := .busy, pend := none } } a1 (w1.putObj (M.lb k) (.loop { r1 with state := .busy })) M1 :=
  ⟨⟨z1, h1.rel.size, fun s x hs => (h1.rel.env s x hs).mono z2⟩, h1.ext.trans z2, h1.marks.later z2 h1.rel.st⟩
 refine wpIn_mono (hbody M w (M.lb k) m M1 a1 _ hat) ?_
 rintro ex2 a2 w2 ⟨M2, e2, s3, h3, rfl, rfl⟩
 obtain ⟨rec, q1, _⟩ := (h3.rel.st.loop.record _ _ hs2).2.loop hka
 have hlb2 := h3.ext.lb k hkM
 obtain ⟨y1, y2⟩ := h3.rel.st.setLoop hs2 (if jump.isNone then .ready else .done) jump q1
 rw [hlb2] at q1 y1 y2
 have fin : ∃ v w', (Instr.endRound (M.lb k) jump).run P w2 = .ok v w' ∧ Comes' w0 M w (fun r s => r = .val (.bool jump.isNone) ∧ s = { s3 with loops := s3.loops.set k { la with st := if jump.isNone then .ready else .done, pend := jump } }) (.returned v) w' :=
  ⟨_, _, run_endRound jump q1, _, M2, _, _, rfl, ⟨rfl, rfl⟩, h3.ext.trans y2, y1, .flat rfl⟩
 cases ex2 with
 | normal => cases hj; exact fin
 | ret => cases hj; exact fin
 | exit id => cases hj; exact fin
 | _ => cases hj
theorem awp_rangeX {M0 : Mem} {W0 : World} {Q : AQ} {g : Operand} {ps : Array Tmp} {asg body : Code} {gf : FuncId} {caps : List AV} {s3 : St} {la : LoopA} (hg : argOk e true g) (hgv : argV e g = .clo gf caps)
  (hcall : ACalls P w0 gf (.yld st.loops.length :: caps) (st.push ⟨e, n, ps, asg, body, .ready, none, none⟩) fun _ s => s = s3) (hla : s3.loops[st.loops.length]? = some la) (hk : la.keys = none) (hst : la.st ≠ .busy)
  (hq : ∀ ex, leftBy ex = some la.pend → Q ex e { s3 with loops := s3.loops.set st.loops.length { la with st := .exhausted, pend := la.pend } }) (hex : ∃ ex, leftBy ex = some la.pend) : awp P w0 n M0 W0 none (.rangeFunc g ps asg body) Q e st := by
 intro m M a w hr
 refine wpIn_rangeFunc fun fn _ => ?_
 obtain ⟨n1, n2⟩ := hr.rel.newLoop fn ps asg body
 obtain ⟨cs, hcs, hrow⟩ := clo_inv (hgv ▸ arg_R hr.rel hg)
 generalize hW1 : ((w.alloc (.deferred (some []))).alloc (.loop { state := .ready, pending := none, fn, tmps := a.tmps, params := ps, assign := asg, body, defers := w.heap.size })) = W1 at n1 n2
 generalize hM1 : M.newLoop (w.heap.size + 1) = M1 at n1 n2
 have hNL : M.NL = st.loops.length := hr.rel.st.loop.NL
 have hlbk : M1.lb st.loops.length = w.heap.size + 1 := by rw [← hM1, ← hNL]; simp [Mem.newLoop]
 have hlbo : ∀ k, k < st.loops.length → M1.lb k < w.heap.size := fun k hk => by
  rw [n2.lb k (by omega)]
  exact (hr.rel.st.loop.record k _ (List.getElem?_eq_getElem hk)).2.lt
 have hNL1 : M1.NL = st.loops.length + 1 := by rw [n1.loop.NL]; simp [St.push]
 have hmark1 : W1.heap[w.heap.size]? = some (.deferred (some [])) := by
  rw [← hW1]; exact (heap_alloc_lt _ _ (by simp)).trans (World.alloc_heap_new w _)
 have hargs : RowR w0 M1 W1 (#[.func (.yield (w.heap.size + 1)) #[] #[]] ++ cs) (.yld st.loops.length :: caps) := by
  have e1 : RowR w0 M1 W1 #[.func (.yield (w.heap.size + 1)) #[] #[]] [.yld st.loops.length] := by
   refine ⟨rfl, fun i h1 h2 => ?_⟩
   have : i = 0 := by simp at h2; exact h2
   subst this
   have := R.yld (w0 := w0) (M := M1) (w := W1) (k := st.loops.length) (by omega)
   rw [hlbk] at this
   exact this
  have e2 : RowR w0 M1 W1 cs caps := ⟨hrow.1, fun i h1 h2 => (hrow.2 i h1 h2).mono n2⟩
  exact e1.append e2
 refine ⟨w.heap.size + 1, [{ target := .collected w.heap.size, args := #[] }], W1, { target := .fn (.func gf) cs, args := #[.func (.yield (w.heap.size + 1)) #[] #[]] }, W1, gf,
  #[.func (.yield (w.heap.size + 1)) #[] #[]] ++ cs, W1, ?_, ?_, ?_, ?_, fun q => FW_depth none q m, ?_⟩
 ·
  rw [← hW1]; exact run_enterLoop_outer _ _ _ _ _
 ·
  simp only [resolve, hcs]
  simp [go_sem]
 ·
  intro f' _; exact FW_fn none f'
 ·
  simp [invoke, go_sem, hcall.1 _ W1]
 ·
  refine callsIn_FW ((hcall.2 M1 W1 _ n1 hargs).mono ?_)
  rintro en w3 ⟨v, M3, r, s3', rfl, rfl, x3, r3, _⟩
  have hl3 : M3.lb st.loops.length = w.heap.size + 1 := (x3.lb _ (by omega)).trans hlbk
  obtain ⟨rec, g1, g2, g3, _⟩ := (r3.loop.record _ _ hla).2.loop hk
  obtain ⟨z1, z2⟩ := r3.setLoop hla .exhausted la.pend g1
  rw [hl3] at g1 z1 z2
  have hend := run_endLoop (P := P) g1 (by rw [g2]; exact hst)
  have er : ({ rec with state := LoopState.exhausted, pending := la.pend } : Loop) = { rec with state := LoopState.exhausted } := by rw [← g3]
  rw [er] at z1 z2
  have hend := hend.trans (congrArg (fun q => Result.ok q _) g3)
  have hx : Ext w0 M w M3 (w3.putObj (w.heap.size + 1) (.loop { rec with state := .exhausted })) := n2.trans (x3.trans z2)
  have hat : At w0 n M0 W0 e { s3' with loops := s3'.loops.set st.loops.length { la with st := .exhausted, pend := la.pend } } { a with defers := [{ target := .collected w.heap.size, args := #[] }] ++ a.defers } (w3.putObj (w.heap.size + 1) (.loop { rec with state := .exhausted })) M3 := by
   refine ⟨⟨z1, hr.rel.size, fun s x hs => (hr.rel.env s x hs).mono hx⟩, hr.ext.trans hx, ?_⟩
   obtain ⟨Ds, d1, d2, d3⟩ := hr.marks.later hx hr.rel.st
   obtain ⟨Ds', d1', d2', d3'⟩ := hr.marks
   have hDD : Ds' = Ds := by
    rw [d2'] at d2
    have inj : Function.Injective (fun D => ({ target := .collected D, args := #[] } : Deferred)) := fun x y h => by simpa using h
    exact List.map_inj_right (fun x y h => inj h) |>.1 d2
   refine ⟨w.heap.size :: Ds, List.nodup_cons.2 ⟨fun hm => ?_, d1⟩, by simp [d2], fun D hD => ?_⟩
   ·
    have := (d3' _ (hDD ▸ hm)).2
    have := (Array.getElem?_eq_some_iff.1 this).1
    omega
   ·
    rcases List.mem_cons.1 hD with rfl | hD
    ·
     refine ⟨hr.ext.size, ?_⟩
     rw [World.putObj_heap_other (by omega)]
     refine x3.objs _ _ hmark1 rfl fun k hk => ?_
     by_cases c : k = st.loops.length
     ·
      subst c; omega
     ·
      have := hlbo k (by omega)
      omega
    ·
     exact d3 D hD
  obtain ⟨ex, hex⟩ := hex
  have hq := hq ex hex
  generalize la.pend = p at hend hq hex hat
  refine ⟨p, _, hend, ?_⟩
  cases ex with
  | normal => cases hex; exact ⟨M3, e, _, hat, hq⟩
  | ret => cases hex; exact wpIn_ret ⟨M3, e, _, hat, hq⟩
  | exit id => cases hex; exact wpIn_exit ⟨M3, e, _, hat, hq⟩
  | _ => cases hex
end
noncomputable def insOf (t : TypeId) (m : Nat) (o : Oper) : Option (Int × FuncId) :=
 match o.dst, o.guard, o.op with
 | none, none, .insert t' (.tmp m') (.const (.int .i64 k)) (.func f) => if t' = t ∧ m' = m then some (k, f) else none
 | _, _, _ => none
noncomputable def takeIns (t : TypeId) (m : Nat) : List Oper → List (Int × FuncId) × List Oper
 | [] => ([], [])
 | o :: os => match insOf t m o with
  | some x => (x :: (takeIns t m os).1, (takeIns t m os).2)
  | none => ([], o :: os)
noncomputable def litOf (P : Program) (n : Nat) : List Oper → Option (Nat × List (Int × FuncId) × List Oper)
 | [] => none
 | o :: os => match o.op, o.dst, o.guard with
  | .makeMap t none, some m, none => if tabT P t = true ∧ m < n ∧ ((takeIns t m os).1.map (·.1)).Nodup then some (m, takeIns t m os) else none
  | _, _, _ => none
theorem insOf_spec {t : TypeId} {m : Nat} {o : Oper} {x : Int × FuncId} (h : insOf t m o = some x) : o.dst = none ∧ o.guard = none ∧ o.op = .insert t (.tmp m) (.const (.int .i64 x.1)) (.func x.2) := by
 obtain ⟨dst, op, ty, pos, after, guard⟩ := o
 unfold insOf at h
 simp only at h
 split at h
 ·
  split at h
  ·
   rename_i q
   cases h
   obtain ⟨rfl, rfl⟩ := q
   exact ⟨rfl, rfl, rfl⟩
  ·
   cases h
 ·
  cases h
theorem tabF_not {i : Int} : ∀ {l : List (Int × FuncId)}, i ∉ l.map (·.1) → tabF l i = (.val .nilFunc, false)
 | [], _ => rfl
 | (k, f) :: l, h => by
  simp only [List.map_cons, List.mem_cons, not_or] at h
  rw [tabF, if_neg (fun q => h.1 q.symm)]
  exact tabF_not h.2
theorem putObj_alloc (w : World) (o o' : Obj) : (w.alloc o).putObj w.heap.size o' = w.alloc o' := by
 have e : (w.heap.push o).setIfInBounds w.heap.size o' = w.heap.push o' := by
  apply Array.ext
  ·
   simp
  ·
   intro i h1 h2
   rw [Array.getElem_setIfInBounds]
   by_cases c : w.heap.size = i
   ·
    subst c
    simp
   ·
    rw [if_neg c]
    simp only [Array.size_setIfInBounds, Array.size_push] at h1
    rw [Array.getElem_push_lt (by omega), Array.getElem_push_lt (by omega)]
   ·
    simpa using h1
 show ({ w with heap := (w.heap.push o).setIfInBounds w.heap.size o' } : World) = { w with heap := w.heap.push o' }
 rw [e]
section
variable {P : Program} {w0 : World} {n : Nat} {M0 : Mem} {W0 : World} {ro : Option Nat} {e : Env} {st : St}
theorem RelSt.newTab {M : Mem} {w : World} (h : RelSt w0 M st w) (es : Array MapEntry) (ck : Nat) : RelSt w0 M st (w.alloc (.map es ck)) ∧ Ext w0 M w M (w.alloc (.map es ck)) := by
 have hkeep : KeepsObj w (w.alloc (.map es ck)) := KeepsObj.alloc _ _
 have hcell : ∀ (b off : Nat) (v : Value), w.cell? ⟨b, off, none⟩ = some v → (w.alloc (.map es ck)).cell? ⟨b, off, none⟩ = some v := by
  intro b off v hv
  rw [World.cell?_alloc_lt _ _ _ (World.block_lt_of_cell? w _ hv)]
  exact hv
 have hx : Ext w0 M w M (w.alloc (.map es ck)) :=
  ⟨Nat.le_refl _, fun _ _ => rfl, Nat.le_refl _, fun _ _ => ⟨Nat.le_refl _, fun _ => ⟨rfl, rfl, rfl⟩⟩, fun b off v h1 h2 => ⟨hcell b off v h2, h1⟩, by simp, Nat.le_refl _, fun _ _ => rfl, fun k h1 h2 => absurd h2 (Nat.not_lt.2 h1), fun b o h1 h2 _ => hkeep b o h1 h2, fun b q1 q => ⟨heap_alloc_lt _ _ q1, q, rfl⟩⟩
 have hh : ∀ {b : Nat}, b < w.heap.size → (w.alloc (.map es ck)).heap[b]? = w.heap[b]? := fun {b} hb => heap_alloc_lt _ _ hb
 refine ⟨⟨h.below.alloc h.base_le _, h.N, h.NR, fun b hb => h.top b (by simp at hb; omega), h.inj, fun l cs hl => ?_, fun id x hm => (h.row id x hm).keep hx rfl rfl rfl rfl rfl (h.row id x hm).ne (hh (h.row id x hm).lt), h.rowinj, h.loop.mono hx rfl hkeep⟩, hx⟩
 obtain ⟨a1, a2, c, ty, a3, a4, a5, a6⟩ := h.box l cs hl
 exact ⟨a1, a2, c, ty, by rw [hh (Array.getElem?_eq_some_iff.1 a3).1]; exact a3, a4, a5, fun i b1 b2 => (a6 i b1 b2).mono hx⟩
theorem ins_sound {t : TypeId} {mt : Nat} (hT : tabT P t = true) (m : Nat) (all : Array Oper) (Q : Exit → Act → World → Prop) (a : Act) (w : World) (hm : a.eval (.tmp mt) = .map (some w.heap.size)) :
  ∀ (os : List Oper) (l : List (Int × FuncId)) (es : Array MapEntry) (ck : Nat), es.toList.map (fun e => (e.key, e.val)) = l.map (fun x => (Value.int .i64 x.1, Value.func (.func x.2) #[] #[])) → (l.map (·.1) ++ (takeIns t mt os).1.map (·.1)).Nodup →
  (∀ es' ck', es'.toList.map (fun e => (e.key, e.val)) = (l ++ (takeIns t mt os).1).map (fun x => (Value.int .i64 x.1, Value.func (.func x.2) #[] #[])) → wpListIn (FW ro) m P all Q (takeIns t mt os).2 a (w.alloc (.map es' ck'))) →
  wpListIn (FW ro) m P all Q os a (w.alloc (.map es ck))
 | [], l, es, ck, h1, h2, h3 => h3 es ck (by simpa [takeIns] using h1)
 | o :: os, l, es, ck, h1, h2, h3 => by
  cases hi : insOf t mt o with
  | none =>
   have e0 : takeIns t mt (o :: os) = ([], o :: os) := by simp only [takeIns, hi]
   rw [e0] at h3
   exact h3 es ck (by simpa using h1)
  | some x =>
   obtain ⟨k, f⟩ := x
   have e0 : takeIns t mt (o :: os) = ((k, f) :: (takeIns t mt os).1, (takeIns t mt os).2) := by simp only [takeIns, hi]
   rw [e0] at h2 h3
   obtain ⟨s1, s2, s3⟩ := insOf_spec hi
   obtain ⟨kt, et, iz, u1, u2, u3, u4⟩ := tabT_spec hT
   unfold wpListIn
   have hw : Region.wanted o (yielded all a.tmps) = true := by simp [Region.wanted, s2]
   rw [hw, if_pos rfl]
   refine ⟨fun f _ => FW_fn ro f, ?_⟩
   have hs : Oper.semAt (FW ro).round a.eval o = execOp a.eval o := by
    cases ro with
    | none => rfl
    | some l => exact Oper.semAt_some l a.eval o (fun c hh => by rw [s3] at hh; cases hh)
   have hK : MapKept.IsKey (.int .i64) (.int .i64 k) := rfl
   have hnk : k ∉ l.map (·.1) := fun hm => (List.nodup_append.1 h2).2.2 k hm k (by simp) rfl
   have hfind : Instr.findNow (.int .i64) (.int .i64 k) es.toList 0 = some none := by
    rcases find_tab k es.toList l 0 h1 with ⟨q, _⟩ | ⟨j, g, _, q⟩
    ·
     exact q
    ·
     rw [tabF_not hnk] at q; cases q
   have g1 : (w.alloc (.map es ck)).heap[w.heap.size]? = some (.map es ck) := World.alloc_heap_new w _
   have hrun : (execOp a.eval o).run P (w.alloc (.map es ck)) = .ok .skip (w.alloc (.map (es.push { key := .int .i64 k, val := .func (.func f) #[] #[], born := ck }) (ck + 1))) := by
    have ef : a.eval (.func f) = .func (.func f) #[] #[] := rfl
    have ec : a.eval (.const (.int .i64 k)) = .int .i64 k := rfl
    have hset := MapKept.run_setObj_map (P := P) (.map (es.push { key := .int .i64 k, val := .func (.func f) #[] #[], born := ck }) (ck + 1)) g1
    have hpo := putObj_alloc w (.map es ck) (.map (es.push { key := .int .i64 k, val := .func (.func f) #[] #[], born := ck }) (ck + 1))
    unfold World.putObj at hpo
    rw [hpo] at hset
    simp [execOp, s3, hm, ef, ec, Instr.mapUpdate, run_underlying u1, MapKept.run_getObj_map g1, MapKept.run_checkKey u2 hK, MapKept.run_findKey u2 hfind, hset, Result.andThen]
   rw [hs, hrun]
   have ep : a.put o.dst undef = a := by rw [s1]; rfl
   show wpListIn (FW ro) m P all Q os (a.put o.dst undef) _
   rw [ep]
   refine ins_sound hT m all Q a w hm os (l ++ [(k, f)]) _ _ (by simp [h1]) (by simpa using h2) (fun es' ck' q => h3 es' ck' (by simpa using q))
theorem awp_region0 {Q : AQ} (c : Nat) {id : Nat} {l : List Oper} (h : evK P w0 n false l (fun e' st' => Q .normal e' st') c l e st) : awp P w0 n M0 W0 ro (.region id l.toArray false) Q e st := by
 intro m M a w hr
 refine wpIn_region_lit (evK_sound ro m false l _ _ c l e st a w M hr.rel h fun e' st' a' w' M' k1 k2 k3 k4 => ⟨M', _, _, ⟨k2, hr.ext.trans k3, ?_⟩, k1⟩)
 rw [k4]
 exact hr.marks.later k3 hr.rel.st
theorem awp_lit {Q : AQ} {id : Nat} {l rest : List Oper} {mt : Nat} {xs : List (Int × FuncId)} (hl : litOf P n l = some (mt, xs, rest)) (c : Nat)
  (h : evK P w0 n false l (fun e' st' => Q .normal e' st') c rest (putE e (some mt) true (.tab xs)) st) : awp P w0 n M0 W0 ro (.region id l.toArray false) Q e st := by
 cases l with
 | nil => cases hl
 | cons o os =>
  simp only [litOf] at hl
  split at hl
  rotate_left
  ·
   cases hl
  rename_i t mt' q1 q2 q3
  split at hl
  rotate_left
  ·
   cases hl
  rename_i q4
  obtain ⟨hT, hmn, hnd⟩ := q4
  have e1 := Option.some.inj hl
  have e2 : mt' = mt := congrArg Prod.fst e1
  have e3 : takeIns t mt' os = (xs, rest) := congrArg Prod.snd e1
  subst e2
  intro m M a w hr
  refine wpIn_region_lit ?_
  unfold wpListIn
  have hw : Region.wanted o (yielded (o :: os).toArray a.tmps) = true := by simp [Region.wanted, q3]
  rw [hw, if_pos rfl]
  refine ⟨fun f _ => FW_fn ro f, ?_⟩
  have hs : Oper.semAt (FW ro).round a.eval o = execOp a.eval o := by
   cases ro with
   | none => rfl
   | some l => exact Oper.semAt_some l a.eval o (fun c hh => by rw [q1] at hh; cases hh)
  have hrun : (execOp a.eval o).run P w = .ok (.value (.map (some w.heap.size))) (w.alloc (.map #[] 0)) := by
   simp [execOp, q1, Instr.makeMap]
  rw [hs, hrun]
  show wpListIn (FW ro) m P (o :: os).toArray _ os (a.put o.dst (.map (some w.heap.size))) (w.alloc (.map #[] 0))
  rw [q2]
  have hm : (a.put (some mt') (.map (some w.heap.size))).eval (.tmp mt') = .map (some w.heap.size) := by
   have := getD_put a (some mt') (.map (some w.heap.size)) mt' (by rw [hr.rel.size]; exact hmn)
   rw [if_pos rfl] at this
   exact this
  refine ins_sound hT m _ _ _ w hm os [] #[] 0 rfl (by simpa using hnd) (fun es' ck' q => ?_)
  rw [e3] at q ⊢
  obtain ⟨z1, z2⟩ := hr.rel.st.newTab es' ck'
  have hR : R w0 M (w.alloc (.map es' ck')) (.map (some w.heap.size)) (.tab xs) := .tab (World.alloc_heap_new w _) (by simpa using q) (fun k hk => by
   have hk' : k < st.loops.length := by rw [← hr.rel.st.loop.NL]; exact hk
   have := (hr.rel.st.loop.record k _ (List.getElem?_eq_getElem hk')).2.lt
   omega)
  have hrel := hr.rel.put z2 z1 (dst := some mt') hmn (c := true) (v := .map (some w.heap.size)) (r := .tab xs) hR
  refine evK_sound ro m false _ _ _ c rest _ st _ _ M hrel h fun e' st' a' w' M' k1 k2 k3 k4 => ⟨M', _, _, ⟨k2, hr.ext.trans (z2.trans k3), ?_⟩, k1⟩
  rw [k4, defers_put]
  exact hr.marks.later (z2.trans k3) hr.rel.st
end
section
variable {o : VO} {n : Nat}
def VO.under : VO → Nat → Prop
 | .nil, _ => True
 | .row id _, k => id < k
@[go_sem] theorem under_vo_nil (k : Nat) : VO.nil.under k = True := rfl
@[go_sem] theorem under_vo_row (id ver k : Nat) : (VO.row id ver).under k = (id < k) := rfl
end
section
variable {Rw rows : List RowA} {l : List (Nat × Nat × Own)} {ho : Own} {v : List VE} {o : VO} {sz : Nat} {cs : List AV}
theorem OwnsAt.up {lo : Nat} {x : Nat × Nat × Own} (h : OwnsAt lo ho rows x) (r : List RowA) : OwnsAt lo ho (rows ++ r) x := by
 rcases h with h | ⟨id, h1, h2, h3⟩
 ·
  exact .inl h
 ·
  exact .inr ⟨id, h1, h2, by rw [List.getElem?_append_left (List.getElem?_eq_some_iff.1 h3).1]; exact h3⟩
theorem OwnsAt.set {lo : Nat} {x : Nat × Nat × Own} (h : OwnsAt lo ho rows x) {i : Nat} {a s : Nat} {c : List AV} (hi : rows[i]? = some (.vec a s c)) (r : RowA) : OwnsAt lo ho (rows.set i r) x := by
 rcases h with h | ⟨id, h1, h2, h3⟩
 ·
  exact .inl h
 ·
  refine .inr ⟨id, h1, h2, ?_⟩
  rw [List.getElem?_set_ne (fun e => by rw [e, h3] at hi; cases hi)]
  exact h3
theorem VAt.lt {lo : Nat} {x : VE} (h : VAt lo ho rows x) : x.1.under rows.length := by
 rcases h with h | ⟨id, ver, h1, h2, h3⟩
 ·
  rw [h.1]; trivial
 ·
  rw [h1]; exact (List.getElem?_eq_some_iff.1 h3).1
theorem Owns.eqV {v' : List VE} (h : Owns Rw rows l ho v) (he : v = v') : Owns Rw rows l ho v' := he ▸ h
end
abbrev VP (Rw : List RowA) (o : VO) (sz : Nat) (cs : List AV) : Prop := VAt 0 .none Rw (o, sz, cs)
theorem VP.up {Rw rows : List RowA} {o : VO} {sz : Nat} {cs : List AV} {l : List (Nat × Nat × Own)} {v : List VE} (h : VP Rw o sz cs) (ho : Owns Rw rows l .none v) : VP rows o sz cs := by
 rcases h with q | ⟨id, ver, q1, q2, q3⟩
 ·
  exact .inl q
 ·
  refine .inr ⟨id, ver, q1, q2, ?_⟩
  rw [ho.keep id (List.getElem?_eq_some_iff.1 q3).1 (fun e => by cases e)]
  exact q3
theorem VP.row {rows : List RowA} {o : VO} {sz : Nat} {cs : List AV} (h : VP rows o sz cs) (hne : 0 < cs.length) : ∃ id ver, o = .row id ver ∧ id < rows.length ∧ vecR rows id ver = some (sz, cs) := by
 rcases h with q | ⟨id, ver, q1, q2, q3⟩
 ·
  have q2 : cs = [] := q.2
  rw [q2] at hne; simp at hne
 ·
  refine ⟨id, ver, q1, (List.getElem?_eq_some_iff.1 q3).1, ?_⟩
  simp only [vecR, q3, if_true]
theorem VP.under {rows : List RowA} {o : VO} {sz : Nat} {cs : List AV} (h : VP rows o sz cs) : o.under rows.length := VAt.lt h
def hOf : VO → Own
 | .nil => .none
 | .row id _ => .row id
theorem hOf_row {o : VO} {i : Nat} (h : hOf o = .row i) : ∃ ver, o = .row i ver := by
 cases o with
 | nil => cases h
 | row id ver => cases h; exact ⟨ver, rfl⟩
section
variable {Rw rows rows' : List RowA} {l : List (Nat × Nat × Own)} {ho : Own} {v : List VE} {o o' : VO} {sz : Nat} {cs cs' : List AV}
theorem Owns.callG (h : Owns Rw rows l ho ((o, sz, cs) :: v)) (hc : Owns rows rows' [] (hOf o) [(o', sz, cs')]) : Owns Rw rows' l ho ((o', sz, cs') :: v) := by
 have hx := h.veach _ (List.mem_cons_self ..)
 have ho' := hc.veach _ (List.mem_cons_self ..)
 obtain ⟨p1, p2⟩ := List.pairwise_cons.1 h.vapart
 have l1 := h.len
 have l2 := hc.len
 have own : ∀ i, hOf o = .row i → (Rw.length ≤ i ∨ ho = .row i) ∧ ∃ ver, o = .row i ver ∧ rows[i]? = some (.vec ver sz cs) := fun i e => by
  obtain ⟨ver, e⟩ := hOf_row e
  rcases hx with q | ⟨id, ver', q1, q2, q3⟩
  ·
   simp only at q; rw [e] at q; cases q.1
  ·
   simp only at q1; rw [e] at q1; cases q1
   exact ⟨q2, ver, e, q3⟩
 have keep : ∀ i, i < rows.length → hOf o ≠ .row i → rows'[i]? = rows[i]? := fun i hi hn => hc.keep i hi hn
 have new : ∀ i b, o' = .row i b → rows.length ≤ i ∨ hOf o = .row i := fun i b e => by
  rcases ho' with q | ⟨id, ver, q1, q2, q3⟩
  ·
   simp only at q; rw [e] at q; cases q.1
  ·
   simp only at q1; rw [e] at q1; cases q1; exact q2
 refine ⟨by omega, fun i hi hn => ?_, fun i r hr q qv => ?_, fun x hxm => ?_, h.apart, fun x hxm => ?_, List.pairwise_cons.2 ⟨fun y hy id a b e k => ?_, p2⟩⟩
 ·
  have : hOf o ≠ .row i := fun e => by
   rcases (own i e).1 with q | q
   ·
    omega
   ·
    exact hn q
  rw [keep i (by omega) this]; exact h.keep i hi hn
 ·
  by_cases e : rows.length ≤ i ∨ hOf o = .row i
  ·
   exact hc.calm i r hr e fun x hx => by rw [List.mem_singleton.1 hx]; exact qv _ (List.mem_cons_self ..)
  ·
   rw [keep i (by omega) (fun k => e (.inr k))] at hr
   refine h.calm i r hr q fun x hx => ?_
   rcases List.mem_cons.1 hx with rfl | hx
   ·
    intro ver k
    simp only at k
    exact e (.inr (by rw [k]; rfl))
   ·
    exact qv x (List.mem_cons_of_mem _ hx)
 ·
  rcases h.each x hxm with q | ⟨id, q1, q2, q3⟩
  ·
   exact .inl q
  ·
   refine .inr ⟨id, q1, q2, ?_⟩
   rw [keep id (List.getElem?_eq_some_iff.1 q3).1 fun e => by
    obtain ⟨_, ver, _, w⟩ := own id e
    rw [w] at q3; cases q3]
   exact q3
 ·
  rcases List.mem_cons.1 hxm with rfl | hxm
  ·
   rcases ho' with q | ⟨id, ver, q1, q2, q3⟩
   ·
    exact .inl q
   ·
    refine .inr ⟨id, ver, q1, ?_, q3⟩
    rcases q2 with q2 | q2
    ·
     exact .inl (by omega)
    ·
     exact (own id q2).1
  ·
   rcases h.veach x (List.mem_cons_of_mem _ hxm) with q | ⟨id, ver, q1, q2, q3⟩
   ·
    exact .inl q
   ·
    refine .inr ⟨id, ver, q1, q2, ?_⟩
    rw [keep id (List.getElem?_eq_some_iff.1 q3).1 fun e => by
     obtain ⟨_, ver', w, _⟩ := own id e
     exact p1 x hxm id ver' ver w q1]
    exact q3
 ·
  rcases new id a e with q | q
  ·
   have := (h.veach y (List.mem_cons_of_mem _ hy)).lt
   rw [k] at this
   exact absurd this (by simp only [VO.under]; omega)
  ·
   obtain ⟨ver, w⟩ := hOf_row q
   exact p1 y hy id ver b w k
end
end Go.Ev
namespace Go.Ev
open Go Go.RowKit Go.Shelf Go.Lib Go.Proofs
theorem setCells_row (P : Program) {w : World} {b : Nat} {cur : Array Value} {te : TypeId} (h : w.heap[b]? = some (.cells cur te (0, 0))) (o : Nat) (vs : List Value) (hl : o + vs.length ≤ cur.size) (h1 : ∀ v ∈ vs, v.oneCell' = true) :
  w.setCells b o vs = w.setRow b (cur.toList.take o ++ vs ++ cur.toList.drop (o + vs.length)).toArray := by
 have e1 := run_storeCells_at P b o te vs 0 cur w h (by simpa using hl) h1
 have e2 := run_storeCells_cells (P := P) b o vs 0 w (fun j hj => by rw [cell_of_row w b _ cur te _ h, Array.getElem?_eq_getElem (by omega)]; rfl) (fun j hj => by simp [World.frozen?, h]) h1
 simp only [Nat.add_zero] at e1 e2
 rw [e1] at e2
 injection e2 with _ q
 exact q.symm
def maskP : List Bool → List AV → List AV
 | b :: m, a :: l => (if b = true then a.pubA else a) :: maskP m l
 | [], l => l.map AV.pubA
 | _ :: _, [] => []
@[go_sem] theorem maskP_t (m : List Bool) (a : AV) (l : List AV) : maskP (true :: m) (a :: l) = a.pubA :: maskP m l := rfl
@[go_sem] theorem maskP_f (m : List Bool) (a : AV) (l : List AV) : maskP (false :: m) (a :: l) = a :: maskP m l := rfl
@[go_sem] theorem maskP_n (l : List AV) : maskP [] l = l.map AV.pubA := rfl
@[go_sem] theorem maskP_e (m : List Bool) : maskP m [] = [] := by cases m <;> rfl
def maskC : List Bool → List AV → List AV
 | b :: m, a :: l => (if b = true then a.pubCell else a) :: maskC m l
 | [], l => l.map AV.pubCell
 | _ :: _, [] => []
@[go_sem] theorem maskC_t (m : List Bool) (a : AV) (l : List AV) : maskC (true :: m) (a :: l) = a.pubCell :: maskC m l := rfl
@[go_sem] theorem maskC_f (m : List Bool) (a : AV) (l : List AV) : maskC (false :: m) (a :: l) = a :: maskC m l := rfl
@[go_sem] theorem maskC_n (l : List AV) : maskC [] l = l.map AV.pubCell := rfl
@[go_sem] theorem maskC_e (m : List Bool) : maskC m [] = [] := by cases m <;> rfl
def pubS (m : List Bool) : AV → AV
 | .agg cs => .agg (maskC m cs)
 | x => x
@[go_sem] theorem pubS_agg (m : List Bool) (cs : List AV) : pubS m (.agg cs) = .agg (maskC m cs) := rfl
theorem maskC_spec : ∀ (m : List Bool) (l : List AV), (maskC m l).length = l.length ∧ ∀ (i : Nat) (h1 : i < (maskC m l).length) (h2 : i < l.length), (maskC m l)[i] = l[i] ∨ (maskC m l)[i] = l[i].pubCell
 | [], l => ⟨by simp [maskC], fun i h1 h2 => .inr (by simp [maskC])⟩
 | b :: m, [] => ⟨rfl, fun i h1 h2 => absurd h2 (by simp)⟩
 | b :: m, a :: l => by
  obtain ⟨h1, h2⟩ := maskC_spec m l
  refine ⟨by simp [maskC, h1], fun i k1 k2 => ?_⟩
  cases i with
  | zero => cases b with
   | true => exact .inr rfl
   | false => exact .inl rfl
  | succ i => exact h2 i (by simpa [maskC] using k1) (by simpa using k2)
theorem R.pubS {w0 : World} {M : Mem} {w : World} (m : List Bool) {v : Value} {x : AV} (h : R w0 M w v x) : R w0 M w v (pubS m x) := by
 cases h with
 | @agg us xs hl h1 h =>
  obtain ⟨k1, k2⟩ := maskC_spec m xs
  refine .agg (by rw [k1]; exact hl) (fun x hx => ?_) (fun i a b => ?_)
  ·
   obtain ⟨i, hi, rfl⟩ := List.mem_iff_getElem.1 hx
   have hi' : i < xs.length := by rw [← k1]; exact hi
   rcases k2 i hi hi' with q | q
   ·
    rw [q]; exact h1 _ (List.getElem_mem _)
   ·
    rw [q, AV.one_pubCell]; exact h1 _ (List.getElem_mem _)
  ·
   have hi' : i < xs.length := by rw [← k1]; exact b
   rcases k2 i b hi' with q | q
   ·
    rw [q]; exact h i a hi'
   ·
    rw [q]; exact (h i a hi').pubCell
 | nil ho => exact .nil ho
 | emp ho => exact .emp ho
 | list sz us hc hm hcell hu ho => exact .list sz us hc hm hcell hu ho
 | flat hf => exact .flat hf
 | tup hl h => exact .tup hl h
 | elem u k hcell hu => exact .elem u k hcell hu
 | box hl => exact .box hl
 | clo hl h => exact .clo hl h
 | yld hk => exact .yld hk
 | mp hk => exact .mp hk
 | tab h hk hn => exact .tab h hk hn
 | vec hi hv h => exact .vec hi hv h
 | vel hi hv h => exact .vel hi hv h
def resU (P : Program) (e : Env) (st : St) : ResultVar → AV
 | .tmp t => argV e (.tmp t)
 | .cell t ty => (evOp P e true st (.load ty (.tmp t))).2.1
def bodyU (mk : List Bool) (P : Program) (rs : List ResultVar) (Post : AV → St → Prop) : AQ := fun x e st =>
 match x with
 | .normal | .ret => (∀ r ∈ rs, resOk P e st r) ∧ Post (pubS mk (retV (rs.map (resU P e st)))) st
 | _ => False
attribute [go_sem] resU bodyU
section
variable {P : Program} {w0 : World} {n : Nat} {M : Mem} {e : Env} {st : St} {a : Act} {w : World}
theorem res_soundU (mk : List Bool) (h : Rel w0 n M e st a w) {fn : Func} {rs : List ResultVar} (hfn : fn.results = rs.toArray) (hrs : ∀ r ∈ rs, resOk P e st r) :
  ∃ v, (results fn a.tmps).run P w = .ok v w ∧ R w0 M w v (pubS mk (retV (rs.map (resU P e st)))) := by
 let f : ResultVar → Sem Value := fun
  | .tmp t => pure (a.tmps.getD t undef)
  | .cell b t => do loadVar t (← asAddr (a.tmps.getD b undef))
 have hone : ∀ r ∈ rs, ∃ v, (f r).run P w = .ok v w ∧ R w0 M w v (resU P e st r) := by
  intro r hr
  have := hrs r hr
  cases r with
  | tmp t => exact ⟨_, rfl, arg_R h (x := .tmp t) this⟩
  | cell b t =>
   obtain ⟨v, h1, h2⟩ := load_sound h t (.tmp b) this
   exact ⟨v, h1, h2⟩
 classical
 let g : ResultVar → Value := fun r => if hr : r ∈ rs then Classical.choose (hone r hr) else undef
 have hg : ∀ r ∈ rs, (f r).run P w = .ok (g r) w ∧ R w0 M w (g r) (resU P e st r) := by
  intro r hr
  have := Classical.choose_spec (hone r hr)
  have e : g r = Classical.choose (hone r hr) := by simp only [g, dif_pos hr]
  rw [e]; exact this
 have hm : (fn.results.mapM f).run P w = .ok ((rs.map g).toArray) w := by
  rw [hfn, Array.mapM_eq_mapM_toList]
  simp only [Sem.run_map, run_mapM_at f g rs (fun r hr => (hg r hr).1), Result.andThen_ok]
 have hrun : (results fn a.tmps).run P w = .ok (if h : (rs.map g).toArray.size = 1 then (rs.map g).toArray[0] else .tuple (rs.map g).toArray) w := by
  unfold results
  simp only [Sem.run_bind]
  refine Eq.trans (congrArg (fun x => Result.andThen x _) hm) ?_
  simp only [Result.andThen_ok, Sem.run_pure]
 refine ⟨_, hrun, ?_⟩
 exact R.pubS mk (retV_sound rs g fun r hr => (hg r hr).2)
theorem acalls_ofU (mk : List Bool) {f : FuncId} {fn : Func} {c : Code} {args : List AV} {rs : List ResultVar} {Post : AV → St → Prop} (hf : P.funcs[f]? = some fn) (hb : fn.body = some c) (hrs : fn.results = rs.toArray) (hn : fn.ntmps = n)
  (hen : Enters P f) (ha : args.length ≤ n)
  (h : ∀ (M0 : Mem) (W0 : World), M0.N = st.boxes.length → M0.NR = st.rows.length → M0.NL = st.loops.length → Calm st.boxes.length st.rows.length st.loops.length st → (∀ x ∈ args, Under st.boxes.length st.rows.length st.loops.length x) →
   awp P w0 n M0 W0 none c (bodyU mk P rs Post) (argsE 0 args) st) : ACalls P w0 f args st Post := by
 refine ⟨hen, fun M w vals hst hrow => ?_⟩
 have hsz : vals.size = args.length := hrow.1
 have hu : ∀ x ∈ args, Under st.boxes.length st.rows.length st.loops.length x := by
  intro x hx
  obtain ⟨i, hi, rfl⟩ := List.mem_iff_getElem.1 hx
  have := (hrow.get (i := i) (Array.getElem?_eq_getElem (by omega)) (List.getElem?_eq_getElem hi)).under
  rwa [hst.N, hst.NR, hst.loop.NL] at this
 have hrel : Rel w0 n M (argsE 0 args) st { tmps := vals ++ Array.replicate (fn.ntmps - vals.size) undef, defers := [] } w := by
  refine ⟨hst, by simp; omega, fun s x hs => ?_⟩
  obtain ⟨i, h1, y, h2, rfl⟩ := look_argsE _ _ _ _ hs
  have hi : i < args.length := (List.getElem?_eq_some_iff.1 h2).1
  have hs' : s = i := by omega
  subst hs'
  simp only [entryOk, if_true]
  have e1 : (vals ++ Array.replicate (fn.ntmps - vals.size) undef).getD s undef = vals[s]'(by omega) := by
   simp [Array.getD_eq_getD_getElem?, Array.getElem?_append_left (show s < vals.size by omega), Array.getElem?_eq_getElem (show s < vals.size by omega)]
  rw [e1]
  exact hrow.get (Array.getElem?_eq_getElem (by omega)) h2
 refine calls_of_FW (n := 0) (callsIn_of_wp_marks hf hb trivial (wpIn_mono (h M w hst.N hst.NR hst.loop.NL hst.calm hu 0 M _ w ⟨hrel, .refl _ _ _, [], by simp⟩) ?_))
 rintro ex a' w' ⟨M', e', s', h1, h3⟩
 have done : ∀ (hr : ∀ r ∈ rs, resOk P e' s' r) (hp : Post (pubS mk (retV (rs.map (resU P e' s')))) s'),
   LeavesInM (FW none) 0 P fn a'.tmps (Comes' w0 M w Post) a'.defers .returning w' := by
  intro hr hp
  obtain ⟨Ds, m1, m2, m3⟩ := h1.marks
  rw [m2]
  refine leaves_marks Ds M' w' m1 m3 hst.base_le h1.rel.st h1.ext fun w2 k1 k2 k3 => ?_
  have hrel2 : Rel w0 n M' e' s' a' w2 := ⟨k1, h1.rel.size, fun s x hs => by
   have := h1.rel.env s x hs
   unfold entryOk at *
   split
   ·
    rename_i c; rw [if_pos c] at this; exact k3 _ _ this
   ·
    rename_i c; rw [if_neg c] at this; exact this⟩
  obtain ⟨v, q1, q2⟩ := res_soundU mk hrel2 hrs hr
  exact ⟨v, q1, v, M', _, s', rfl, hp, k2, k1, q2⟩
 cases ex with
 | normal => exact done h3.1 h3.2
 | ret => exact done h3.1 h3.2
 | _ => exact h3.elim
end
end Go.Ev
namespace Go.Ev
open Go Go.RowKit
section
variable {P : Program} {w0 : World} {n : Nat}
noncomputable def Fresh (P : Program) (w0 : World) (M : Mem) (w : World) (b : Nat) (t : TypeId) : Prop :=
 ∃ iz v, P.info? t = some iz ∧ iz.zero = some v ∧ w.heap[b]? = some (.cells v.cells t (0, 0)) ∧ M.foreign b ∧ M.top b = 0 ∧ w0.heap.size ≤ b
theorem Fresh.mono {M M' : Mem} {w w' : World} {b : Nat} {t : TypeId} (h : Fresh P w0 M w b t) (hx : Ext w0 M w M' w') : Fresh P w0 M' w' b t := by
 obtain ⟨iz, v, h1, h2, h3, h4, h5, h6⟩ := h
 obtain ⟨a1, a2, a3⟩ := hx.keep b (Array.getElem?_eq_some_iff.1 h3).1 h4
 exact ⟨iz, v, h1, h2, a1.trans h3, a2, a3.trans h5, h6⟩
theorem Fresh.lt {M : Mem} {w : World} {b : Nat} {t : TypeId} (h : Fresh P w0 M w b t) : b < w.heap.size := by
 obtain ⟨iz, v, h1, h2, h3, h4, h5, h6⟩ := h
 exact (Array.getElem?_eq_some_iff.1 h3).1
theorem RelSt.foreign_new {M : Mem} {w : World} {st : St} (h : RelSt w0 M st w) {b : Nat} (hb : w.heap.size ≤ b) : M.foreign b :=
 ⟨fun l hl => by have := h.box_lt hl; omega, fun i hi => by have := h.row_lt hi; omega, fun k hk => by
  have hk' : k < st.loops.length := by rw [← h.loop.NL]; exact hk
  have := (h.loop.record k _ (List.getElem?_eq_getElem hk')).2.lt
  omega⟩
theorem adopt {M M1 : Mem} {w w1 : World} {e : Env} {st : St} {a : Act} {b s : Nat} {t : TypeId} {z : List AV} (h : Rel w0 n M e st a w) (hx : Ext w0 M1 w1 M w) (F : Fresh P w0 M w b t) (hb : w1.heap.size ≤ b) (hz : zeroT P t = some z) (hs : s < n) (ht : a.tmps.getD s undef = .pointer (some ⟨b, 0, none⟩)) :
  Rel w0 n (M.newBox b) (putE e (some s) true (.box st.boxes.length 0)) { st with boxes := st.boxes ++ [z] } a w ∧ Ext w0 M1 w1 (M.newBox b) w ∧ ∀ b' t', b' ≠ b → Fresh P w0 M w b' t' → Fresh P w0 (M.newBox b) w b' t' := by
 obtain ⟨iz, v, f1, f2, f3, f4, f5, f6⟩ := F
 obtain ⟨i', v', hi, hv, hc, hsz, rfl⟩ := zeroT_spec hz
 rw [f1] at hi
 cases hi
 rw [f2] at hv
 cases hv
 have hlt := (Array.getElem?_eq_some_iff.1 f3).1
 have hbx : ∀ l, l < M.N → (M.newBox b).bx l = M.bx l := fun l hl => by simp [Mem.newBox]; omega
 have hnew : (M.newBox b).bx M.N = b := by simp [Mem.newBox]
 have hN : (M.newBox b).N = M.N + 1 := rfl
 have ag : ∀ {v : Value} {x : AV}, R w0 M w v x → R w0 (M.newBox b) w v x := fun hR => R.agree (nb := M.N) (nr := M.NR) (nl := M.NL) hbx (by rw [hN]; omega) rfl rfl rfl rfl rfl rfl rfl rfl hR hR.under
 have age : ∀ {v : Value} {x : Bool × AV}, entryOk w0 M w v x → entryOk w0 (M.newBox b) w v x := fun {v x} hE => by
  unfold entryOk at hE ⊢
  split
  ·
   rename_i c; rw [if_pos c] at hE; exact ag hE
  ·
   rename_i c; rw [if_neg c] at hE; exact hE
 have hR0 : R w0 (M.newBox b) w v (ofVal v) := R_ofVal hc
 have hfo : ∀ c, c ≠ b → M.foreign c → (M.newBox b).foreign c := fun c hc q => ⟨fun l hl => by
  by_cases e1 : l = M.N
  ·
   subst e1; rw [hnew]; exact fun q => hc q.symm
  ·
   rw [hbx l (by omega)]; exact q.1 l (by omega), q.2⟩
 refine ⟨⟨⟨h.st.below, by simp [hN, h.st.N], h.st.NR, h.st.top, fun l l' hl hl' q => ?_, fun l c hl => ?_, fun id x hid => ?_, h.st.rowinj, ⟨h.st.loop.NL, h.st.loop.inj, fun k la hk => ?_⟩⟩, h.size, fun s' x hs' => ?_⟩,
  ⟨by rw [hN]; have := hx.N; omega, fun l hl => (hbx l (Nat.lt_of_lt_of_le hl hx.N)).trans (hx.bx l hl), hx.NR, hx.rows, hx.cell, hx.size, hx.NL, hx.lb, hx.lnew, hx.objs, fun c q1 q2 => ?_⟩, fun b' t' hne F' => ?_⟩
 ·
  rw [hN] at hl hl'
  by_cases e1 : l = M.N
  ·
   by_cases e2 : l' = M.N
   ·
    omega
   ·
    subst e1
    rw [hnew, hbx l' (by omega)] at q
    exact absurd q.symm (f4.1 l' (by omega))
  ·
   by_cases e2 : l' = M.N
   ·
    subst e2
    rw [hnew, hbx l (by omega)] at q
    exact absurd q (f4.1 l (by omega))
   ·
    rw [hbx l (by omega), hbx l' (by omega)] at q
    exact h.st.inj l l' (by omega) (by omega) q
 ·
  by_cases e1 : l = M.N
  ·
   subst e1
   simp only [h.st.N, List.getElem?_concat_length, Option.some.injEq] at hl
   subst hl
   rw [hnew]
   obtain ⟨k1, k2⟩ := hR0.cells
   exact ⟨f6, f5, v.cells, t, f3, k1, hR0.cellsOne (fun vs q => by have := notTup_ofVal hc; rw [q] at this; cases this), k2⟩
  ·
   have hl' : l < M.N := by
    have := (List.getElem?_eq_some_iff.1 hl).1
    have := h.st.N
    simp at *
    omega
   rw [List.getElem?_append_left (by rw [← h.st.N]; exact hl')] at hl
   obtain ⟨a1, a2, c', ty', a3, a4, a5, a6⟩ := h.st.box l c hl
   rw [hbx l hl']
   exact ⟨a1, a2, c', ty', a3, a4, a5, fun i h1 h2 => ag (a6 i h1 h2)⟩
 ·
  have hk := h.st.row id x hid
  have hidN : id < M.NR := by rw [h.st.NR]; exact (List.getElem?_eq_some_iff.1 hid).1
  have hne : ∀ l, l < (M.newBox b).N → (M.newBox b).bx l ≠ M.blk id := fun l hl => by
   by_cases e1 : l = M.N
   ·
    subst e1; rw [hnew]; exact fun q => f4.2.1 id hidN q.symm
   ·
    rw [hbx l (by omega)]; exact hk.ne l (by omega)
  cases x with
  | grow n sz => obtain ⟨a1, a2, a3, a4, a5, a6⟩ := hk; exact ⟨a1, a2, a3, a4, hne, a6⟩
  | vec v sz cs =>
   obtain ⟨a1, a2, a3, a4, a5, a6, a7, c, ty, a8, a9, b1, b2, b3⟩ := hk
   exact ⟨a1, a2, a3, a4, hne, a6, a7, c, ty, a8, a9, b1, b2, fun i h1 h2 => ag (b3 i h1 h2)⟩
  | dead v => obtain ⟨a1, a2, a3, a4⟩ := hk; exact ⟨a1, a2, hne, a4⟩
 ·
  obtain ⟨a1, a2⟩ := h.st.loop.record k la hk
  exact ⟨a1, a2.map (fun _ q _ => q) fun s x v _ hE => age hE⟩
 ·
  simp only [putE, look] at hs'
  split at hs'
  ·
   rename_i q
   cases hs'
   subst q
   show R w0 (M.newBox b) w _ _
   rw [ht]
   have := R.box (w0 := w0) (M := M.newBox b) (w := w) (l := st.boxes.length) (off := 0) (by rw [hN, h.st.N]; omega)
   rw [← h.st.N, hnew] at this
   rw [← h.st.N]
   exact this
  ·
   exact age (h.env s' x hs')
 ·
  obtain ⟨a1, a2, a3⟩ := hx.keep c q1 q2
  exact ⟨a1, hfo c (by omega) a2, a3⟩
 ·
  obtain ⟨iz', v', g1, g2, g3, g4, g5, g6⟩ := F'
  exact ⟨iz', v', g1, g2, g3, hfo b' hne g4, g5, g6⟩
noncomputable def adoptE (P : Program) (n : Nat) (l : List Oper) : List Nat → Env → St → Option (Env × St)
 | [], e, st => some (e, st)
 | i :: is, e, st => match l[i]? with
  | some o => match o.op, o.dst, o.guard with
   | .alloc t, some s, none => match zeroT P t with
    | some z => if s < n then adoptE P n l is (putE e (some s) true (.box st.boxes.length 0)) { st with boxes := st.boxes ++ [z] } else none
    | none => none
   | _, _, _ => none
  | none => none
theorem adopts {l : List Oper} {M1 : Mem} {w w1 : World} {a : Act} {bl : Nat → Nat} : ∀ (is : List Nat) (M : Mem) (e : Env) (st : St) (e2 : Env) (st2 : St), is.Nodup → adoptE P n l is e st = some (e2, st2) → Rel w0 n M e st a w → Ext w0 M1 w1 M w →
  (∀ i ∈ is, ∀ o s t, l[i]? = some o → o.dst = some s → o.op = .alloc t → a.tmps.getD s undef = .pointer (some ⟨bl i, 0, none⟩) ∧ Fresh P w0 M w (bl i) t ∧ w1.heap.size ≤ bl i) → (∀ i ∈ is, ∀ j ∈ is, bl i = bl j → i = j) →
  ∃ M2, Rel w0 n M2 e2 st2 a w ∧ Ext w0 M1 w1 M2 w
 | [], M, e, st, e2, st2, _, h, hr, hx, _, _ => by
  cases h
  exact ⟨M, hr, hx⟩
 | i :: is, M, e, st, e2, st2, hnd, h, hr, hx, hF, hinj => by
  simp only [adoptE] at h
  split at h
  rotate_left
  ·
   cases h
  rename_i o ho
  split at h
  rotate_left
  ·
   cases h
  rename_i t s q1 q2 q3
  split at h
  rotate_left
  ·
   cases h
  rename_i z hz
  split at h
  rotate_left
  ·
   cases h
  rename_i hsn
  obtain ⟨k1, k2, k3⟩ := hF i (List.mem_cons_self ..) o s t ho q2 q1
  obtain ⟨r1, r2, r3⟩ := adopt hr hx k2 k3 hz hsn k1
  have hnd' := List.nodup_cons.1 hnd
  refine adopts is _ _ _ _ _ hnd'.2 h r1 r2 (fun j hj o' s' t' g1 g2 g3 => ?_) (fun j hj j' hj' => hinj j (List.mem_cons_of_mem _ hj) j' (List.mem_cons_of_mem _ hj'))
  obtain ⟨m1, m2, m3⟩ := hF j (List.mem_cons_of_mem _ hj) o' s' t' g1 g2 g3
  refine ⟨m1, r3 _ _ (fun q => ?_) m2, m3⟩
  have := hinj j (List.mem_cons_of_mem _ hj) i (List.mem_cons_self ..) q
  exact hnd'.1 (this ▸ hj)
structure DInvA (P : Program) (w0 : World) (n : Nat) (l : List Oper) (h : Nat) (ef : List Nat) (e : Env) (st : St) (C : Nat → Bool) (V : Nat → AV) (M1 : Mem) (w1 : World) (ds : List Deferred) (listed : Array Bool) (a : Act) (w : World) (M : Mem) (bl : Nat → Nat) : Prop where
 size : listed.size = l.length
 tail : ∀ t, h ≤ t → t < l.length → listed.getD t true = false
 closed : ∀ j oj, l[j]? = some oj → listed.getD j false = true → ∀ e ∈ oj.after, Region.binds .any e = true → listed.getD e.on false = true
 rel : RelSt w0 M st w
 tmps : a.tmps.size = n
 defers : a.defers = ds
 ext : Ext w0 M1 w1 M w
 old : ∀ s x, (∀ i o, i < h → l[i]? = some o → o.dst ≠ some s) → look e s = some x → entryOk w0 M w (a.tmps.getD s undef) x
 new : ∀ i o s, i < h → i ∉ ef → l[i]? = some o → o.dst = some s → listed.getD i false = true → entryOk w0 M w (a.tmps.getD s undef) (C i, V i)
 al : ∀ i ∈ ef, listed.getD i false = true → ∀ o s t, l[i]? = some o → o.dst = some s → o.op = .alloc t → a.tmps.getD s undef = .pointer (some ⟨bl i, 0, none⟩) ∧ Fresh P w0 M w (bl i) t ∧ w1.heap.size ≤ bl i
 inj : ∀ i ∈ ef, ∀ j ∈ ef, listed.getD i false = true → listed.getD j false = true → bl i = bl j → i = j
noncomputable def isAlloc (P : Program) (o : Oper) : Bool :=
 match o.op, o.dst, o.guard with
 | .alloc t, some _, none => (match P.info? t with | some i => i.zero.isSome | none => false)
 | _, _, _ => false
theorem isAlloc_spec {o : Oper} (h : isAlloc P o = true) : ∃ t s iz v, o.op = .alloc t ∧ o.dst = some s ∧ o.guard = none ∧ P.info? t = some iz ∧ iz.zero = some v := by
 obtain ⟨dst, op, ty, pos, after, guard⟩ := o
 unfold isAlloc at h
 split at h
 ·
  rename_i t s q1 q2 q3
  split at h
  ·
   rename_i iz hi
   obtain ⟨v, hv⟩ := Option.isSome_iff_exists.1 h
   exact ⟨t, s, iz, v, q1, q2, q3, hi, hv⟩
  ·
   cases h
 ·
  cases h
noncomputable def freeB (P : Program) (n : Nat) (l : List Oper) (h : Nat) (ef : List Nat) (e : Env) : Bool :=
 ef.all fun i => Nat.blt i h && (match l[i]? with
  | some o => isAlloc P o && (match o.dst with
   | some s => Nat.blt s n && (look e s).isNone && (l.take h).all fun p => !(looks l p).contains s
   | none => false)
  | none => false)
theorem freeB_spec {l : List Oper} {h : Nat} {ef : List Nat} {e : Env} (hA : freeB P n l h ef e = true) {i : Nat} (hi : i ∈ ef) :
  i < h ∧ ∃ o t s iz v, l[i]? = some o ∧ o.op = .alloc t ∧ o.dst = some s ∧ o.guard = none ∧ P.info? t = some iz ∧ iz.zero = some v ∧ s < n ∧ look e s = none ∧ ∀ j p, j < h → l[j]? = some p → s ∉ looks l p := by
 have h1 := List.all_eq_true.1 hA i hi
 rw [Bool.and_eq_true] at h1
 obtain ⟨h1, h2⟩ := h1
 refine ⟨blt_lt h1, ?_⟩
 split at h2
 rotate_left
 ·
  cases h2
 rename_i o ho
 rw [Bool.and_eq_true] at h2
 obtain ⟨t, s, iz, v, q1, q2, q3, q4, q5⟩ := isAlloc_spec h2.1
 have h3 := h2.2
 rw [q2] at h3
 simp only [Bool.and_eq_true] at h3
 obtain ⟨⟨k1, k2⟩, k3⟩ := h3
 refine ⟨o, t, s, iz, v, ho, q1, q2, q3, q4, q5, blt_lt k1, Option.isNone_iff_eq_none.1 k2, fun j p hj hp hm => ?_⟩
 have := List.all_eq_true.1 k3 p (List.mem_of_getElem? (by rw [List.getElem?_take_of_lt hj]; exact hp))
 have c : (looks l p).contains s = true := by simpa using hm
 rw [c] at this
 cases this
theorem skip_at {ef : List Nat} {l : List Oper} {i : Nat} {o : Oper} (hi : i ∉ ef) (ho : l[i]? = some o) : (skipE ef 0 l)[i]? = some o := by
 rw [skipE_get, ho]
 simp [hi]
theorem any_drawA {l : List Oper} {h : Nat} {ef : List Nat} {e : Env} {st : St} {E : Nat → Env} {C : Nat → Bool} {V : Nat → AV} {M1 : Mem} {w1 : World} {ds : List Deferred} {ro : Option Nat} {m : Nat} {Q : Exit → Act → World → Prop} {e2 : Env} {st2 : St}
  (T : Trail P w0 n l ((skipE ef 0 l).take h) e st E C V) (hB : drawB l h = true) (hA : freeB P n l h ef e = true) (hnd : ef.Nodup) (had : adoptE P n l ef (E h) st = some (e2, st2))
  (hend : ∀ a w M, Rel w0 n M e2 st2 a w → Ext w0 M1 w1 M w → a.defers = ds → wpListIn (FW ro) m P l.toArray Q (l.drop h) a w) :
  ∀ fuel listed a w M bl, fuel = listed.toList.count false → DInvA P w0 n l h ef e st C V M1 w1 ds listed a w M bl → wpAnyIn (FW ro) m P .any l.toArray Q fuel listed a w := by
 simp only [drawB, Bool.and_eq_true, decide_eq_true_eq] at hB
 obtain ⟨⟨⟨hle, hH⟩, hT⟩, hS⟩ := hB
 have hlen : ((skipE ef 0 l).take h).length = h := by rw [List.length_take, skipE_length]; omega
 have hidx : ∀ j, j < h → ((skipE ef 0 l).take h)[j]? = (skipE ef 0 l)[j]? := fun j hj => List.getElem?_take_of_lt hj
 have hlt : ∀ {j : Nat} {o : Oper}, ((skipE ef 0 l).take h)[j]? = some o → j < h := fun {j o} hj => by
  have := (List.getElem?_eq_some_iff.1 hj).1; omega
 have uniq : ∀ (i j : Nat) (o p : Oper) (s : Nat), ((skipE ef 0 l).take h)[i]? = some o → ((skipE ef 0 l).take h)[j]? = some p → o.dst = some s → p.dst = some s → i = j := by
  intro i j o p s hi hj hs hs'
  have a1 := hlt hi
  have a2 := hlt hj
  rw [hidx _ a1] at hi
  rw [hidx _ a2] at hj
  obtain ⟨b1, b2⟩ := skip_get' hi hs
  obtain ⟨c1, c2⟩ := skip_get' hj hs'
  exact ((headB_spec hH a1 b2).2 j p s a2 c2 hs').1 hs
 have look1 : ∀ s j, j ≤ h → _ := fun s j hj => trail_look T uniq s j (by omega)
 have done : ∀ (listed : Array Bool) (a : Act) (w : World) (M : Mem) (bl : Nat → Nat) (fuel : Nat), fuel = listed.toList.count false → DInvA P w0 n l h ef e st C V M1 w1 ds listed a w M bl → (∀ j, j < h → listed.getD j false = true) →
   wpAnyIn (FW ro) m P .any l.toArray Q fuel listed a w := by
  intro listed a w M bl fuel hf inv hall
  have hl : listed = Array.replicate h true ++ Array.replicate (l.length - h) false := by
   apply Array.ext
   ·
    simp [inv.size]; omega
   ·
    intro i h1 h2
    by_cases c : i < h
    ·
     have := hall i c
     simp only [Array.getD_eq_getD_getElem?, Array.getElem?_eq_getElem h1, Option.getD_some] at this
     rw [this, Array.getElem_append_left (by simpa using c)]
     simp
    ·
     have := inv.tail i (by omega) (by rw [← inv.size]; exact h1)
     simp only [Array.getD_eq_getD_getElem?, Array.getElem?_eq_getElem h1, Option.getD_some] at this
     rw [this, Array.getElem_append_right (by simpa using c)]
     simp
  have hfl : fuel = (l.drop h).length := by
   rw [hf, hl]
   simp [List.count_append, List.count_replicate]
  have hrel : Rel w0 n M (E h) st a w := by
   refine ⟨inv.rel, inv.tmps, fun s x hs => ?_⟩
   by_cases c : ∃ j p, j < h ∧ j ∉ ef ∧ l[j]? = some p ∧ p.dst = some s
   ·
    obtain ⟨j, p, hj, hje, hp, hd⟩ := c
    have := (look1 s h (Nat.le_refl _)).2 j p hj (by rw [hidx _ hj]; exact skip_at hje hp) hd
    rw [this] at hs
    cases hs
    exact inv.new j p s hj hje hp hd (hall j hj)
   ·
    have := (look1 s h (Nat.le_refl _)).1 (fun j p hj hp hd => by
     rw [hidx _ hj] at hp
     obtain ⟨b1, b2⟩ := skip_get' hp hd
     exact c ⟨j, p, hj, b1, b2, hd⟩)
    rw [this] at hs
    refine inv.old s x (fun j p hj hp hd => ?_) hs
    by_cases cj : j ∈ ef
    ·
     obtain ⟨_, o, t, s', iz, v, q1, q2, q3, q4, q5, q6, q7, q8, q9⟩ := freeB_spec hA cj
     rw [hp] at q1
     cases q1
     rw [hd] at q3
     cases q3
     rw [q8] at hs
     cases hs
    ·
     exact c ⟨j, p, hj, cj, hp, hd⟩
  obtain ⟨M2, hr2, hx2⟩ := adopts (bl := bl) ef M (E h) st e2 st2 hnd had hrel inv.ext (fun i hi => inv.al i hi (hall i (freeB_spec hA hi).1)) (fun i hi j hj q => inv.inj i hi j hj (hall i (freeB_spec hA hi).1) (hall j (freeB_spec hA hj).1) q)
  rw [hfl]
  refine wpAnyIn_of_seq (l.drop h) h listed a w (fun j => by simp [List.getElem?_drop]) ?_ (hend a w M2 hr2 hx2 inv.defers)
  rw [hl, List.length_drop]
  exact hS
 have hwaits : ∀ (listed : Array Bool) (t : Nat) (o : Oper), (∀ j oj, l[j]? = some oj → listed.getD j false = true → ∀ e ∈ oj.after, Region.binds .any e = true → listed.getD e.on false = true) →
   l[t]? = some o → h ≤ t → (∀ e ∈ o.after, Region.binds .any e = true → listed.getD e.on false = true) → ∀ d j, j + d + 1 = t → listed.getD j false = true := by
  intro listed t o hcl ho ht haft d
  induction d using Nat.strongRecOn with
  | _ d ih =>
   intro j hj
   have htl : t < l.length := (List.getElem?_eq_some_iff.1 ho).1
   have h1 := List.all_eq_true.1 (List.all_eq_true.1 hT (t - h) (List.mem_range.2 (by omega))) j (List.mem_range.2 (by omega))
   obtain ⟨q, hq, h2⟩ := List.any_eq_true.1 h1
   have hq' : q ≤ t := by have := List.mem_range.1 hq; omega
   simp only [Bool.and_eq_true, decide_eq_true_eq] at h2
   obtain ⟨hjq, h3⟩ := h2
   cases hoq : l[q]? with
   | none => simp [hoq] at h3
   | some oq =>
    simp only [hoq] at h3
    obtain ⟨ed, he1, he2, he3⟩ := waitsB_spec h3
    by_cases c : q = t
    ·
     subst c
     rw [ho] at hoq; cases hoq
     exact he3 ▸ haft ed he1 he2
    ·
     have := ih (t - q - 1) (by omega) q (by omega)
     exact he3 ▸ hcl q oq hoq this ed he1 he2
 intro fuel
 induction fuel with
 | zero =>
  intro listed a w M bl hf inv
  refine done listed a w M bl 0 hf inv (fun j hj => ?_)
  cases hq : listed.getD j false with
  | true => rfl
  | false =>
   exfalso
   have hj' : j < listed.size := by rw [inv.size]; omega
   have : false ∈ listed.toList := by
    have e1 : listed[j] = false := by simpa [hj'] using hq
    rw [← e1]; simp
   have := List.count_pos_iff.2 this
   omega
 | succ fuel ih =>
  intro listed a w M bl hf inv
  by_cases hall : ∀ j, j < h → listed.getD j false = true
  ·
   exact done listed a w M bl _ hf inv hall
  ·
   obtain ⟨k, hk1, hk2, hk3⟩ := least_false hall
   have hk' : k < listed.size := by rw [inv.size]; omega
   have hkl : l[k]? = some l[k] := List.getElem?_eq_getElem (by omega)
   have hready : k ∈ Region.ready .any l.toArray listed := by
    refine mem_ready.2 ⟨by simpa [hk'] using hk2, l[k], by simp, fun ed he hb => hk3 _ ((headB_spec hH hk1 hkl).1 ed he hb)⟩
   refine ⟨fun h0 => absurd hready (by rw [h0]; simp), fun i hi => ?_⟩
   obtain ⟨hun, o, ho, haft⟩ := mem_ready.1 hi
   have ho' : l[i]? = some o := by simpa using ho
   have hil : i < l.length := (List.getElem?_eq_some_iff.1 ho').1
   have hih : i < h := by
    refine Nat.lt_of_not_le fun hge => ?_
    have := hwaits listed i o inv.closed ho' hge haft (i - k - 1) k (by omega)
    rw [hk2] at this; cases this
   have hspec := headB_spec hH hih ho'
   have hi' : i < listed.size := by rw [inv.size]; omega
   have hcnt : fuel = (listed.setIfInBounds i true).toList.count false := by
    have hiu : listed[i] = false := by simpa [hi'] using hun
    have hpos : 0 < listed.toList.count false := List.count_pos_iff.2 (by rw [← hiu]; simp)
    rw [Array.toList_setIfInBounds, List.count_set (by simpa using hi')]
    simp only [Array.getElem_toList, hiu]
    rw [if_pos (show (false == false) = true from rfl), if_neg (show ¬ (true == false) = true by decide)]
    omega
   have htail : ∀ t, h ≤ t → t < l.length → (listed.setIfInBounds i true).getD t true = false := fun t h1 h2 => by
    rw [getD_set' hi', if_neg (by omega)]; exact inv.tail t h1 h2
   have hclosed : ∀ j oj, l[j]? = some oj → (listed.setIfInBounds i true).getD j false = true → ∀ e ∈ oj.after, Region.binds .any e = true → (listed.setIfInBounds i true).getD e.on false = true := fun j oj hj hl ed he hb => by
    rw [getD_set' hi'] at hl ⊢
    split
    ·
     rfl
    ·
     by_cases c : i = j
     ·
      subst c
      rw [ho'] at hj; cases hj
      exact haft ed he hb
     ·
      rw [if_neg c] at hl
      exact inv.closed j oj hj hl ed he hb
   unfold wpOpIn
   simp only [ho]
   by_cases hie : i ∈ ef
   ·
    obtain ⟨_, o', t, s0, iz, v, q1, q2, q3, q4, q5, q6, q7, q8, q9⟩ := freeB_spec hA hie
    rw [ho'] at q1
    cases q1
    have hw : Region.wanted o (yielded l.toArray a.tmps) = true := by simp [Region.wanted, q4]
    rw [hw, if_pos rfl]
    refine ⟨fun f _ => FW_fn ro f, ?_⟩
    have hs : Oper.semAt (FW ro).round a.eval o = execOp a.eval o := by
     cases ro with
     | none => rfl
     | some r => exact Oper.semAt_some r a.eval o (fun c hh => by rw [q2] at hh; cases hh)
    have hrun : (execOp a.eval o).run P w = .ok (.value (.pointer (some ⟨w.heap.size, 0, none⟩))) (w.alloc (.cells v.cells t)) := by
     simp [execOp, q2, Instr.alloc, zeroValue, typeInfo, q5, q6, newVar, newRow]
    rw [hs, hrun]
    obtain ⟨z1, z2⟩ := inv.rel.newTop v.cells t 0
    have hput : ∀ s, (a.put o.dst (.pointer (some ⟨w.heap.size, 0, none⟩))).tmps.getD s undef = if s0 = s then .pointer (some ⟨w.heap.size, 0, none⟩) else a.tmps.getD s undef := fun s => by
     rw [getD_put a o.dst _ s (by rw [inv.tmps, q3]; exact q7), q3]
     by_cases c : s0 = s
     ·
      subst c; simp
     ·
      rw [if_neg (fun q => c (Option.some.inj q)), if_neg c]
    have hothers : ∀ j p s, j < h → j ≠ i → l[j]? = some p → p.dst = some s → s0 ≠ s := fun j p s hj hne hp hd q => hne ((hspec.2 j p s hj hp hd).1 (by rw [q3, q])).symm
    refine ih _ _ _ (M.newTop w.heap.size 0) (fun j => if j = i then w.heap.size else bl j) hcnt ⟨by simp [inv.size], htail, hclosed, z1, by rw [size_put]; exact inv.tmps, by rw [defers_put]; exact inv.defers, inv.ext.trans z2, fun s x h1 h2 => ?_, fun j p s hj hje hp hd hl => ?_, fun j hj hl p s t' hp hd hop => ?_, fun j hj j' hj' hl hl' hbb => ?_⟩
    ·
     rw [hput, if_neg (fun q => h1 i o hih ho' (by rw [q3, q]))]
     exact (inv.old s x h1 h2).mono z2
    ·
     have hne : j ≠ i := fun q => hje (q ▸ hie)
     rw [getD_set' hi', if_neg (Ne.symm hne)] at hl
     rw [hput, if_neg (hothers j p s hj hne hp hd)]
     exact (inv.new j p s hj hje hp hd hl).mono z2
    ·
     by_cases c : j = i
     ·
      subst c
      rw [ho'] at hp
      cases hp
      rw [q3] at hd
      cases hd
      rw [q2] at hop
      cases hop
      rw [hput, if_pos rfl]
      simp only [if_true]
      exact ⟨trivial, ⟨iz, v, q5, q6, World.alloc_heap_new w _, inv.rel.foreign_new (Nat.le_refl _), by simp [Mem.newTop], inv.rel.base_le⟩, inv.ext.size⟩
     ·
      have hjh := (freeB_spec hA hj).1
      rw [getD_set' hi', if_neg (Ne.symm c)] at hl
      obtain ⟨m1, m2, m3⟩ := inv.al j hj hl p s t' hp hd hop
      rw [hput, if_neg (hothers j p s hjh c hp hd)]
      simp only [if_neg c]
      exact ⟨m1, m2.mono z2, m3⟩
    ·
     have hlt' : ∀ k ∈ ef, k ≠ i → (listed.setIfInBounds i true).getD k false = true → bl k < w.heap.size := fun k hk hne hl => by
      rw [getD_set' hi', if_neg (Ne.symm hne)] at hl
      obtain ⟨_, o2, t2, s2, iz2, v2, p1, p2, p3, _⟩ := freeB_spec hA hk
      exact (inv.al k hk hl o2 s2 t2 p1 p3 p2).2.1.lt
     by_cases c : j = i
     ·
      by_cases c' : j' = i
      ·
       omega
      ·
       have := hlt' j' hj' c' hl'
       rw [if_pos c, if_neg c'] at hbb
       omega
     ·
      by_cases c' : j' = i
      ·
       have := hlt' j hj c hl
       rw [if_neg c, if_pos c'] at hbb
       omega
      ·
       rw [if_neg c, if_neg c'] at hbb
       rw [getD_set' hi', if_neg (Ne.symm c)] at hl
       rw [getD_set' hi', if_neg (Ne.symm c')] at hl'
       exact inv.inj j hj j' hj' hl hl' hbb
   ·
    obtain ⟨t1, t2, t3, t4, t5⟩ := T.step i o (by rw [hidx _ hih]; exact skip_at hie ho')
    have hrel : Rel w0 n M (view true l o (E i)) st a w := by
     refine ⟨inv.rel, inv.tmps, fun s x hs => ?_⟩
     simp only [view, if_true] at hs
     have hm := mem_keepL _ _ _ _ hs
     have hl := look_keepL _ _ _ _ hs
     by_cases c : ∃ j p, j < h ∧ j ∉ ef ∧ l[j]? = some p ∧ p.dst = some s
     ·
      obtain ⟨j, p, hj, hje, hp, hd⟩ := c
      obtain ⟨hji, hw⟩ := (hspec.2 j p s hj hp hd).2 hm
      obtain ⟨ed, he1, he2, he3⟩ := waitsB_spec hw
      have hlj : listed.getD j false = true := he3 ▸ haft ed he1 he2
      have := (look1 s i (by omega)).2 j p hji (by rw [hidx _ hj]; exact skip_at hje hp) hd
      rw [this] at hl
      cases hl
      exact inv.new j p s hj hje hp hd hlj
     ·
      have := (look1 s i (by omega)).1 (fun j p hj hp hd => by
       rw [hidx _ (by omega)] at hp
       obtain ⟨b1, b2⟩ := skip_get' hp hd
       exact c ⟨j, p, by omega, b1, b2, hd⟩)
      rw [this] at hl
      refine inv.old s x (fun j p hj hp hd => ?_) hl
      by_cases cj : j ∈ ef
      ·
       obtain ⟨_, o', t, s', iz, v, q1, q2, q3, q4, q5, q6, q7, q8, q9⟩ := freeB_spec hA cj
       rw [hp] at q1
       cases q1
       rw [hd] at q3
       cases q3
       exact q9 i o hih ho' hm
      ·
       exact c ⟨j, p, hj, cj, hp, hd⟩
    refine oneOk_sound hrel ro m t2 (by rw [t4]; exact t5) Q _ fun v w' M' hx hst hv => ?_
    rw [t4] at hv
    have keep : ∀ s x, o.dst ≠ some s → entryOk w0 M w (a.tmps.getD s undef) x → entryOk w0 M' w' ((a.put o.dst v).tmps.getD s undef) x := by
     intro s x hne h1
     rw [getD_put a o.dst v s (by rw [inv.tmps]; exact t3), if_neg hne]
     exact h1.mono hx
    refine ih _ _ _ M' bl hcnt ⟨by simp [inv.size], htail, hclosed, hst, by rw [size_put]; exact inv.tmps, by rw [defers_put]; exact inv.defers, inv.ext.trans hx, fun s x h1 h2 => ?_, fun j p s hj hje hp hd hl => ?_, fun j hj hl p s t' hp hd hop => ?_, fun j hj j' hj' hl hl' hbb => ?_⟩
    ·
     exact keep s x (h1 i o hih ho') (inv.old s x h1 h2)
    ·
     by_cases c : i = j
     ·
      subst c
      rw [ho'] at hp; cases hp
      rw [getD_put a o.dst v s (by rw [inv.tmps]; exact t3), if_pos hd]
      exact hv
     ·
      rw [getD_set' hi', if_neg c] at hl
      exact keep s _ (fun hs => c ((hspec.2 j p s hj hp hd).1 hs)) (inv.new j p s hj hje hp hd hl)
    ·
     have c : i ≠ j := fun q => hie (q ▸ hj)
     rw [getD_set' hi', if_neg c] at hl
     obtain ⟨m1, m2, m3⟩ := inv.al j hj hl p s t' hp hd hop
     rw [getD_put a o.dst v s (by rw [inv.tmps]; exact t3), if_neg (fun hs => c ((hspec.2 j p s (freeB_spec hA hj).1 hp hd).1 hs))]
     exact ⟨m1, m2.mono hx, m3⟩
    ·
     rw [getD_set' hi', if_neg (fun q : i = j => hie (q ▸ hj))] at hl
     rw [getD_set' hi', if_neg (fun q : i = j' => hie (q ▸ hj'))] at hl'
     exact inv.inj j hj j' hj' hl hl' hbb
theorem awp_drawA {M0 : Mem} {W0 : World} {ro : Option Nat} {Q : AQ} {e : Env} {st : St} (hm : P.follows .mixedOrders = true) (h : Nat) (ef : List Nat) (c1 c2 : Nat) {id : Nat} {l : List Oper} (hB : drawB l h = true) (hA : freeB P n l h ef e = true) (hnd : ef.Nodup)
  (hev : evK P w0 n true l (fun e1 s1 => ∃ e2 s2, adoptE P n l ef e1 s1 = some (e2, s2) ∧ evK P w0 n false l (fun e2 s2 => Q .normal e2 s2) c2 (l.drop h) e2 s2) c1 ((skipE ef 0 l).take h) e st) : awp P w0 n M0 W0 ro (.region id l.toArray true) Q e st := by
 intro m M a w hr
 obtain ⟨E, C, V, T, e2, s2, had, h2⟩ := trail_of _ _ _ hev
 have hle : h ≤ l.length := by
  simp only [drawB, Bool.and_eq_true, decide_eq_true_eq] at hB; exact hB.1.1.1
 have hlen : ((skipE ef 0 l).take h).length = h := by rw [List.length_take, skipE_length]; omega
 rw [hlen] at had
 obtain ⟨d1, d2⟩ := hr.rel.st.drew
 have hno : ∀ {b : Bool} {j : Nat}, (Array.replicate l.length false).getD j false = true → b = true := fun {b j} hl => by
  exfalso
  by_cases c : j < l.length
  ·
   simp [Array.getD_eq_getD_getElem?, c] at hl
  ·
   simp [Array.getD_eq_getD_getElem?, c] at hl
 refine wpIn_region_any hm (any_drawA T hB hA hnd had (M1 := M) (w1 := w) (ds := a.defers) (fun a1 w1 M1 hr1 hx1 hd1 => ?_) _ _ a _ M (fun _ => 0) (by simp) ?_)
 ·
  refine evK_sound ro m false l _ _ c2 _ _ s2 a1 w1 M1 hr1 h2 fun e2 s2 a2 w2 M2 k2 r2 x2 q2 => ⟨M2, _, _, ⟨r2, hr.ext.trans (hx1.trans x2), ?_⟩, k2⟩
  rw [q2, hd1]
  exact hr.marks.later (hx1.trans x2) hr.rel.st
 ·
  refine ⟨by simp, fun t _ ht => by simp [Array.getD_eq_getD_getElem?, ht], fun j _ _ hl => ?_, d1, hr.rel.size, rfl, d2, fun s x _ hs => (hr.rel.env s x hs).mono d2, fun j _ _ _ _ _ _ hl => ?_, fun j _ hl => ?_, fun j _ _ _ hl => ?_⟩
  all_goals (exfalso; have := hno (b := false) hl; cases this)
end
section
variable {P : Program} {w0 : World} {n : Nat}
theorem awp_anyD {M0 : Mem} {W0 : World} {ro : Option Nat} {Q : AQ} {e : Env} {st : St} (hm : P.follows .mixedOrders = true) (ef : List Nat) {id : Nat} {l : List Oper} (hB : orderB l ef = true) (F : List Nat → St → Prop) (k : Nat) {e1 : Env}
  (hN : ∀ t, (∀ i o, i ∉ ef → l[i]? = some o → o.dst ≠ some t) → look e1 t = look e t) (hF : ∀ dn s, F dn s → ∀ i o, i ∉ ef → (∀ j ∈ dn, ancB (masks l []) j i = false) → l[i]? = some o → AtOk P w0 n l e1 s o)
  (hG : GoodD P w0 n l ef F (fun ev s => Q .normal ev s) k [] e1 st) : awp P w0 n M0 W0 ro (.region id l.toArray true) Q e st := by
 intro m M a w hr
 obtain ⟨d1, d2⟩ := hr.rel.st.drew
 refine wpIn_region_any hm (any_order (s0 := st) (e := e) (e1 := e1) (M1 := M) (w1 := w) (ds := a.defers) (el := []) hB (by simp [earlyB]) hN (fun dn s h i o h1 h2 _ h3 => hF dn s h i o h1 h2 h3) (fun ev s M' a' w' hQ hrel hx hd => ?_) _ _ a _ M k [] e1 st ?_ hG ?_)
 ·
  refine ⟨M', _, _, ⟨hrel, hr.ext.trans hx, ?_⟩, hQ⟩
  rw [hd]
  exact hr.marks.later hx hr.rel.st
 ·
  simp
 ·
  have hnl : ∀ j, (Array.replicate l.toArray.size false).getD j false = false := fun j => by
   by_cases c : j < l.length
   ·
    simp [Array.getD_eq_getD_getElem?, c]
   ·
    simp [Array.getD_eq_getD_getElem?, c]
  exact ⟨by simp, fun _ => rfl, fun j _ _ hl => (by rw [hnl] at hl; cases hl), fun i _ => (by rw [hnl]; simp), fun _ h => (nomatch h), d1, hr.rel.size, rfl, d2, fun _ _ => rfl, fun _ _ ⟨_, h, _⟩ => (nomatch h),
   fun _ _ _ ⟨i, _, _, _, _, h⟩ => (by rw [hnl] at h; cases h), fun t x _ hs => (hr.rel.env t x hs).mono d2⟩
theorem runR0_st {F : Fl} {all : List Oper} {gl : TypeId → Nat → Option AV} {call : AV → List AV → St → Option (AV × St)} : ∀ (os : List Oper) (e : Env) (st : St) (e' : Env) (st' : St), runR0 P n F true all gl call os e st = some (e', st') → st' = st ∧ ∃ p, e' = p ++ e
 | [], e, st, e', st', h => by cases h; exact ⟨rfl, [], rfl⟩
 | o :: os, e, st, e', st', h => by
  have ih := fun c v (h : runR0 P n F true all gl call os (putE e o.dst c v) st = some (e', st')) => runR0_st os _ _ _ _ h
  have fin : ∀ c v, runR0 P n F true all gl call os (putE e o.dst c v) st = some (e', st') → st' = st ∧ ∃ p, e' = p ++ e := fun c v h => by
   obtain ⟨h1, p, h2⟩ := ih c v h
   refine ⟨h1, ?_⟩
   cases hd : o.dst with
   | none => rw [hd] at h2; exact ⟨p, h2⟩
   | some d => rw [hd] at h2; exact ⟨p ++ [(d, c, v)], by rw [h2]; simp [putE]⟩
  rw [runR0] at h
  by_cases h0 : guardOk all (view true all o e) o.guard ∧ dstOk n o.dst
  rotate_left
  ·
   rw [if_neg h0] at h; cases h
  rw [if_pos h0] at h
  split at h
  ·
   split at h
   ·
    split at h
    ·
     split at h
     ·
      split at h
      ·
       exact fin _ _ h
      ·
       rename_i q; exact absurd rfl q
     ·
      cases h
    ·
     cases h
   ·
    exact fin _ _ h
  ·
   split at h
   ·
    rename_i q; cases q
   ·
    cases h
  ·
   split at h
   ·
    split at h
    ·
     exact fin _ _ h
    ·
     cases h
   ·
    split at h
    ·
     rename_i q; cases q.2
    ·
     cases h
theorem runR_st {F : Fl} {all : List Oper} {gl : TypeId → Nat → Option AV} {call : AV → List AV → St → Option (AV × St)} (os : List Oper) (e : Env) (st : St) (e' : Env) (st' : St) (h : runR P n F true all gl call os e st = some (e', st')) : st' = st ∧ ∃ p, e' = p ++ e :=
 runR0_st os e st e' st' (runR_le _ _ _ _ h)
noncomputable def preB (e1 : Env) : Env → Bool
 | [] => true
 | (k, c, v) :: p => (match look e1 k with | some (c', v') => c == c' && eqAV 60 v v' | none => false) && preB e1 p
theorem preB_spec {e1 : Env} : ∀ (p : Env), preB e1 p = true → PreOk e1 (p ++ e1)
 | [], _ => .nil
 | (k, c, v) :: p, h => by
  simp only [preB, Bool.and_eq_true] at h
  obtain ⟨h1, h2⟩ := h
  split at h1
  ·
   rename_i c' v' hl
   simp only [Bool.and_eq_true] at h1
   have e1 := eq_of_beq h1.1
   have e2 := eqAV_eq 60 _ _ h1.2
   subst e1 e2
   exact .cons hl (preB_spec p h2)
  ·
   cases h1
noncomputable def lateA (l : List Oper) (ms : List Nat) (ef dn : List Nat) : List Nat := (List.range l.length).filter fun i => !ef.contains i && dn.any fun j => ancB ms j i
noncomputable def othersA (P : Program) (n : Nat) (F : Fl) (gl : TypeId → Nat → Option AV) (call0 : AV → List AV → St → Option (AV × St)) (l : List Oper) (ms ef dn : List Nat) (e1 : Env) (s : St) : Bool :=
 match dn with
 | [] => true
 | _ => match runR P n F true l gl call0 (skipE (ef ++ lateA l ms ef dn) 0 l) e1 s with
  | some (e', _) => preB e1 (e'.take (e'.length - e1.length))
  | none => false
noncomputable def stepA (P : Program) (l : List Oper) (call : AV → List AV → St → Option (AV × St)) (F : Fl) (o : Oper) (ev : Env) (s : St) : Option (AV × St) :=
 match o.op with
 | .call ⟨.value f, args, _⟩ => viewK true l o ev fun w => argK w f fun fv => argsK w (hasMark w 0) args.toList fun vs => call fv vs s
 | op => viewK true l o ev fun w => doOp P F w s op fun v s => some (v, s)
noncomputable def chainA (P : Program) (n : Nat) (F : Fl) (gl : TypeId → Nat → Option AV) (call0 call : AV → List AV → St → Option (AV × St)) (l : List Oper) (ms ef : List Nat) (e1 : Env) : List Nat → List Nat → Env → St → Option (Env × St)
 | [], dn, ev, s => if othersA P n F gl call0 l ms ef dn e1 s && (readyE l ef dn).isEmpty then some (ev, s) else none
 | i :: is, dn, ev, s => if othersA P n F gl call0 l ms ef dn e1 s && decide (readyE l ef dn = [i]) && !(ef.all fun j => dn.contains j) then match l[i]? with
   | some o => if o.guard.isNone = true ∧ dstOk n o.dst then match stepA P l call F o ev s with
     | some (v, s') => chainA P n F gl call0 call l ms ef e1 is (i :: dn) (putE ev o.dst true v) s'
     | none => none
    else none
   | none => none
  else none
noncomputable def runA (P : Program) (n : Nat) (F : Fl) (gl : TypeId → Nat → Option AV) (call0 call : AV → List AV → St → Option (AV × St)) (l : List Oper) (ef : List Nat) (e : Env) (st : St) : Option (Env × St) :=
 if orderB l ef = true then match runR P n F true l gl call0 (skipE ef 0 l) e st with
  | some (e1, _) => chainA P n F gl call0 call l (masks l []) ef e1 ef [] e1 st
  | none => none
 else none
variable {F : Fl} {gl : TypeId → Nat → Option AV} {call0 call : AV → List AV → St → Option (AV × St)} {l : List Oper} {ef : List Nat} {e1 : Env}
noncomputable def OtherA (P : Program) (n : Nat) (F : Fl) (gl : TypeId → Nat → Option AV) (call0 : AV → List AV → St → Option (AV × St)) (l : List Oper) (ef : List Nat) (e1 : Env) (st : St) (dn : List Nat) (s : St) : Prop :=
 (dn = [] → s = st) ∧ othersA P n F gl call0 l (masks l []) ef dn e1 s = true
theorem stepA_ok (hcall : ∀ fv args st v st', call fv args st = some (v, st') → VCalls P w0 fv args st fun r s => r = v ∧ s = st') {o : Oper} {ev : Env} {s : St} {v : AV} {s' : St} (h : stepA P l call F o ev s = some (v, s')) : StepOk P w0 (view true l o ev) s o v s' := by
 obtain ⟨dst, op, ty, pos, after, guard⟩ := o
 unfold stepA at h
 split at h
 ·
  rename_i f args ts q
  simp only at q
  subst q
  rw [viewK_eq] at h
  obtain ⟨h1, h2⟩ := argK_spec h
  obtain ⟨h3, h4⟩ := argsK_spec _ _ h2
  exact ⟨h1, h3, hcall _ _ _ _ _ h4⟩
 ·
  rename_i hne
  rw [viewK_eq] at h
  obtain ⟨ha1, ha2, h⟩ := doOp_spec h
  ·
   have h := Option.some.inj h
   rw [stepOk_other (fun q => by
    simp only at q hne
    cases op with
    | call cc =>
     obtain ⟨cl, args, ts⟩ := cc
     cases cl with
     | value f => exact hne _ _ _ rfl
     | _ => cases q
    | _ => cases q)]
   exact ⟨ha2, congrArg Prod.fst h, congrArg Prod.snd h⟩
theorem chainA_good (hcall : ∀ fv args st v st', call fv args st = some (v, st') → VCalls P w0 fv args st fun r s => r = v ∧ s = st') {st : St} {e2 : Env} {s2 : St} {T : Env → St → Prop} (hT : T e2 s2) :
  ∀ (is dn : List Nat) (ev : Env) (s : St), (dn = [] → s = st) → chainA P n F gl call0 call l (masks l []) ef e1 is dn ev s = some (e2, s2) → GoodD P w0 n l ef (OtherA P n F gl call0 l ef e1 st) T (is.length + 1) dn ev s
 | [], dn, ev, s, h0, h => by
  simp only [chainA] at h
  split at h
  ·
   rename_i hc
   rw [Bool.and_eq_true] at hc
   cases h
   refine ⟨⟨h0, hc.1⟩, fun _ => hT, fun i hi hd hr => ?_⟩
   have : i ∈ readyE l ef dn := List.mem_filter.2 ⟨hi, by rw [hd]; simpa using hr⟩
   rw [List.isEmpty_iff.1 hc.2] at this
   cases this
  ·
   cases h
 | i :: is, dn, ev, s, h0, h => by
  simp only [chainA] at h
  split at h
  rotate_left
  ·
   cases h
  rename_i hc
  simp only [Bool.and_eq_true, decide_eq_true_eq, Bool.not_eq_true'] at hc
  obtain ⟨⟨c1, c2⟩, c3⟩ := hc
  split at h
  rotate_left
  ·
   cases h
  rename_i o ho
  split at h
  rotate_left
  ·
   cases h
  rename_i hg
  split at h
  rotate_left
  ·
   cases h
  rename_i v s' hs
  refine ⟨⟨h0, c1⟩, fun q => (by rw [c3] at q; cases q), fun j hj hd hr => ?_⟩
  have : j ∈ readyE l ef dn := List.mem_filter.2 ⟨hj, by rw [hd]; simpa using hr⟩
  rw [c2, List.mem_singleton] at this
  subst this
  refine ⟨o, ho, Option.isNone_iff_eq_none.1 hg.1, hg.2, fun r t => r = v ∧ t = s', .inr ⟨v, s', stepA_ok hcall hs, fun _ _ q => q⟩, ?_⟩
  rintro _ _ ⟨rfl, rfl⟩
  exact chainA_good hcall hT is _ _ _ (fun q => by cases q) h
theorem awp_runA {M0 : Mem} {W0 : World} {ro : Option Nat} {Q : AQ} {e : Env} {st : St} (hm : P.follows .mixedOrders = true) (hL : ∀ fv args st v st', call0 fv args st = some (v, st') → st' = st) (hcall0 : ∀ fv args st v st', call0 fv args st = some (v, st') → VCalls P w0 fv args st fun r s => r = v ∧ s = st')
  (hcall : ∀ fv args st v st', call fv args st = some (v, st') → VCalls P w0 fv args st fun r s => r = v ∧ s = st') (hgl : ∀ t g x, gl t g = some x → GlobR P w0 t g x) {id : Nat} {e2 : Env} {s2 : St} (h : runA P n F gl call0 call l ef e st = some (e2, s2)) (hQ : Q .normal e2 s2) : awp P w0 n M0 W0 ro (.region id l.toArray true) Q e st := by
 unfold runA at h
 split at h
 rotate_left
 ·
  cases h
 rename_i hB
 split at h
 rotate_left
 ·
  cases h
 rename_i e1 s1 h1
 have h0 := at_all (P := P) (w0 := w0) (n := n) (e1 := e1) (s := st) hB ⟨cntR (skipE ef 0 l) + 1, runR_sound (K := fun e' s' => e' = e1 ∧ s' = st) (fun _ => hL) hcall0 hgl _ _ _ _ _ h1 ⟨rfl, (runR_st _ _ _ _ _ h1).1⟩⟩
 refine awp_anyD hm ef hB (OtherA P n F gl call0 l ef e1 st) _ h0.1 (fun dn s hF i o hie hanc ho => ?_) (chainA_good (T := fun ev s => Q .normal ev s) hcall hQ ef [] e1 st (fun _ => rfl) h)
 obtain ⟨f1, f2⟩ := hF
 unfold othersA at f2
 split at f2
 ·
  rw [f1 rfl]
  exact h0.2 i o hie ho
 ·
  split at f2
  ·
   rename_i e' s' q
   obtain ⟨r1, p, r2⟩ := runR_st _ _ _ _ _ q
   have e0 : e'.take (e'.length - e1.length) = p := by rw [r2]; simp
   rw [e0] at f2
   refine at_late (el := lateA l (masks l []) ef dn) hB ⟨cntR (skipE (ef ++ lateA l (masks l []) ef dn) 0 l) + 1, runR_sound (K := fun e' s' => s' = s ∧ PreOk e1 e') (fun _ => hL) hcall0 hgl _ _ _ _ _ q ⟨r1, by rw [r2]; exact preB_spec p f2⟩⟩ i o hie (fun hl => ?_) ho
   have := (List.mem_filter.1 hl).2
   simp only [Bool.and_eq_true, List.any_eq_true] at this
   obtain ⟨_, j, hj, ha⟩ := this
   rw [hanc j hj] at ha
   cases ha
  ·
   cases f2
end
section
structure Cfg where
 gl : TypeId → Nat → Option AV
 ext : FuncId → List AV → Option AV
 exs : Fl → FuncId → List AV → St → Option (AV × St)
 isX : FuncId → Bool
 kp : FuncId → Bool
 im : FuncId → Bool
 imx : FuncId → FuncId → Bool
 q : Nat
 m : Nat
noncomputable def Cfg.at (C : Cfg) (f : FuncId) (m : Nat) : Cfg := { C with im := fun g => C.im g || C.imx f g, m := m }
noncomputable def Cfg.m0 (C : Cfg) : Cfg := { C with m := 0 }
noncomputable def bitsO (l : List Operand) (m : Nat) : Nat := List.rec (motive := fun _ => Nat → Nat) (fun m => m) (fun x _ ih m => match x with | .tmp t => ih (Nat.lor m (Nat.shiftLeft 1 t)) | _ => ih m) l m
noncomputable def freeR (ops : List Oper) : Nat := List.rec (motive := fun _ => Nat → Nat → Nat) (fun m s => m) (fun o _ ih m s => ih (Nat.lor m (Nat.lor (Nat.xor (Nat.land (bitsO o.op.operands.toList 0) s) (bitsO o.op.operands.toList 0)) 0)) (match o.dst with | some d => Nat.lor s (Nat.shiftLeft 1 d) | none => s)) ops 0 0
noncomputable def outC : Code → Nat
 | .region _ ops _ => freeR ops.toList
 | .seq a b => Nat.lor (outC a) (outC b)
 | .cond o a b => Nat.lor (bitsO [o] 0) (Nat.lor (outC a) (outC b))
 | .block _ a => outC a
 | .loop a => outC a
 | .rangeFunc g ps asg body => Nat.lor (bitsO [g] 0) (Nat.lor (outC asg) (outC body))
 | _ => 0
noncomputable def outF (fn : Func) (c : Code) : Nat := List.rec (motive := fun _ => Nat → Nat) (fun m => m) (fun r _ ih m => match r with | .tmp t => ih (Nat.lor m (Nat.shiftLeft 1 t)) | .cell t _ => ih (Nat.lor m (Nat.shiftLeft 1 t))) fn.results.toList (outC c)
noncomputable def idsA : Nat → AV → List Nat
 | 0, _ => []
 | k + 1, .agg xs => xs.flatMap (idsA k)
 | k + 1, .tup xs => xs.flatMap (idsA k)
 | k + 1, .list xs _ => xs.flatMap (idsA k)
 | k + 1, .elem x _ => idsA k x
 | k + 1, .clo _ xs => xs.flatMap (idsA k)
 | _ + 1, .vec i _ _ _ => [i]
 | _ + 1, _ => []
theorem deepSt_pre {F : Fl} {f : AV → AV} {s : St} (hf : Fits F s) : Pre F s (deepSt F.b F.r f s) :=
 ⟨⟨mapFrom_take _ _ _, mapFrom_take _ _ _, rfl⟩, by simpa [deepSt, mapFrom_length] using hf.1, by simpa [deepSt, mapFrom_length] using hf.2.1, hf.2.2⟩
noncomputable def dAK {β : Type} (g : AV → AV) (n : Nat) : AV → (AV → β) → β :=
 Nat.rec (motive := fun _ => AV → (AV → β) → β) (fun x k => k x) (fun _ ih x k => match x with
  | .agg xs => fLs ih xs fun xs => k (.agg xs)
  | .tup xs => fLs ih xs fun xs => k (.tup xs)
  | .list (x :: xs) o => ih x fun x => fLs ih xs fun xs => k (.list (x :: xs) o)
  | .list [] o => fA 60 (g (.list [] o)) k
  | .elem x i => ih x fun x => k (.elem x i)
  | .clo f xs => fLs ih xs fun xs => k (.clo f xs)
  | .vec a b c d => fA 60 (g (.vec a b c d)) k
  | x => k x) n
theorem dAK_eq {β : Type} (g : AV → AV) : ∀ (n : Nat) (x : AV) (k : AV → β), dAK g n x k = k (deep g n x)
 | 0, x, k => rfl
 | n + 1, x, k => by
  have ih : ∀ (x : AV) (k : AV → β), dAK g n x k = k (deep g n x) := fun x k => dAK_eq g n x k
  have ml : ∀ (l : List AV) (k : List AV → β), fLs (dAK g n) l k = k (l.map (deep g n)) := fun l k => fLs_map ih l k
  cases x with
  | agg xs => show fLs (dAK g n) xs (fun xs => k (.agg xs)) = _; rw [ml]; rfl
  | tup xs => show fLs (dAK g n) xs (fun xs => k (.tup xs)) = _; rw [ml]; rfl
  | list xs o =>
   cases xs with
   | nil => show fA 60 (g (.list [] o)) k = _; rw [fA_eq]; rfl
   | cons x xs =>
    show dAK g n x (fun x => fLs (dAK g n) xs fun xs => k (.list (x :: xs) o)) = _
    rw [ih, ml]; rfl
  | elem x i => show dAK g n x (fun x => k (.elem x i)) = _; rw [ih]; rfl
  | clo f xs => show fLs (dAK g n) xs (fun xs => k (.clo f xs)) = _; rw [ml]; rfl
  | vec a b c d => show fA 60 (g (.vec a b c d)) k = _; rw [fA_eq]; rfl
  | _ => rfl
noncomputable def dEnt {β : Type} (g : AV → AV) (x : Nat × Bool × AV) (k : Nat × Bool × AV → β) : β :=
 Prod.rec (motive := fun _ => β) (fun s p => Prod.rec (motive := fun _ => β) (fun c v => Bool.rec (motive := fun _ => β) (k (s, c, deep g 60 v)) (dAK g 60 v fun v => k (s, c, v)) c) p) x
noncomputable def dEK {β : Type} (g : AV → AV) (e : Env) (k : Env → β) : β := fLs (dEnt g) e k
theorem dEK_eq {β : Type} (g : AV → AV) (e : Env) (k : Env → β) : dEK g e k = k (deepE (deep g 60) e) := by
 have h1 : ∀ (x : Nat × Bool × AV) (k : Nat × Bool × AV → β), dEnt g x k = k (x.1, x.2.1, deep g 60 x.2.2) := by
  rintro ⟨s, c, v⟩ k
  cases c
  ·
   rfl
  ·
   exact dAK_eq g 60 v fun v => k (s, true, v)
 have h2 : ∀ e : Env, e.map (fun x => (x.1, x.2.1, deep g 60 x.2.2)) = deepE (deep g 60) e := by
  intro e
  induction e with
  | nil => rfl
  | cons x e ih => obtain ⟨s, c, v⟩ := x; rw [List.map_cons, ih]; rfl
 rw [dEK, fLs_map h1, h2]
noncomputable def fromK {α β : Type} (f : α → (α → β) → β) (n : Nat) (l : List α) (k : List α → β) : β :=
 List.rec (motive := fun _ => Nat → (List α → β) → β) (fun _ k => k []) (fun x xs ih n k => Nat.rec (motive := fun _ => β) (fLs f (x :: xs) k) (fun m _ => ih m fun r => k (x :: r)) n) l n k
theorem fromK_eq {α β : Type} {f : α → (α → β) → β} {g : α → α} (hf : ∀ x k, f x k = k (g x)) : ∀ (l : List α) (n : Nat) (k : List α → β), fromK f n l k = k (mapFrom n g l)
 | [], 0, k => rfl
 | [], n + 1, k => rfl
 | x :: xs, 0, k => fLs_map hf (x :: xs) k
 | x :: xs, n + 1, k => fromK_eq hf xs n fun r => k (x :: r)
noncomputable def dRow {β : Type} (g : AV → AV) (r : RowA) (k : RowA → β) : β := match r with
 | .vec v sz cs => fN v fun v => fN sz fun sz => fLs (dAK g 60) cs fun cs => k (.vec v sz cs)
 | .dead v => fN v fun v => k (.dead v)
 | r => k r
theorem dRow_eq {β : Type} (g : AV → AV) (r : RowA) (k : RowA → β) : dRow g r k = k (deepRow (deep g 60) r) := by
 cases r with
 | vec v sz cs => show fN v (fun v => fN sz fun sz => fLs (dAK g 60) cs fun cs => k (.vec v sz cs)) = _; rw [fN_eq, fN_eq, fLs_map (dAK_eq g 60)]; rfl
 | dead v => exact fN_eq v fun v => k (.dead v)
 | grow a b => rfl
noncomputable def dStK {β : Type} (b r : Nat) (g : AV → AV) (bx : List (List AV)) (rw : List RowA) (lp : List LoopA) (k : St → β) : β :=
 fromK (fun cs k => fLs (dAK g 60) cs k) b bx fun bx => fromK (dRow g) r rw fun rw => fLs fLoop lp fun lp => k ⟨bx, rw, lp⟩
theorem dStK_eq {β : Type} (b r : Nat) (g : AV → AV) (bx : List (List AV)) (rw_ : List RowA) (lp : List LoopA) (k : St → β) : dStK b r g bx rw_ lp k = k (deepSt b r (deep g 60) ⟨bx, rw_, lp⟩) := by
 rw [dStK, fromK_eq (g := fun cs => cs.map (deep g 60)) (fun cs k => fLs_map (dAK_eq g 60) cs k), fromK_eq (dRow_eq g), fLs_eq fLoop_eq]; rfl
noncomputable def freezeL (F : Fl) (ids : Env → St → List Nat) : Nat → Env → St → Env × St
 | 0, e, st => (e, st)
 | k + 1, e, st => match (ids e st).filter (Nat.ble F.r) with
  | [] => (e, st)
  | id :: _ => match st.rows[id]? with
   | some (.vec ver sz cs) => if Nat.ble F.r id = true then dEK (frzG id ver sz cs) e fun e => dStK F.b F.r (frzG id ver sz cs) st.boxes (st.rows.set id (.dead (ver + 1))) st.loops fun st => freezeL F ids k e st else (e, st)
   | _ => (e, st)
theorem conv_freezeL (w0 : World) (F : Fl) (ids : Env → St → List Nat) : ∀ (k : Nat) (e : Env) (st : St), ConvE w0 e st (freezeL F ids k e st).1 (freezeL F ids k e st).2
 | 0, e, st => .refl _ _ _
 | k + 1, e, st => by
  unfold freezeL
  split
  ·
   exact .refl _ _ _
  ·
   split
   ·
    rename_i h
    split
    ·
     rw [dEK_eq, dStK_eq]
     exact (conv_freeze w0 F.b F.r 60 e st _ _ _ _ h).trans (conv_freezeL w0 F ids k _ _)
    ·
     exact .refl _ _ _
   ·
    exact .refl _ _ _
theorem freezeL_pre {F : Fl} (ids : Env → St → List Nat) : ∀ (k : Nat) (e : Env) (st : St), Fits F st → Pre F st (freezeL F ids k e st).2
 | 0, e, st, hf => .refl hf
 | k + 1, e, st, hf => by
  unfold freezeL
  split
  ·
   exact .refl hf
  ·
   split
   ·
    split
    ·
     rename_i hi
     rw [dEK_eq, dStK_eq]
     exact (Pre.row _ hf (Nat.le_of_ble_eq_true hi)).andThen fun h1 => (deepSt_pre h1).andThen fun h2 => freezeL_pre ids k _ _ h2
    ·
     exact .refl hf
   ·
    exact .refl hf
noncomputable def growL (F : Fl) : Nat → Nat → Env → St → Env × St
 | 0, _, e, st => (e, st)
 | k + 1, i, e, st => match st.rows[i]? with
  | some (.grow 0 sz) => if Nat.blt 0 sz = true ∧ Nat.ble F.r i = true then dEK (growG i) e (fun e => dStK F.b F.r (growG i) st.boxes (st.rows.set i (.vec 0 sz [])) st.loops fun st => growL F k (i + 1) e st) else growL F k (i + 1) e st
  | some _ => growL F k (i + 1) e st
  | none => (e, st)
theorem conv_growL (w0 : World) (F : Fl) : ∀ (k i : Nat) (e : Env) (st : St), ConvE w0 e st (growL F k i e st).1 (growL F k i e st).2
 | 0, i, e, st => .refl _ _ _
 | k + 1, i, e, st => by
  unfold growL
  split
  ·
   rename_i sz h
   split
   ·
    rename_i hs
    rw [dEK_eq, dStK_eq]
    exact (conv_grow w0 F.b F.r 60 e st i sz h (blt_lt hs.1)).trans (conv_growL w0 F k _ _ _)
   ·
    exact conv_growL w0 F k _ _ _
  ·
   exact conv_growL w0 F k _ _ _
  ·
   exact .refl _ _ _
theorem growL_pre {F : Fl} : ∀ (k i : Nat) (e : Env) (st : St), Fits F st → Pre F st (growL F k i e st).2
 | 0, i, e, st, hf => .refl hf
 | k + 1, i, e, st, hf => by
  unfold growL
  split
  ·
   rename_i sz h
   split
   ·
    rename_i hs
    rw [dEK_eq, dStK_eq]
    exact (Pre.row _ hf (Nat.le_of_ble_eq_true hs.2)).andThen fun h1 => (deepSt_pre h1).andThen fun h2 => growL_pre k _ _ _ h2
   ·
    exact growL_pre k _ _ _ hf
  ·
   exact growL_pre k _ _ _ hf
  ·
   exact .refl hf
noncomputable def isApp : Op → Bool
 | .call ⟨.builtin .append, _, _⟩ => true
 | _ => false
noncomputable def isMake : Op → Bool
 | .makeSlice _ _ _ => true
 | _ => false
noncomputable def xargs (isX : FuncId → Bool) : List Oper → List Nat
 | [] => []
 | o :: os => match o.op with
  | .call ⟨.value (.func f), args, _⟩ => if isX f = true then tmpsOf args.toList ++ xargs isX os else xargs isX os
  | _ => xargs isX os
noncomputable def guessOp : Op → Bool
 | .move _ | .assign _ | .load _ (.tmp _) | .nilCheck _ | .slice _ _ _ _ _ | .fieldAddr _ _ _ | .field _ _ _ | .indexAddr _ _ _ | .extract _ _ => true
 | _ => false
noncomputable def learn (P : Program) (F : Fl) (st : St) : List Oper → Env → Env
 | [], e => e
 | o :: os, e => match guessOp o.op with
  | true => match doOp P F e st o.op fun v _ => some v with
   | some v => putK e o.dst true v fun e => learn P F st os e
   | none => learn P F st os e
  | false => learn P F st os e
noncomputable def xids (P : Program) (F : Fl) (isX : FuncId → Bool) (ops : List Oper) (e : Env) (st : St) : List Nat :=
 (xargs isX ops).flatMap fun t => idsA 60 (argV (learn P F st ops e) (.tmp t))
noncomputable def givenB (d : Option Nat) (os : List Oper) : Bool :=
 match d with
 | some s => os.any fun o => match o.op with | .call ⟨_, args, _⟩ => (tmpsOf args.toList).any (Nat.beq s) | _ => false
 | none => false
noncomputable def marksB : List Oper → Env → Env
 | [], e => e
 | o :: os, e => match o.op with
  | .buildSlice t _ _ => if givenB o.dst os = true then marksB os e else marksB os ((1000000 + t, false, .junk) :: e)
  | _ => marksB os e
noncomputable def seedsA (F : Fl) (all : List Oper) (le : Env) : List Oper → Env → St → Env × St
 | [], e, st => (e, st)
 | o :: os, e, st => match o.op with
  | .call ⟨.builtin .append, args, _⟩ => match args.toList with
   | [.tmp s, _] => match all.find? (fun p => match p.dst with | some d => Nat.beq d s | none => false) with
    | some p => match p.op with
     | .load _ (.tmp a) => match argV le (.tmp a) with
      | .box l i => if Nat.ble F.b l = true then seedsA F all le os e (seedAt st l i) else seedsA F all le os e st
      | _ => seedsA F all le os e st
     | .move (.tmp u) => seedsA F all le os (seedE u e) st
     | _ => seedsA F all le os e st
    | none => seedsA F all le os (seedE s e) st
   | _ => seedsA F all le os e st
  | _ => seedsA F all le os e st
theorem conv_seedsA (w0 : World) (F : Fl) (all : List Oper) (le : Env) : ∀ (os : List Oper) (e : Env) (st : St), ConvE w0 e st (seedsA F all le os e st).1 (seedsA F all le os e st).2
 | [], e, st => .refl _ _ _
 | o :: os, e, st => by
  unfold seedsA
  split
  ·
   split
   ·
    split
    ·
     split
     ·
      split
      ·
       split
       ·
        exact (conv_seedAt w0 e st _ _).trans (conv_seedsA w0 F all le os _ _)
       ·
        exact conv_seedsA w0 F all le os _ _
      ·
       exact conv_seedsA w0 F all le os _ _
     ·
      exact (conv_seedE w0 e st _).trans (conv_seedsA w0 F all le os _ _)
     ·
      exact conv_seedsA w0 F all le os _ _
    ·
     exact (conv_seedE w0 e st _).trans (conv_seedsA w0 F all le os _ _)
   ·
    exact conv_seedsA w0 F all le os _ _
  ·
   exact conv_seedsA w0 F all le os _ _
theorem seedAt_pre {F : Fl} {st : St} {l i : Nat} (hf : Fits F st) (hl : F.b ≤ l) : Pre F st (seedAt st l i) := by
 unfold seedAt
 split
 ·
  split
  ·
   exact .box _ hf hl
  ·
   exact .refl hf
 ·
  exact .refl hf
theorem seedsA_pre {F : Fl} (all : List Oper) (le : Env) : ∀ (os : List Oper) (e : Env) (st : St), Fits F st → Pre F st (seedsA F all le os e st).2
 | [], e, st, hf => .refl hf
 | o :: os, e, st, hf => by
  unfold seedsA
  split
  ·
   split
   ·
    split
    ·
     split
     ·
      split
      ·
       split
       ·
        rename_i hl
        have p := seedAt_pre (i := by assumption) hf (Nat.le_of_ble_eq_true hl)
        exact p.trans (seedsA_pre all le os _ _ p.2)
       ·
        exact seedsA_pre all le os _ _ hf
      ·
       exact seedsA_pre all le os _ _ hf
     ·
      exact seedsA_pre all le os _ _ hf
     ·
      exact seedsA_pre all le os _ _ hf
    ·
     exact seedsA_pre all le os _ _ hf
   ·
    exact seedsA_pre all le os _ _ hf
  ·
   exact seedsA_pre all le os _ _ hf
noncomputable def pairK' (x : Env × St) : Env × St := match x with | (e, s) => fE e fun e => fSt s fun s => (e, s)
theorem pairK'_eq (x : Env × St) : pairK' x = x := by
 obtain ⟨e, s⟩ := x
 show (fE e fun e => fSt s fun s => (e, s)) = _
 rw [fE_eq, fSt_eq]
noncomputable def preS (P : Program) (F : Fl) (ops : List Oper) (e : Env) (st : St) : Env × St := if ops.any (fun o => isApp o.op) = true then pairK' (seedsA F ops (learn P F st ops e) ops e st) else (e, st)
noncomputable def preX (P : Program) (F : Fl) (C : Cfg) (ops : List Oper) (x : Env × St) : Env × St := if (xargs C.isX ops).isEmpty = true then x else freezeL F (xids P F C.isX ops) 20 x.1 x.2
noncomputable def postG (F : Fl) (ops : List Oper) (n0 : Nat) (e : Env) (st : St) : Env × St := if ops.any (fun o => isMake o.op) = true then growL F (st.rows.length - n0) n0 e st else (e, st)
noncomputable def bitB (m s : Nat) : Bool := Nat.beq (Nat.land (Nat.shiftRight m s) 1) 1
noncomputable def fltP (m : Nat) (s : Nat) : Bool := Bool.rec (motive := fun _ => Bool) (bitB m s) (Nat.blt s 1000000) (Nat.beq m 0)
noncomputable def fltE (m : Nat) : Env → Env
 | [] => []
 | x :: e => if fltP m x.1 = true then x :: fltE m e else fltE m e
theorem look_fltE (m : Nat) (e : Env) : ∀ (s : Nat), look (fltE m e) s = if fltP m s = true then look e s else none := by
 induction e with
 | nil => intro s; split <;> rfl
 | cons x e ih =>
  obtain ⟨k, c, v⟩ := x
  intro s
  rw [fltE]
  by_cases hk : fltP m k = true
  ·
   rw [if_pos hk, look]
   by_cases q : k = s
   ·
    subst q; rw [if_pos rfl, if_pos hk, look, if_pos rfl]
   ·
    rw [if_neg q, ih s, look, if_neg q]
  ·
   rw [if_neg hk, ih s]
   by_cases hs : fltP m s = true
   ·
    rw [if_pos hs, if_pos hs, look, if_neg (fun q : k = s => hk (q ▸ hs))]
   ·
    rw [if_neg hs, if_neg hs]
theorem sub_fltE (m : Nat) (e : Env) : subE (fltE m e) e := fun s x h => by
 rw [look_fltE] at h
 split at h
 ·
  exact h
 ·
  cases h
noncomputable def fltK {β : Type} (m : Nat) (e : Env) (k : Env → β) : β :=
 List.rec (motive := fun _ => (Env → β) → β) (fun k => k []) (fun x _ ih k => Prod.rec (motive := fun _ => β) (fun s p => Bool.rec (motive := fun _ => β) (ih k) (ih fun e => k ((s, p) :: e)) (fltP m s)) x) e k
theorem fltK_eq {β : Type} (m : Nat) : ∀ (e : Env) (k : Env → β), fltK m e k = k (fltE m e)
 | [], k => rfl
 | (s, c, v) :: e, k => by
  show (Bool.rec (motive := fun _ => β) (fltK m e k) (fltK m e fun e => k ((s, c, v) :: e)) (fltP m s) : β) = _
  rw [fltE]
  cases hq : fltP m s with
  | true => rw [if_pos rfl]; exact fltK_eq m e _
  | false => rw [if_neg (by decide)]; exact fltK_eq m e _
noncomputable def isMark : Op → Bool
 | .buildSlice _ _ _ => true
 | .load _ (.global _) => true
 | .call ⟨.value _, _, _⟩ => true
 | _ => false
noncomputable def dropsR (ops : List Oper) : Bool := Nat.ble 3 ops.length || ops.any fun o => isMark o.op
noncomputable def unmarkG (m : Nat) (ops : List Oper) (e : Env) : Env := if dropsR ops = true then fltE m e else e
theorem conv_unmarkG (w0 : World) (m : Nat) (ops : List Oper) (e : Env) (st : St) : ConvE w0 e st (unmarkG m ops e) st := by
 unfold unmarkG
 split
 ·
  exact fun n M a w h => ⟨M, .refl _ _ _, h.sub (sub_fltE m e)⟩
 ·
  exact .refl _ _ _
theorem conv_preS (w0 : World) (P : Program) (F : Fl) (ops : List Oper) (e : Env) (st : St) : ConvE w0 e st (preS P F ops e st).1 (preS P F ops e st).2 := by
 unfold preS
 split
 ·
  rw [pairK'_eq]; exact conv_seedsA w0 F _ _ _ e st
 ·
  exact .refl _ _ _
theorem conv_preX (w0 : World) (P : Program) (F : Fl) (C : Cfg) (ops : List Oper) (x : Env × St) : ConvE w0 x.1 x.2 (preX P F C ops x).1 (preX P F C ops x).2 := by
 unfold preX
 split
 ·
  exact .refl _ _ _
 ·
  exact conv_freezeL w0 F _ _ _ _
theorem conv_postG (w0 : World) (F : Fl) (ops : List Oper) (n0 : Nat) (e : Env) (st : St) : ConvE w0 e st (postG F ops n0 e st).1 (postG F ops n0 e st).2 := by
 unfold postG
 split
 ·
  exact conv_growL w0 F _ _ _ _
 ·
  exact .refl _ _ _
theorem preS_pre {P : Program} {F : Fl} {ops : List Oper} {e : Env} {st : St} (hf : Fits F st) : Pre F st (preS P F ops e st).2 := by
 unfold preS
 split
 ·
  rw [pairK'_eq]; exact seedsA_pre _ _ _ _ _ hf
 ·
  exact .refl hf
theorem preX_pre {P : Program} {F : Fl} {C : Cfg} {ops : List Oper} {x : Env × St} (hf : Fits F x.2) : Pre F x.2 (preX P F C ops x).2 := by
 unfold preX
 split
 ·
  exact .refl hf
 ·
  exact freezeL_pre _ _ _ _ hf
theorem postG_pre {F : Fl} {ops : List Oper} {n0 : Nat} {e : Env} {st : St} (hf : Fits F st) : Pre F st (postG F ops n0 e st).2 := by
 unfold postG
 split
 ·
  exact growL_pre _ _ _ _ hf
 ·
  exact .refl hf
noncomputable def dedE (m : Nat) : Env → Nat → Env
 | [], _ => []
 | x :: e, seen => if bitB m x.1 = true ∧ seen.testBit x.1 = false then x :: dedE m e (seen ||| 2 ^ x.1) else dedE m e seen
theorem look_dedE (m : Nat) : ∀ (e : Env) (seen s : Nat) (x : Bool × AV), look (dedE m e seen) s = some x → seen.testBit s = false ∧ bitB m s = true ∧ look e s = some x
 | [], seen, s, x, h => by cases h
 | (k, c, v) :: e, seen, s, x, h => by
  rw [dedE] at h
  split at h
  ·
   rename_i hk
   rw [look] at h
   split at h
   ·
    rename_i q
    have q : k = s := q
    subst q
    refine ⟨hk.2, hk.1, ?_⟩
    rw [look, if_pos rfl]
    exact h
   ·
    rename_i q
    have q : k ≠ s := q
    obtain ⟨h1, h2, h3⟩ := look_dedE m e _ s x h
    rw [Nat.testBit_or, Bool.or_eq_false_iff] at h1
    refine ⟨h1.1, h2, ?_⟩
    rw [look, if_neg q]; exact h3
  ·
   rename_i hk
   obtain ⟨h1, h2, h3⟩ := look_dedE m e _ s x h
   refine ⟨h1, h2, ?_⟩
   by_cases q : k = s
   ·
    subst q; exact absurd ⟨h2, h1⟩ hk
   ·
    rw [look, if_neg q]; exact h3
noncomputable def compE (m : Nat) (e : Env) : Env := if Nat.beq m 0 = true then e else dedE m e 0
theorem sub_compE (m : Nat) (e : Env) : subE (compE m e) e := by
 unfold compE
 split
 ·
  exact fun _ _ h => h
 ·
  exact fun s x h => (look_dedE m e 0 s x h).2.2
abbrev CallF := AV → List AV → St → Option (AV × St)
noncomputable def isImC (C : Cfg) : Op → Bool
 | .call ⟨.value (.func f), _, _⟩ => C.im f
 | _ => false
noncomputable def marksC (C : Cfg) (l : List Oper) (e : Env) : Env := if l.any (fun o => isImC C o.op) = true then marksG C.gl l ((1000000 + 0, false, .junk) :: e) else marksG C.gl l e
noncomputable def isTmpC : Op → Bool
 | .call ⟨.value (.tmp _), _, _⟩ => true
 | _ => false
noncomputable def headG (P : Program) (C : Cfg) (al tc : Bool) : List Oper → Nat
 | [] => 0
 | o :: os => if (effOp o.op && !(al && isAlloc P o)) || isImC C o.op || (tc && isTmpC o.op) then 0 else headG P C al tc os + 1
noncomputable def allocsA (P : Program) (l : List Oper) (h : Nat) : List Nat := (List.range h).filter fun i => match l[i]? with | some o => isAlloc P o | none => false
noncomputable def dstsA (l : List Oper) (ef : List Nat) : List Nat := ef.filterMap fun i => (l[i]?).bind (·.dst)
noncomputable def dropE (ss : List Nat) (e : Env) : Env := if ss.isEmpty then e else keepL ((slotsE e []).filter fun s => !ss.any (Nat.beq s)) e
theorem sub_dropE (ss : List Nat) (e : Env) : subE (dropE ss e) e := by
 unfold dropE
 split
 ·
  exact fun _ _ h => h
 ·
  exact sub_keepL _ _
noncomputable def okDA (P : Program) (n : Nat) (C : Cfg) (l : List Oper) (h : Nat) (ef : List Nat) (e : Env) : Bool := drawB l h && freeB P n l h ef (marksB l (marksC C l (dropE (dstsA l ef) e)))
noncomputable def runDA (P : Program) (n : Nat) (F : Fl) (C : Cfg) (call0 call : CallF) (l : List Oper) (h : Nat) (ef : List Nat) (e : Env) (st : St) : Option (Env × St) :=
 if okDA P n C l h ef e = true then
  fE (marksB l (marksC C l (dropE (dstsA l ef) e))) fun e0 => match runR P n F true l C.gl call0 ((skipE ef 0 l).take h) e0 st with
  | some (e1, s1) => match adoptE P n l ef e1 s1 with
   | some (e2, s2) => fE e2 fun e2 => fSt s2 fun s2 => runR P n F false l C.gl call (l.drop h) e2 s2
   | none => none
  | none => none
 else none
noncomputable def effA (C : Cfg) (l : List Oper) : Nat → List Oper → List Nat → List Nat
 | _, [], _ => []
 | i, o :: os, ds => if effOp o.op || isImC C o.op || (looks l o).any (fun s => ds.any (Nat.beq s)) then i :: effA C l (i + 1) os (match o.dst with | some d => d :: ds | none => ds) else effA C l (i + 1) os ds
noncomputable def asks (C : Cfg) : Op → Bool
 | .buildSlice _ _ _ => true
 | .load _ (.global _) => true
 | .call ⟨.value (.func f), _, _⟩ => C.im f
 | _ => false
noncomputable def mkE (C : Cfg) (l : List Oper) (e : Env) : Env := Bool.rec (motive := fun _ => Env) e (marksB l (marksC C l e)) (l.any fun o => asks C o.op)
theorem mkE_eq (C : Cfg) (l : List Oper) (e : Env) : mkE C l e = e ∨ mkE C l e = marksB l (marksC C l e) := by
 unfold mkE
 cases l.any fun o => asks C o.op
 ·
  exact .inl rfl
 ·
  exact .inr rfl
noncomputable def runG (P : Program) (n : Nat) (F : Fl) (C : Cfg) (call0 call : CallF) (l : List Oper) (draw : Bool) (e : Env) (st : St) : Option (Env × St) :=
 match draw with
 | false => match litOf P n l with
  | some (mt, xs, rest) => runR P n F false l C.gl call rest (putE e (some mt) true (.tab xs)) st
  | none => runR P n F false l C.gl call l (mkE C l e) st
 | true =>
  if okDA P n C l (headG P C true true l) (allocsA P l (headG P C true true l)) e = true then runDA P n F C call0 call l (headG P C true true l) (allocsA P l (headG P C true true l)) e st
  else if okDA P n C l (headG P C true false l) (allocsA P l (headG P C true false l)) e = true then runDA P n F C call0 call l (headG P C true false l) (allocsA P l (headG P C true false l)) e st
  else if okDA P n C l (headG P C false false l) [] e = true then runDA P n F C call0 call l (headG P C false false l) [] e st
  else runA P n F C.gl call0 call l (effA C l 0 l []) (marksC C l e) st
noncomputable def pairK {β : Type} (x : Env × St) (k : Env → St → β) : β := match x with | (e, s) => k e s
theorem pairK_eq {β : Type} (x : Env × St) (k : Env → St → β) : pairK x k = k x.1 x.2 := rfl
noncomputable def unmK {β : Type} (m : Nat) (ops : List Oper) (e : Env) (k : Env → β) : β := Bool.rec (motive := fun _ => β) (k e) (fltK m e k) (dropsR ops)
theorem unmK_eq {β : Type} (m : Nat) (ops : List Oper) (e : Env) (k : Env → β) : unmK m ops e k = k (unmarkG m ops e) := by
 unfold unmK unmarkG
 cases hq : dropsR ops with
 | true => rw [if_pos rfl]; exact fltK_eq m e k
 | false => rw [if_neg (by decide)]
noncomputable def dedK {β : Type} (m : Nat) (e : Env) (seen : Nat) (k : Env → β) : β :=
 List.rec (motive := fun _ => Nat → (Env → β) → β) (fun _ k => k []) (fun x _ ih seen k => Prod.rec (motive := fun _ => β) (fun s p => Bool.rec (motive := fun _ => β) (ih seen k) (fN (Nat.lor seen (Nat.pow 2 s)) fun seen => ih seen fun e => k ((s, p) :: e)) (bitB m s && !Nat.testBit seen s)) x) e seen k
theorem dedK_eq {β : Type} (m : Nat) : ∀ (e : Env) (seen : Nat) (k : Env → β), dedK m e seen k = k (dedE m e seen)
 | [], seen, k => rfl
 | (s, p) :: e, seen, k => by
  show (Bool.rec (motive := fun _ => β) (dedK m e seen k) (fN (Nat.lor seen (Nat.pow 2 s)) fun seen => dedK m e seen fun e => k ((s, p) :: e)) (bitB m s && !Nat.testBit seen s) : β) = _
  rw [dedE]
  by_cases hq : bitB m s = true ∧ seen.testBit s = false
  ·
   rw [if_pos hq, hq.1, hq.2]
   show fN (Nat.lor seen (Nat.pow 2 s)) (fun seen => dedK m e seen fun e => k ((s, p) :: e)) = _
   rw [fN_eq]
   exact dedK_eq m e _ _
  ·
   rw [if_neg hq]
   have : (bitB m s && !Nat.testBit seen s) = false := by
    cases h1 : bitB m s with
    | false => rfl
    | true => cases h2 : Nat.testBit seen s with
     | true => rfl
     | false => exact absurd ⟨h1, h2⟩ hq
   rw [this]
   exact dedK_eq m e _ _
noncomputable def compK {β : Type} (m : Nat) (e : Env) (k : Env → β) : β := Bool.rec (motive := fun _ => β) (dedK m e 0 k) (k e) (Nat.beq m 0)
theorem compK_eq {β : Type} (m : Nat) (e : Env) (k : Env → β) : compK m e k = k (compE m e) := by
 unfold compK compE
 cases hq : Nat.beq m 0 with
 | true => rw [if_pos rfl]
 | false => rw [if_neg (by decide)]; exact dedK_eq m e 0 k
noncomputable def isBusy : LoopState → Bool
 | .busy => true
 | _ => false
noncomputable def isReady : LoopState → Bool
 | .ready => true
 | _ => false
noncomputable def runS (P : Program) (n : Nat) (rf : Bool) (F : Fl) (C : Cfg) (call0 call : CallF) : Nat → Code → Env → St → Option (Exit × Env × St)
 | 0, _, _, _ => none
 | k + 1, c, e, st => match c with
  | .skip => some (.normal, e, st)
  | .region _ ops draw => pairK (preS P F ops.toList e st) fun e1 s1 => pairK (preX P F C ops.toList (e1, s1)) fun e2 s2 => match runG P n F C call0 call ops.toList draw e2 s2 with
   | some (e', s') => unmK C.m ops.toList e' fun e' => pairK (postG F ops.toList st.rows.length e' s') fun e' s' => some (.normal, e', s')
   | none => none
  | .seq a b => match runS P n rf F C call0 call k a e st with
   | some (.normal, e', s') => runS P n rf F C call0 call k b e' s'
   | r => r
  | .cond o a b => argK e o fun v => match v with
    | .val (.bool true) => runS P n rf F C call0 call k a e st
    | .val (.bool false) => runS P n rf F C call0 call k b e st
    | _ => none
  | .block id b => match runS P n rf F C call0 call k b e st with
   | some (.exit i, e', s') => if i = id then some (.normal, e', s') else some (.exit i, e', s')
   | r => r
  | .loop b => match compK C.m e fun e => runS P n rf F C call0 call k b e st with
   | some (.normal, e', s') => runS P n rf F C call0 call k (.loop b) e' s'
   | r => r
  | .rangeFunc g ps asg body => if rf = true ∧ argOk e true g then match argV e g with
    | .clo gf caps => match fSt (st.push ⟨e, n, ps, asg, body, .ready, none, none⟩) fun s0 => lenK st.loops fun nl => call (.clo gf caps) [.yld nl] s0 with
     | some (_, s3) => match s3.loops[st.loops.length]? with
      | some la => if la.keys.isNone = true ∧ isBusy la.st = false then match la.pend with
        | none => fSt { s3 with loops := s3.loops.set st.loops.length (setL la .exhausted la.pend) } fun s4 => some (.normal, e, s4)
        | some .ret => fSt { s3 with loops := s3.loops.set st.loops.length (setL la .exhausted la.pend) } fun s4 => some (.ret, e, s4)
        | some (.exit id) => fSt { s3 with loops := s3.loops.set st.loops.length (setL la .exhausted la.pend) } fun s4 => some (.exit id, e, s4)
        | _ => none
       else none
      | none => none
     | none => none
    | _ => none
   else none
  | .exit id => some (.exit id, e, st)
  | .ret => some (.ret, e, st)
  | _ => none
structure SX where
 P : Program
 n : Nat
 rf : Bool
 F : Fl
 C : Cfg
 call0 : CallF
 call : CallF
abbrev QR := Option (Exit × Env × St)
abbrev QK := SX → (Code → Env → St → QR) → Env → St → QR
noncomputable def qSkip : QK := fun X ih e st => some (.normal, e, st)
noncomputable def nrmK (e : Env) (s : St) : QR := some (.normal, e, s)
noncomputable def regQ3 (F : Fl) (ops : List Oper) (nr : Nat) (s : St) (e : Env) : QR := pairK (postG F ops nr e s) nrmK
noncomputable def regQ2 (F : Fl) (m : Nat) (ops : List Oper) (nr : Nat) (x : Option (Env × St)) : QR := match x with
 | some (e, s) => unmK m ops e (regQ3 F ops nr s)
 | none => none
noncomputable def regQ1 (P : Program) (n : Nat) (F : Fl) (C : Cfg) (call0 call : CallF) (ops : List Oper) (draw : Bool) (nr : Nat) (e : Env) (s : St) : QR := regQ2 F C.m ops nr (runG P n F C call0 call ops draw e s)
noncomputable def regQ0 (P : Program) (n : Nat) (F : Fl) (C : Cfg) (call0 call : CallF) (ops : List Oper) (draw : Bool) (nr : Nat) (e : Env) (s : St) : QR := pairK (preX P F C ops (e, s)) (regQ1 P n F C call0 call ops draw nr)
noncomputable def regQ (ops : List Oper) (draw : Bool) (e : Env) (st : St) (P : Program) (n : Nat) (rf : Bool) (F : Fl) (C : Cfg) (call0 call : CallF) : QR := pairK (preS P F ops e st) (regQ0 P n F C call0 call ops draw st.rows.length)
noncomputable def qRegion (id : Nat) (ops : Array Oper) (draw : Bool) : QK := fun X ih e st => SX.rec (motive := fun _ => QR) (regQ ops.toList draw e st) X
noncomputable def seqK (k : Env → St → QR) (x : QR) : QR := match x with
 | some (.normal, e, s) => k e s
 | r => r
noncomputable def qSeq (a b : Code) : QK := fun X ih e st => seqK (ih b) (ih a e st)
noncomputable def cndK (x y : QR) (v : AV) : QR := match v with
 | .val (.bool true) => x
 | .val (.bool false) => y
 | _ => none
noncomputable def qCond (o : Operand) (a b : Code) : QK := fun X ih e st => argK e o (cndK (ih a e st) (ih b e st))
noncomputable def blkK (id : Nat) (x : QR) : QR := match x with
 | some (.exit i, e, s) => if i = id then some (.normal, e, s) else some (.exit i, e, s)
 | r => r
noncomputable def qBlock (id : Nat) (b : Code) : QK := fun X ih e st => blkK id (ih b e st)
noncomputable def qLoop (b : Code) : QK := fun X ih e st => seqK (ih (.loop b)) (compK X.C.m e fun e => ih b e st)
noncomputable def qRange (g : Operand) (ps : Array Tmp) (asg body : Code) : QK := fun X ih e st =>
 if X.rf = true ∧ argOk e true g then match argV e g with
    | .clo gf caps => match fSt (st.push ⟨e, X.n, ps, asg, body, .ready, none, none⟩) fun s0 => lenK st.loops fun nl => X.call (.clo gf caps) [.yld nl] s0 with
     | some (_, s3) => match s3.loops[st.loops.length]? with
      | some la => if la.keys.isNone = true ∧ isBusy la.st = false then match la.pend with
        | none => fSt { s3 with loops := s3.loops.set st.loops.length (setL la .exhausted la.pend) } fun s4 => some (.normal, e, s4)
        | some .ret => fSt { s3 with loops := s3.loops.set st.loops.length (setL la .exhausted la.pend) } fun s4 => some (.ret, e, s4)
        | some (.exit id) => fSt { s3 with loops := s3.loops.set st.loops.length (setL la .exhausted la.pend) } fun s4 => some (.exit id, e, s4)
        | _ => none
       else none
      | none => none
     | none => none
    | _ => none
   else none
noncomputable def qExit (id : Nat) : QK := fun X ih e st => some (.exit id, e, st)
noncomputable def qRet : QK := fun X ih e st => some (.ret, e, st)
noncomputable def qNone : QK := fun X ih e st => none
noncomputable def stepQ (c : Code) : QK := Code.casesOn (motive := fun _ => QK) c qSkip qRegion qSeq qCond qBlock qLoop qRange qExit (fun _ => qNone) (fun _ => qNone) (fun _ => qNone) qRet (fun _ => qNone)
noncomputable def runQ (X : SX) (k : Nat) : Code → Env → St → QR := Nat.rec (motive := fun _ => Code → Env → St → QR) (fun _ _ _ => none) (fun _ ih c e st => stepQ c X ih e st) k
theorem runQ_eq (X : SX) : ∀ (k : Nat) (c : Code) (e : Env) (st : St), runQ X k c e st = runS X.P X.n X.rf X.F X.C X.call0 X.call k c e st
 | 0, c, e, st => rfl
 | k + 1, c, e, st => by
  have ih : runQ X k = runS X.P X.n X.rf X.F X.C X.call0 X.call k := by funext c e st; exact runQ_eq X k c e st
  show stepQ c X (runQ X k) e st = _
  rw [ih]
  cases c with
  | skip => rfl
  | region id ops draw =>
   simp only [runS, pairK_eq]
   obtain ⟨P, n, rf, F, C, call0, call⟩ := X
   show pairK (preS P F ops.toList e st) (regQ0 P n F C call0 call ops.toList draw st.rows.length) = _
   rw [pairK_eq]
   unfold regQ0
   rw [pairK_eq]
   unfold regQ1 regQ2
   rfl
  | seq a b =>
   simp only [runS]
   show seqK _ (runS _ _ _ _ _ _ _ k a e st) = _
   unfold seqK
   rfl
  | cond o a b => rfl
  | block id b => rfl
  | loop b => rfl
  | rangeFunc g ps asg body => rfl
  | exit id => rfl
  | ret => rfl
  | _ => rfl
noncomputable def runQ' (P : Program) (n : Nat) (rf : Bool) (F : Fl) (C : Cfg) (call0 call : CallF) (k : Nat) (c : Code) (e : Env) (st : St) : QR := runQ ⟨P, n, rf, F, C, call0, call⟩ k c e st
theorem runQ'_eq (P : Program) (n : Nat) (rf : Bool) (F : Fl) (C : Cfg) (call0 call : CallF) (k : Nat) (c : Code) (e : Env) (st : St) : runQ' P n rf F C call0 call k c e st = runS P n rf F C call0 call k c e st := runQ_eq _ _ _ _ _
section
variable {P : Program} {w0 : World} {n : Nat} {F : Fl} {C : Cfg} {call0 call : CallF} {M0 : Mem} {W0 : World} {ro : Option Nat}
theorem awp_marksB (hn : n ≤ 1000000) {Q : AQ} {c : Code} {st : St} : ∀ (os : List Oper) (e : Env), awp P w0 n M0 W0 ro c Q (marksB os e) st → awp P w0 n M0 W0 ro c Q e st
 | [], e, h => h
 | o :: os, e, h => by
  unfold marksB at h
  split at h
  ·
   split at h
   ·
    exact awp_marksB hn os _ h
   ·
    exact awp_mark _ hn (awp_marksB hn os _ h)
  ·
   exact awp_marksB hn os _ h
theorem awp_marksC (hn : n ≤ 1000000) {Q : AQ} {c : Code} {st : St} (l : List Oper) (e : Env) (h : awp P w0 n M0 W0 ro c Q (marksC C l e) st) : awp P w0 n M0 W0 ro c Q e st := by
 unfold marksC at h
 split at h
 ·
  exact awp_mark _ hn (awp_marksG hn l _ h)
 ·
  exact awp_marksG hn l _ h
noncomputable def KeepC (F : Fl) (call : CallF) : Prop := ∀ fv args st v st', Fits F st → call fv args st = some (v, st') → Pre F st st'
noncomputable def HeadC (call : CallF) : Prop := ∀ fv args st v st', call fv args st = some (v, st') → st' = st
theorem HeadC.keep {call : CallF} (h : HeadC call) (F : Fl) : KeepC F call := fun _ _ _ _ _ hf q => .of hf (h _ _ _ _ _ q)
theorem adoptE_pre {l : List Oper} : ∀ (is : List Nat) (e : Env) (st : St) (e2 : Env) (s2 : St), Fits F st → adoptE P n l is e st = some (e2, s2) → Pre F st s2
 | [], e, st, e2, s2, hf, h => by cases h; exact .refl hf
 | i :: is, e, st, e2, s2, hf, h => by
  simp only [adoptE] at h
  split at h
  ·
   split at h
   ·
    split at h
    ·
     split at h
     ·
      exact (Pre.boxes _ hf).andThen fun h1 => adoptE_pre is _ _ _ _ h1 h
     ·
      cases h
    ·
     cases h
   ·
    cases h
  ·
   cases h
theorem runDA_pre (h0 : HeadC call0) (h1 : KeepC F call) {l : List Oper} {hh : Nat} {ef : List Nat} {e : Env} {st : St} {e2 : Env} {st' : St} (hf : Fits F st) (h : runDA P n F C call0 call l hh ef e st = some (e2, st')) : Pre F st st' := by
 unfold runDA at h
 split at h
 ·
  rw [fE_eq] at h
  split at h
  ·
   rename_i e1 s1 q
   have q1 := runR_pre (h0.keep F) _ _ _ _ _ hf q
   split at h
   ·
    rename_i had
    rw [fE_eq, fSt_eq] at h
    have q2 := q1.trans (adoptE_pre _ _ _ _ _ q1.2 had)
    exact q2.trans (runR_pre h1 _ _ _ _ _ q2.2 h)
   ·
    cases h
  ·
   cases h
 ·
  cases h
theorem stepA_pre (h1 : KeepC F call) {l : List Oper} {o : Oper} {ev : Env} {s : St} {v : AV} {s' : St} (hf : Fits F s) (h : stepA P l call F o ev s = some (v, s')) : Pre F s s' := by
 unfold stepA at h
 split at h
 ·
  rw [viewK_eq] at h
  obtain ⟨_, h2⟩ := argK_spec h
  obtain ⟨_, h4⟩ := argsK_spec _ _ h2
  exact h1 _ _ _ _ _ hf h4
 ·
  rw [viewK_eq] at h
  obtain ⟨ha, _, h⟩ := doOp_spec h
  have h := Option.some.inj h
  have h2 : (evOp P (view true l o ev) true s o.op).2.2 = s' := congrArg Prod.snd h
  rw [← h2]
  exact evOp_pre hf ha
theorem chainA_pre (h1 : KeepC F call) {l : List Oper} {gl : TypeId → Nat → Option AV} {ms ef : List Nat} {e1 : Env} {e2 : Env} {s2 : St} : ∀ (is dn : List Nat) (ev : Env) (s : St), Fits F s → chainA P n F gl call0 call l ms ef e1 is dn ev s = some (e2, s2) → Pre F s s2
 | [], dn, ev, s, hf, h => by
  simp only [chainA] at h
  split at h
  ·
   cases h; exact .refl hf
  ·
   cases h
 | i :: is, dn, ev, s, hf, h => by
  simp only [chainA] at h
  split at h
  ·
   split at h
   ·
    split at h
    ·
     split at h
     ·
      rename_i hs
      have q : Pre F s _ := stepA_pre h1 hf hs
      exact q.trans (chainA_pre h1 is _ _ _ q.2 h)
     ·
      cases h
    ·
     cases h
   ·
    cases h
  ·
   cases h
theorem runA_pre (h1 : KeepC F call) {l : List Oper} {gl : TypeId → Nat → Option AV} {ef : List Nat} {e : Env} {st : St} {e2 : Env} {st' : St} (hf : Fits F st) (h : runA P n F gl call0 call l ef e st = some (e2, st')) : Pre F st st' := by
 unfold runA at h
 split at h
 ·
  split at h
  ·
   exact chainA_pre h1 _ _ _ _ hf h
  ·
   cases h
 ·
  cases h
theorem runG_pre (h0 : HeadC call0) (h1 : KeepC F call) {l : List Oper} {draw : Bool} {e : Env} {st : St} {e2 : Env} {st' : St} (hf : Fits F st) (h : runG P n F C call0 call l draw e st = some (e2, st')) : Pre F st st' := by
 unfold runG at h
 split at h
 ·
  split at h
  ·
   exact runR_pre h1 _ _ _ _ _ hf h
  ·
   exact runR_pre h1 _ _ _ _ _ hf h
 ·
  split at h
  ·
   exact runDA_pre h0 h1 hf h
  ·
   split at h
   ·
    exact runDA_pre h0 h1 hf h
   ·
    split at h
    ·
     exact runDA_pre h0 h1 hf h
    ·
     exact runA_pre h1 hf h
theorem runS_pre (h0 : HeadC call0) (h1 : KeepC F call) {rf : Bool} : ∀ (k : Nat) (c : Code) (e : Env) (st : St) (x : Exit) (e' : Env) (st' : St), Fits F st → runS P n rf F C call0 call k c e st = some (x, e', st') → Pre F st st'
 | 0, _, _, _, _, _, _, _, h => by cases h
 | k + 1, c, e, st, x, e', st', hf, h => by
  have ih := runS_pre h0 h1 (rf := rf) k
  cases c with
  | skip => cases h; exact .refl hf
  | region id ops draw =>
   simp only [runS, pairK_eq] at h
   split at h
   rotate_left
   ·
    cases h
   rename_i e2 s2 h2
   rw [unmK_eq] at h
   cases h
   have p0 : Pre F st (preS P F ops.toList e st).2 := preS_pre hf
   have p1 := p0.trans (preX_pre (P := P) (C := C) (ops := ops.toList) p0.2)
   have p2 := p1.trans (runG_pre h0 h1 p1.2 h2)
   exact p2.trans (postG_pre p2.2)
  | seq a b =>
   simp only [runS] at h
   split at h
   ·
    rename_i e1 s1 q
    have q1 := ih _ _ _ _ _ _ hf q
    exact q1.trans (ih _ _ _ _ _ _ q1.2 h)
   ·
    exact ih _ _ _ _ _ _ hf h
  | cond o a b =>
   simp only [runS] at h
   obtain ⟨_, h⟩ := argK_spec h
   split at h
   ·
    exact ih _ _ _ _ _ _ hf h
   ·
    exact ih _ _ _ _ _ _ hf h
   ·
    cases h
  | block id b =>
   simp only [runS] at h
   split at h
   ·
    rename_i i e1 s1 q
    have q1 := ih _ _ _ _ _ _ hf q
    split at h
    ·
     cases h; exact q1
    ·
     cases h; exact q1
   ·
    exact ih _ _ _ _ _ _ hf h
  | loop b =>
   simp only [runS, compK_eq] at h
   split at h
   ·
    rename_i e1 s1 q
    have q1 := ih _ _ _ _ _ _ hf q
    exact q1.trans (ih _ _ _ _ _ _ q1.2 h)
   ·
    exact ih _ _ _ _ _ _ hf h
  | rangeFunc g ps asg body =>
   simp only [runS, fSt_eq, lenK_eq, setL_eq] at h
   split at h
   rotate_left
   ·
    cases h
   split at h
   rotate_left
   ·
    cases h
   split at h
   rotate_left
   ·
    cases h
   rename_i v s3 q
   have p0 : Pre F st (st.push ⟨e, n, ps, asg, body, .ready, none, none⟩) := .loops _ hf
   have p1 := h1 _ _ _ _ _ p0.2 q
   split at h
   rotate_left
   ·
    cases h
   split at h
   rotate_left
   ·
    cases h
   have p2 := fun la' => (p0.trans p1).trans (Pre.loop la' p1.2 hf.2.2)
   split at h <;> first | (cases h; exact p2 _) | cases h
  | exit id => cases h; exact .refl hf
  | ret => cases h; exact .refl hf
  | _ => cases h
noncomputable def CallOk (P : Program) (w0 : World) (call : CallF) : Prop := ∀ fv args st v st', call fv args st = some (v, st') → VCalls P w0 fv args st fun r s => r = v ∧ s = st'
theorem runG_sound (hm : P.follows .mixedOrders = true) (hn : n ≤ 1000000) (hH : HeadC call0) (hcall0 : CallOk P w0 call0) (hcall : CallOk P w0 call) (hgl : ∀ t g x, C.gl t g = some x → GlobR P w0 t g x)
  (l : List Oper) (draw : Bool) (id : Nat) (e : Env) (st : St) (e2 : Env) (st' : St) (h : runG P n F C call0 call l draw e st = some (e2, st')) : awp P w0 n M0 W0 ro (.region id l.toArray draw) (fun x e1 s1 => x = .normal ∧ e1 = e2 ∧ s1 = st') e st := by
 have drw : ∀ (hh : Nat) (ef : List Nat), ef.Nodup → runDA P n F C call0 call l hh ef e st = some (e2, st') → awp P w0 n M0 W0 ro (.region id l.toArray true) (fun x e1 s1 => x = .normal ∧ e1 = e2 ∧ s1 = st') e st := by
  intro hh ef hnd h1
  unfold runDA at h1
  split at h1
  rotate_left
  ·
   cases h1
  rename_i hB
  unfold okDA at hB
  rw [Bool.and_eq_true] at hB
  rw [fE_eq] at h1
  split at h1
  rotate_left
  ·
   cases h1
  rename_i e3 s3 h3
  split at h1
  rotate_left
  ·
   cases h1
  rename_i e4 s4 had
  rw [fE_eq, fSt_eq] at h1
  have sub : ∀ {e0 : Env}, subE e0 e → awp P w0 n M0 W0 ro (.region id l.toArray true) (fun x e1 s1 => x = .normal ∧ e1 = e2 ∧ s1 = st') e0 st → awp P w0 n M0 W0 ro (.region id l.toArray true) (fun x e1 s1 => x = .normal ∧ e1 = e2 ∧ s1 = st') e st :=
   fun hs h m M a w hr => h m M a w ⟨hr.rel.sub hs, hr.ext, hr.marks⟩
  refine sub (sub_dropE (dstsA l ef) e) (awp_marksC (C := C) hn l _ (awp_marksB hn l _ (awp_drawA hm hh ef (cntR ((skipE ef 0 l).take hh) + 1) (cntR (l.drop hh) + 1) hB.1 hB.2 hnd ?_)))
  refine runR_sound (K := fun e1 s1 => ∃ e2' s2', adoptE P n l ef e1 s1 = some (e2', s2') ∧ evK P w0 n false l (fun e2' s2 => Exit.normal = Exit.normal ∧ e2' = e2 ∧ s2 = st') (cntR (l.drop hh) + 1) (l.drop hh) e2' s2') (fun _ => hH) hcall0 hgl _ _ _ _ _ h3 ?_
  exact ⟨e4, s4, had, runR_sound (K := fun e' s' => Exit.normal = Exit.normal ∧ e' = e2 ∧ s' = st') (fun q => by cases q) hcall hgl _ _ _ _ _ h1 ⟨rfl, rfl, rfl⟩⟩
 have hal : ∀ h, (allocsA P l h).Nodup := fun h => List.filter_sublist.nodup List.nodup_range
 unfold runG at h
 split at h
 ·
  split at h
  ·
   rename_i mt xs rest hl
   refine awp_lit hl (cntR rest + 1) ?_
   exact runR_sound (K := fun e' s' => Exit.normal = Exit.normal ∧ e' = e2 ∧ s' = st') (fun q => by cases q) hcall hgl rest _ _ _ _ h ⟨rfl, rfl, rfl⟩
  ·
   have go : ∀ e', mkE C l e = e' → awp P w0 n M0 W0 ro (.region id l.toArray false) (fun x e1 s1 => x = .normal ∧ e1 = e2 ∧ s1 = st') e' st → awp P w0 n M0 W0 ro (.region id l.toArray false) (fun x e1 s1 => x = .normal ∧ e1 = e2 ∧ s1 = st') e st := by
    intro e' q h
    rcases mkE_eq C l e with q' | q'
    ·
     rw [q'] at q; subst q; exact h
    ·
     rw [q'] at q; subst q; exact awp_marksC (C := C) hn l e (awp_marksB hn l _ h)
   refine go _ rfl (awp_region0 (cntR l + 1) ?_)
   exact runR_sound (K := fun e' s' => Exit.normal = Exit.normal ∧ e' = e2 ∧ s' = st') (fun q => by cases q) hcall hgl l _ _ _ _ h ⟨rfl, rfl, rfl⟩
 ·
  split at h
  ·
   exact drw _ _ (hal _) h
  ·
   split at h
   ·
    exact drw _ _ (hal _) h
   ·
    split at h
    ·
     exact drw _ _ .nil h
    ·
     exact awp_marksC (C := C) hn l e (awp_runA hm hH hcall0 hcall hgl h ⟨rfl, rfl, rfl⟩)
theorem runS_sound (hm : P.follows .mixedOrders = true) (hn : n ≤ 1000000) (hH : HeadC call0) (hcall0 : CallOk P w0 call0) (hcall : CallOk P w0 call) (hgl : ∀ t g x, C.gl t g = some x → GlobR P w0 t g x) {rf : Bool} (hrf : rf = true → ro = none) :
  ∀ (k : Nat) (c : Code) (e : Env) (st : St) (x : Exit) (e' : Env) (st' : St) (Q : AQ), runS P n rf F C call0 call k c e st = some (x, e', st') → Q x e' st' → awp P w0 n M0 W0 ro c Q e st := by
 intro k
 induction k using Nat.strongRecOn with
 | _ k ih =>
 intro c e st x e' st' Q h hq
 cases k with
 | zero => cases h
 | succ k =>
 have ihk := ih k (Nat.lt_succ_self k)
 cases c with
 | skip => cases h; exact awp_skip hq
 | region id ops draw =>
  have e0 : ops = ops.toList.toArray := by simp
  rw [e0]
  simp only [runS, pairK_eq] at h
  split at h
  rotate_left
  ·
   cases h
  rename_i e2 s2 h2
  rw [unmK_eq] at h
  cases h
  refine awp_before (conv_preS w0 P F ops.toList e st) (awp_before (conv_preX w0 P F C ops.toList _) (awp_behind (runG_sound hm hn hH hcall0 hcall hgl ops.toList draw id _ _ e2 s2 h2) ?_))
  rintro x e1 s1 ⟨rfl, rfl, rfl⟩
  exact ⟨_, _, (conv_unmarkG w0 C.m ops.toList e1 s1).trans (conv_postG w0 F ops.toList st.rows.length _ s1), hq⟩
 | seq a b =>
  simp only [runS] at h
  refine awp_seq fun K hK => ?_
  split at h
  ·
   rename_i e1 s1 h1
   exact ihk a e st _ _ _ _ h1 (hK _ _ (ihk b _ _ _ _ _ _ h hq))
  ·
   rename_i hne
   refine ihk a e st _ _ _ _ h ?_
   cases x with
   | normal => exact absurd h (hne _ _)
   | _ => exact hq
 | cond o a b =>
  simp only [runS] at h
  obtain ⟨ho, h⟩ := argK_spec h
  split at h
  ·
   rename_i hv
   exact awp_cond true ho hv (fun _ => ihk a _ _ _ _ _ _ h hq) (fun q => by cases q)
  ·
   rename_i hv
   exact awp_cond false ho hv (fun q => by cases q) (fun _ => ihk b _ _ _ _ _ _ h hq)
  ·
   cases h
 | block id b =>
  simp only [runS] at h
  refine awp_block ?_
  split at h
  ·
   rename_i i e1 s1 h1
   split at h
   ·
    rename_i q
    cases h
    refine ihk b _ _ _ _ _ _ h1 ?_
    simp only [inBlockA]
    rw [if_pos q]; exact hq
   ·
    rename_i q
    cases h
    refine ihk b _ _ _ _ _ _ h1 ?_
    simp only [inBlockA]
    rw [if_neg q]; exact hq
  ·
   rename_i hne
   refine ihk b _ _ _ _ _ _ h ?_
   cases x with
   | exit i => exact absurd h (hne _ _ _)
   | _ => exact hq
 | loop b =>
  refine awp_loop (fun m e s => m ≤ k + 1 ∧ runS P n rf F C call0 call m (.loop b) e s = some (x, e', st')) (k + 1) ⟨Nat.le_refl _, h⟩ ?_
  rintro m e1 s1 ⟨hm1, h1⟩ K hK
  cases m with
  | zero => cases h1
  | succ m =>
   simp only [runS, compK_eq] at h1
   have ihm := ih m (by omega)
   refine fun m' M a w hr => (?_ : awp P w0 n M0 W0 ro b _ (compE C.m e1) s1) m' M a w ⟨hr.rel.sub (sub_compE C.m e1), hr.ext, hr.marks⟩
   split at h1
   ·
    rename_i e2 s2 h2
    exact ihm b _ _ _ _ _ _ h2 (hK m _ _ (Nat.lt_succ_self m) ⟨by omega, h1⟩)
   ·
    rename_i hne
    refine ihm b _ _ _ _ _ _ h1 ?_
    cases x with
    | normal => exact absurd h1 (hne _ _)
    | _ => exact hq
 | rangeFunc g ps asg body =>
  simp only [runS, fSt_eq, lenK_eq, setL_eq] at h
  split at h
  rotate_left
  ·
   cases h
  rename_i hg
  obtain rfl := hrf hg.1
  split at h
  rotate_left
  ·
   cases h
  rename_i gf caps hgv
  split at h
  rotate_left
  ·
   cases h
  rename_i v s3 hc
  have hv := hcall _ _ _ _ _ hc
  split at h
  rotate_left
  ·
   cases h
  rename_i la hla
  split at h
  rotate_left
  ·
   cases h
  rename_i hk
  have hk1 : la.keys = none := Option.isNone_iff_eq_none.1 hk.1
  have hk2 : la.st ≠ .busy := fun q => by have := hk.2; rw [q] at this; cases this
  have main := fun hq hex => awp_rangeX (M0 := M0) (W0 := W0) (Q := Q) hg.2 hgv (ACalls.mono hv fun _ _ q => q.2) hla hk1 hk2 hq hex
  split at h
  ·
   rename_i hp
   cases h
   refine main (fun ex q => ?_) ⟨.normal, by rw [hp]; rfl⟩
   rw [hp] at q
   cases ex <;> first | exact hq | cases q
  ·
   rename_i hp
   cases h
   refine main (fun ex q => ?_) ⟨.ret, by rw [hp]; rfl⟩
   rw [hp] at q
   cases ex <;> first | exact hq | cases q
  ·
   rename_i id hp
   cases h
   refine main (fun ex q => ?_) ⟨.exit id, by rw [hp]; rfl⟩
   rw [hp] at q
   cases ex <;> first | (cases q; done) | (cases q; exact hq)
  ·
   cases h
 | exit id => cases h; exact awp_exit hq
 | ret => cases h; exact awp_ret hq
 | _ => cases h
end
noncomputable def resA (P : Program) (e : Env) (st : St) : ResultVar → AV
 | .tmp t => argV e (.tmp t)
 | .cell t ty => (evOp P e true st (.load ty (.tmp t))).2.1
noncomputable def resIds (P : Program) (rs : List ResultVar) (e : Env) (st : St) : List Nat := rs.flatMap fun r => idsA 60 (resA P e st r)
noncomputable def resSl (rs : List ResultVar) : List Nat := rs.map fun r => match r with | .tmp t => t | .cell t _ => t
noncomputable def frzB (P : Program) (F : Fl) (rs : List ResultVar) (e : Env) (st : St) : Bool := !((resIds P rs e st).filter (Nat.ble F.r)).isEmpty
noncomputable def endS (P : Program) (F : Fl) (keep : Bool) (rs : List ResultVar) (e : Env) (st : St) : Env × St := if keep = true then (e, st) else fE (keepL (resSl rs) e) fun e => freezeL F (resIds P rs) 40 e st
theorem conv_endS (w0 : World) (P : Program) (F : Fl) (keep : Bool) (rs : List ResultVar) (e : Env) (st : St) : ConvE w0 e st (endS P F keep rs e st).1 (endS P F keep rs e st).2 := by
 unfold endS
 split
 ·
  exact .refl _ _ _
 ·
  rw [fE_eq]
  exact ConvE.trans (fun n M a w h => ⟨M, .refl _ _ _, h.sub (sub_keepL _ e)⟩) (conv_freezeL w0 F _ _ _ _)
theorem endS_pre {P : Program} {F : Fl} {keep : Bool} {rs : List ResultVar} {e : Env} {st : St} (hf : Fits F st) : Pre F st (endS P F keep rs e st).2 := by
 unfold endS
 split
 ·
  exact .refl hf
 ·
  rw [fE_eq]; exact freezeL_pre _ _ _ _ hf
noncomputable def keepM : List Bool := List.replicate 40 false
noncomputable def cutU (st : St) (r : AV) (s : St) : AV × St :=
 if Nat.ble st.boxes.length s.boxes.length && Nat.ble st.rows.length s.rows.length && Nat.ble st.loops.length s.loops.length && underB st.boxes.length st.rows.length st.loops.length 60 r && calmB st.boxes.length st.rows.length st.loops.length (s.cut st.boxes.length st.rows.length st.loops.length)
 then (r, s.cut st.boxes.length st.rows.length st.loops.length) else (r, s)
noncomputable def fQ {β : Type} (deepq : Bool) (v : AV) (k : AV → β) : β := match deepq with | true => fA 60 v k | false => fT v k
theorem fQ_eq {β : Type} (deepq : Bool) (v : AV) (k : AV → β) : fQ deepq v k = k v := by
 cases deepq
 ·
  exact fT_eq _ _
 ·
  exact fA_eq 60 v k
noncomputable def moreB {α : Type} (a b : List α) : Bool := lenK a fun n => lenK b fun m => Nat.ble (Nat.add n 40) m
noncomputable def cutQ (g : Bool) (st : St) (r : AV) (s : St) : AV × St := match g with | true => cutR st r s | false => (r, s)
noncomputable def cutV (g : Bool) (st : St) (r : AV) (s : St) : AV × St := match g with | true => cutU st r s | false => (r, s)
noncomputable def finK (deepq : Bool) (x : AV × St) : Option (AV × St) := match x with | (v, s) => fQ deepq v fun v => fSt s fun s => some (v, s)
theorem finK_eq (deepq : Bool) (x : AV × St) : finK deepq x = some x := by
 obtain ⟨v, s⟩ := x
 show (fQ deepq v fun v => fSt s fun s => some (v, s)) = _
 rw [fQ_eq, fSt_eq]
noncomputable def retS (P : Program) (pu keep deepq : Bool) (st : St) (rs : List ResultVar) (x : Env × St) : Option (AV × St) :=
 if ∀ r ∈ rs, resOk P x.1 x.2 r then match pu with
  | true => fQ deepq (retV (rs.map (resV P x.1 x.2))).pubA fun v => if underB st.boxes.length st.rows.length st.loops.length 60 v = true then some (v, st) else none
  | false => match keep with
   | true => finK deepq (cutV (moreB st.boxes x.2.boxes || moreB st.rows x.2.rows) st (pubS keepM (retV (rs.map (resU P x.1 x.2)))) x.2)
   | false => finK deepq (cutQ (moreB st.boxes x.2.boxes || moreB st.rows x.2.rows) st (retV (rs.map (resV P x.1 x.2))) x.2)
 else none
theorem cutR_pre {F : Fl} {st s : St} {r : AV} (hf : Fits F st) (h : Pre F st s) : Pre F st (cutR st r s).2 := by
 unfold cutR
 split
 ·
  rename_i hq
  simp only [Bool.and_eq_true] at hq
  obtain ⟨⟨⟨⟨q1, q2⟩, q3⟩, q4⟩, q5⟩ := hq
  have q1 := Nat.le_of_ble_eq_true q1
  have q2 := Nat.le_of_ble_eq_true q2
  have q3 := Nat.le_of_ble_eq_true q3
  refine ⟨⟨?_, ?_, ?_⟩, ?_, ?_, ?_⟩
  ·
   show (s.boxes.take st.boxes.length).take F.b = _
   rw [List.take_take, Nat.min_eq_left hf.1]
   exact h.1.1
  ·
   show (s.rows.take st.rows.length).take F.r = _
   rw [List.take_take, Nat.min_eq_left hf.2.1]
   exact h.1.2.1
  ·
   show (s.loops.take st.loops.length).take F.l = _
   rw [List.take_take, Nat.min_eq_left hf.2.2]
   exact h.1.2.2
  ·
   have := hf.1; simp [St.cut]; omega
  ·
   have := hf.2.1; simp [St.cut]; omega
  ·
   have := hf.2.2; simp [St.cut]; omega
 ·
  exact h
theorem ACalls.finPure {P : Program} {w0 : World} {f : FuncId} {args : List AV} {st s0 : St} {v0 : AV} (h : ACalls P w0 f args st fun r s => r = v0 ∧ s = s0) (hp : Pre st.fl st s0) (hu : Under st.boxes.length st.rows.length st.loops.length v0.pubA) : ACalls P w0 f args st fun r s => r = v0.pubA ∧ s = st := by
 refine ⟨h.1, fun M w vals hst hrow => (h.2 M w vals hst hrow).mono ?_⟩
 rintro en w' ⟨v, M', r, st', h1, ⟨rfl, rfl⟩, h3, h4, h5⟩
 have hc := hp.cut
 obtain ⟨b1, b2, b3⟩ := hp.2
 have hr := h4.cut b1 b2 b3 (by rw [show st'.cut st.fl.b st.fl.r st.fl.l = st from hc]; exact hst.calm)
 rw [show st'.cut st.fl.b st.fl.r st.fl.l = st from hc] at hr
 exact ⟨v, M'.cut st.boxes.length st.rows.length st.loops.length, r.pubA, st, h1, ⟨rfl, rfl⟩, h3.cut (by have := hst.N; omega) (by have := hst.NR; omega) (by have := hst.loop.NL; omega) (by rw [h4.loop.NL]; exact b3) (by rw [h4.N]; exact b1) (by rw [h4.NR]; exact b2), hr, h5.pubA.cut (by rw [h4.loop.NL]; exact b3) hu⟩
theorem cutU_pre {F : Fl} {st s : St} {r : AV} (hf : Fits F st) (h : Pre F st s) : Pre F st (cutU st r s).2 := by
 unfold cutU
 split
 ·
  rename_i hq
  simp only [Bool.and_eq_true] at hq
  obtain ⟨⟨⟨⟨q1, q2⟩, q3⟩, q4⟩, q5⟩ := hq
  have q1 := Nat.le_of_ble_eq_true q1
  have q2 := Nat.le_of_ble_eq_true q2
  have q3 := Nat.le_of_ble_eq_true q3
  refine ⟨⟨?_, ?_, ?_⟩, ?_, ?_, ?_⟩
  ·
   show (s.boxes.take st.boxes.length).take F.b = _
   rw [List.take_take, Nat.min_eq_left hf.1]
   exact h.1.1
  ·
   show (s.rows.take st.rows.length).take F.r = _
   rw [List.take_take, Nat.min_eq_left hf.2.1]
   exact h.1.2.1
  ·
   show (s.loops.take st.loops.length).take F.l = _
   rw [List.take_take, Nat.min_eq_left hf.2.2]
   exact h.1.2.2
  ·
   have := hf.1; simp [St.cut]; omega
  ·
   have := hf.2.1; simp [St.cut]; omega
  ·
   have := hf.2.2; simp [St.cut]; omega
 ·
  exact h
theorem cutQ_pre {F : Fl} {st s : St} {r : AV} (g : Bool) (hf : Fits F st) (h : Pre F st s) : Pre F st (cutQ g st r s).2 := by
 cases g
 ·
  exact h
 ·
  exact cutR_pre hf h
theorem cutV_pre {F : Fl} {st s : St} {r : AV} (g : Bool) (hf : Fits F st) (h : Pre F st s) : Pre F st (cutV g st r s).2 := by
 cases g
 ·
  exact h
 ·
  exact cutU_pre hf h
theorem ACalls.finU {P : Program} {w0 : World} {f : FuncId} {args : List AV} {st : St} {Post : AV → St → Prop} (h : ACalls P w0 f args st fun r s => st.boxes.length ≤ s.boxes.length ∧ st.rows.length ≤ s.rows.length ∧ st.loops.length ≤ s.loops.length ∧ Calm st.boxes.length st.rows.length st.loops.length (s.cut st.boxes.length st.rows.length st.loops.length) ∧ Under st.boxes.length st.rows.length st.loops.length r ∧ Post r (s.cut st.boxes.length st.rows.length st.loops.length)) : ACalls P w0 f args st Post := by
 refine ⟨h.1, fun M w vals hst hrow => (h.2 M w vals hst hrow).mono ?_⟩
 rintro en w' ⟨v, M', r, st', h1, ⟨b1, b2, b3, b4, b5, b6⟩, h3, h4, h5⟩
 exact ⟨v, M'.cut st.boxes.length st.rows.length st.loops.length, r, _, h1, b6, h3.cut (by have := hst.N; omega) (by have := hst.NR; omega) (by have := hst.loop.NL; omega) (by rw [h4.loop.NL]; exact b3) (by rw [h4.N]; exact b1) (by rw [h4.NR]; exact b2), h4.cut b1 b2 b3 b4, h5.cut (by have := h4.loop.NL; omega) b5⟩
abbrev RunF := Option Fl → FuncId → List AV → St → Option (AV × St)
noncomputable def callC (C : Cfg) (rx : RunF) (F : Fl) : CallF := fun fv args st => match fv with
 | .clo f cs => if C.im f = true then rx (some F) f (args ++ cs) st else rx none f (args ++ cs) st
 | _ => none
noncomputable def callH (rx : RunF) : CallF := fun fv args st => match fv with
 | .clo f cs => rx none f (args ++ cs) st
 | _ => none
noncomputable def roundX (P : Program) (C : Cfg) (rx : RunF) (F : Fl) (i : Nat) (x : List AV) (st : St) : Option (AV × St) :=
 match st.loops[i]? with
 | some la => if la.keys.isNone = true ∧ isReady la.st = true ∧ la.pend.isNone = true ∧ x.length = la.ps.size ∧ (∀ p ∈ la.ps.toList, p < la.n) ∧ la.n ≤ 1000000 ∧ F.b ≤ st.boxes.length ∧ F.r ≤ st.rows.length then
   fEN (bindE la.e la.ps.toList x) fun e0 => match runQ' P la.n false ⟨F.b, F.r, i + 1⟩ C (callH rx) (callC C rx ⟨F.b, F.r, i + 1⟩) C.q la.asg e0 st with
   | some (.normal, e1, s1) => fSt { s1 with loops := s1.loops.set i (setL la .busy none) } fun s1 => match runQ' P la.n false ⟨F.b, F.r, i + 1⟩ C (callH rx) (callC C rx ⟨F.b, F.r, i + 1⟩) C.q la.body e1 s1 with
    | some (ex, _, s2) => match leftBy ex with
     | some jump => fB jump.isNone fun jn => fSt { s2 with loops := s2.loops.set i (setL la (if jn then .ready else .done) jump) } fun s3 => some (.val (.bool jn), s3)
     | none => none
    | none => none
   | _ => none
  else none
 | none => none
noncomputable def callS (P : Program) (C : Cfg) (rx : RunF) (F : Fl) : CallF := fun fv args st => match fv with
 | .clo f cs => if C.im f = true then rx (some F) f (args ++ cs) st else rx none f (args ++ cs) st
 | .yld i => if Nat.ble F.l i = true then roundX P C.m0 rx F i args st else none
 | _ => none
noncomputable def flK {β : Type} (mo : Option Fl) (st : St) (k : Fl → β) : β := Option.rec (motive := fun _ => β) (lenK st.boxes fun b => lenK st.rows fun r => lenK st.loops fun l => k ⟨b, r, l⟩) (fun F => k F) mo
theorem flK_eq {β : Type} (mo : Option Fl) (st : St) (k : Fl → β) : flK mo st k = k (mo.getD st.fl) := by
 cases mo with
 | none => show lenK st.boxes (fun b => lenK st.rows fun r => lenK st.loops fun l => k ⟨b, r, l⟩) = _; rw [lenK_eq, lenK_eq, lenK_eq]; rfl
 | some F => rfl
noncomputable def outX (P : Program) (C : Cfg) (mo : Option Fl) (f : FuncId) (fn : Func) (F : Fl) (st : St) (e : Env) (s : St) : Option (AV × St) := retS P mo.isNone (mo.isSome && C.kp f) (frzB P F fn.results.toList e s) st fn.results.toList (endS P F (mo.isSome && C.kp f) fn.results.toList e s)
noncomputable def bodyX (P : Program) (C : Cfg) (rx : RunF) (mo : Option Fl) (f : FuncId) (fn : Func) (c : Code) (args : List AV) (st : St) (F : Fl) : Option (AV × St) :=
 fEN (argsE 0 args) fun e0 => match runQ' P fn.ntmps true F (C.at f (outF fn c)) (callH rx) (callS P (C.at f (outF fn c)) rx F) C.q c e0 st with
  | some (.normal, e', s') => outX P C mo f fn F st e' s'
  | some (.ret, e', s') => outX P C mo f fn F st e' s'
  | _ => none
noncomputable def exsK (x : Option (AV × St)) (k : Option (AV × St)) : Option (AV × St) := match x with
 | some y => finK false y
 | none => k
noncomputable def exsX (C : Cfg) (mo : Option Fl) (f : FuncId) (args : List AV) (st : St) : Option (AV × St) := Option.rec (motive := fun _ => Option (AV × St)) none (fun F => C.exs F f args st) mo
noncomputable def runX (P : Program) (C : Cfg) : Nat → RunF
 | 0 => fun _ _ _ _ => none
 | k + 1 => fun mo f args st => match C.ext f args with
  | some v => some (v, st)
  | none => exsK (exsX C mo f args st) <| match P.funcs[f]? with
   | some fn => match fn.body with
    | some c =>
     if fn.name ≠ "runtime.NumGoroutine" ∧ args.length ≤ fn.ntmps ∧ fn.ntmps ≤ 1000000 then
      flK mo st (bodyX P C (runX P C k) mo f fn c args st)
     else none
    | none => none
   | none => none
structure RunOk (P : Program) (w0 : World) (rx : RunF) : Prop where
 ok : ∀ mo f args st v st', rx mo f args st = some (v, st') → ACalls P w0 f args st fun r s => r = v ∧ s = st'
 pre : ∀ F f args st v st', Fits F st → rx (some F) f args st = some (v, st') → Pre F st st'
 hold : ∀ f args st v st', rx none f args st = some (v, st') → st' = st
section
variable {P : Program} {w0 : World} {C : Cfg} {rx : RunF}
theorem callC_ok (h : RunOk P w0 rx) (F : Fl) : CallOk P w0 (callC C rx F) := by
 intro fv args st v st' q
 unfold callC at q
 split at q
 ·
  split at q
  ·
   exact h.ok _ _ _ _ _ _ q
  ·
   exact h.ok _ _ _ _ _ _ q
 ·
  cases q
theorem callC_keep (h : RunOk P w0 rx) (F : Fl) : KeepC F (callC C rx F) := by
 intro fv args st v st' hf q
 unfold callC at q
 split at q
 ·
  split at q
  ·
   exact h.pre _ _ _ _ _ _ hf q
  ·
   exact .of hf (h.hold _ _ _ _ _ q)
 ·
  cases q
theorem callH_ok (h : RunOk P w0 rx) : CallOk P w0 (callH rx) := by
 intro fv args st v st' q
 unfold callH at q
 split at q
 ·
  exact h.ok _ _ _ _ _ _ q
 ·
  cases q
theorem callH_head (h : RunOk P w0 rx) : HeadC (callH rx) := by
 intro fv args st v st' q
 unfold callH at q
 split at q
 ·
  exact h.hold _ _ _ _ _ q
 ·
  cases q
theorem roundX_spec (hm : P.follows .mixedOrders = true) (hgl : ∀ t g x, C.gl t g = some x → GlobR P w0 t g x) (h : RunOk P w0 rx) {F : Fl} {i : Nat} {x : List AV} {st : St} {v : AV} {st' : St} (q : roundX P C rx F i x st = some (v, st')) :
  (YRound P w0 i x st fun r s => r = v ∧ s = st') ∧ (F.l ≤ i → Fits F st → Pre F st st') := by
 unfold roundX at q
 simp only [runQ'_eq] at q
 split at q
 rotate_left
 ·
  cases q
 rename_i la hla
 have hil : i < st.loops.length := (List.getElem?_eq_some_iff.1 hla).1
 split at q
 rotate_left
 ·
  cases q
 rename_i hc
 obtain ⟨c1, c2, c3, c4, c5, c6, c7, c8⟩ := hc
 rw [fEN_eq] at q
 split at q
 rotate_left
 ·
  cases q
 rename_i e1 s1 h1
 rw [fSt_eq, setL_eq] at q
 split at q
 rotate_left
 ·
  cases q
 rename_i ex e2 s2 h2
 split at q
 rotate_left
 ·
  cases q
 rename_i jump hj
 rw [fB_eq, fSt_eq, setL_eq] at q
 cases q
 have p1 := runS_pre (F := ⟨F.b, F.r, i + 1⟩) (callH_head h) (callC_keep h _) _ _ _ _ _ _ _ ⟨c7, c8, hil⟩ h1
 have hs1l : i < s1.loops.length := Nat.lt_of_lt_of_le (Nat.lt_succ_self i) p1.2.2.2
 have hf2 : Fits ⟨F.b, F.r, i + 1⟩ { s1 with loops := s1.loops.set i { la with st := .busy, pend := none } } := ⟨p1.2.1, p1.2.2.1, by simp only [List.length_set]; exact hs1l⟩
 have p2 := runS_pre (F := ⟨F.b, F.r, i + 1⟩) (callH_head h) (callC_keep h _) _ _ _ _ _ _ _ hf2 h2
 have hr : la.st = .ready := by
  cases hs : la.st <;> first | rfl | (rw [hs] at c2; cases c2)
 have hs1 : s1.loops[i]? = some la := (p1.get (Nat.lt_succ_self i)).trans hla
 have hs2 : s2.loops[i]? = some { la with st := .busy, pend := none } := by
  rw [p2.get (Nat.lt_succ_self i)]
  exact List.getElem?_set_self hs1l
 refine ⟨yRoundX hla (Option.isNone_iff_eq_none.1 c1) hr (Option.isNone_iff_eq_none.1 c3) c4 c5 (fun M0 W0 l => runS_sound hm c6 (callH_head h) (callH_ok h) (callC_ok h _) hgl (fun q => by cases q) _ _ _ _ _ _ _ _ h1 ⟨rfl, rfl, rfl⟩) hs1
  (fun M0 W0 l => runS_sound hm c6 (callH_head h) (callH_ok h) (callC_ok h _) hgl (fun q => by cases q) _ _ _ _ _ _ _ _ h2 ⟨rfl, rfl⟩) hs2 hj, fun f1 hf => ?_⟩
 have le : F.le ⟨F.b, F.r, i + 1⟩ := ⟨Nat.le_refl _, Nat.le_refl _, Nat.le_succ_of_le f1⟩
 have r1 := p1.mono le
 have r2 : Pre F s1 { s1 with loops := s1.loops.set i { la with st := .busy, pend := none } } := .loop _ r1.2 f1
 have r3 := p2.mono le
 exact ((r1.trans r2).trans r3).trans (.loop _ r3.2 f1)
theorem callS_ok (hm : P.follows .mixedOrders = true) (hgl : ∀ t g x, C.gl t g = some x → GlobR P w0 t g x) (h : RunOk P w0 rx) (F : Fl) : CallOk P w0 (callS P C rx F) := by
 intro fv args st v st' q
 unfold callS at q
 split at q
 ·
  split at q
  ·
   exact h.ok _ _ _ _ _ _ q
  ·
   exact h.ok _ _ _ _ _ _ q
 ·
  split at q
  ·
   exact (roundX_spec (C := C.m0) hm hgl h q).1
  ·
   cases q
 ·
  cases q
theorem callS_keep (hm : P.follows .mixedOrders = true) (hgl : ∀ t g x, C.gl t g = some x → GlobR P w0 t g x) (h : RunOk P w0 rx) (F : Fl) : KeepC F (callS P C rx F) := by
 intro fv args st v st' hf q
 unfold callS at q
 split at q
 ·
  split at q
  ·
   exact h.pre _ _ _ _ _ _ hf q
  ·
   exact .of hf (h.hold _ _ _ _ _ q)
 ·
  split at q
  ·
   rename_i hi
   exact (roundX_spec (C := C.m0) hm hgl h q).2 (Nat.le_of_ble_eq_true hi) hf
  ·
   cases q
 ·
  cases q
theorem runX_ok (hm : P.follows .mixedOrders = true) (hgl : ∀ t g x, C.gl t g = some x → GlobR P w0 t g x)
  (hext : ∀ f args v st, C.ext f args = some v → ACalls P w0 f args st fun r s => r = v ∧ s = st)
  (hexs : ∀ F f args st v st', C.exs F f args st = some (v, st') → (ACalls P w0 f args st fun r s => r = v ∧ s = st') ∧ (Fits F st → Pre F st st')) : ∀ k : Nat, RunOk P w0 (runX P C k)
 | 0 => ⟨fun _ _ _ _ _ _ h => (nomatch h), fun _ _ _ _ _ _ _ h => (nomatch h), fun _ _ _ _ _ h => (nomatch h)⟩
 | k + 1 => by
  have ih := runX_ok hm hgl hext hexs k
  refine ⟨fun mo f args st v st' h => ?_, fun F f args st v st' hf h => ?_, fun f args st v st' h => ?_⟩
  ·
   rw [runX] at h; simp only [flK_eq, bodyX, outX, runQ'_eq] at h
   split at h
   ·
    rename_i r hv
    cases h
    exact hext _ _ _ _ hv
   unfold exsK at h
   split at h
   ·
    rename_i y hy
    rw [finK_eq] at h
    cases h
    cases mo with
    | none => cases hy
    | some F => exact (hexs F _ _ _ _ _ hy).1
   split at h
   rotate_left
   ·
    cases h
   rename_i fn hf
   split at h
   rotate_left
   ·
    cases h
   rename_i c hb
   split at h
   rotate_left
   ·
    cases h
   rename_i hc
   obtain ⟨hc1, hc2, hc3⟩ := hc
   have fin : ∀ (x : Exit) (e' : Env) (s' : St), (x = .normal ∨ x = .ret) → runS P fn.ntmps true (mo.getD st.fl) (C.at f (outF fn c)) (callH (runX P C k)) (callS P (C.at f (outF fn c)) (runX P C k) (mo.getD st.fl)) C.q c (argsE 0 args) st = some (x, e', s') → retS P mo.isNone (mo.isSome && C.kp f) (frzB P (mo.getD st.fl) fn.results.toList e' s') st fn.results.toList (endS P (mo.getD st.fl) (mo.isSome && C.kp f) fn.results.toList e' s') = some (v, st') →
     ACalls P w0 f args st fun r s => r = v ∧ s = st' := by
    intro x e' s' hx hrun hret
    have hcv := conv_endS w0 P (mo.getD st.fl) (mo.isSome && C.kp f) fn.results.toList e' s'
    have hpre : mo = none → Pre st.fl st (endS P (mo.getD st.fl) (mo.isSome && C.kp f) fn.results.toList e' s').2 := fun hmo => by
     subst hmo
     have p1 := runS_pre (callH_head ih) (callS_keep (C := C.at f (outF fn c)) hm hgl ih st.fl) _ _ _ _ _ _ _ (Fits.self st) hrun
     exact p1.trans (endS_pre p1.2)
    generalize endS P (mo.getD st.fl) (mo.isSome && C.kp f) fn.results.toList e' s' = z at hret hcv hpre
    unfold retS at hret
    split at hret
    rotate_left
    ·
     cases hret
    rename_i hres
    have base : ∀ Post : AV → St → Prop, Post (retV (fn.results.toList.map (resV P z.1 z.2))) z.2 → ACalls P w0 f args st Post := fun Post hp =>
     acalls_of (rs := fn.results.toList) hf hb (by simp) rfl (enters_of hf hb hc1) hc2 (fun M0 W0 _ _ _ _ _ => awp_behind (Q' := fun x1 e1 s1 => x1 = x ∧ e1 = e' ∧ s1 = s') (runS_sound (C := C.at f (outF fn c)) hm hc3 (callH_head ih) (callH_ok ih) (callS_ok (C := C.at f (outF fn c)) hm hgl ih _) hgl (fun _ => rfl) C.q c _ _ _ _ _ _ hrun ⟨rfl, rfl, rfl⟩) (by
      rintro x1 e1 s1 ⟨rfl, rfl, rfl⟩
      refine ⟨z.1, z.2, hcv, ?_⟩
      rcases hx with rfl | rfl <;> exact ⟨hres, hp⟩))
    cases mo with
    | none =>
     simp only [Option.isNone] at hret
     rw [fQ_eq] at hret
     split at hret
     ·
      rename_i hu
      cases hret
      exact ACalls.finPure (base _ ⟨rfl, rfl⟩) (hpre rfl) (underB_spec _ _ hu)
     ·
      cases hret
    | some F =>
     simp only [Option.isNone] at hret
     split at hret
     ·
      have baseU : ∀ Post : AV → St → Prop, Post (pubS keepM (retV (fn.results.toList.map (resU P z.1 z.2)))) z.2 → ACalls P w0 f args st Post := fun Post hp =>
       acalls_ofU (mk := keepM) (rs := fn.results.toList) hf hb (by simp) rfl (enters_of hf hb hc1) hc2 (fun M0 W0 _ _ _ _ _ => awp_behind (Q' := fun x1 e1 s1 => x1 = x ∧ e1 = e' ∧ s1 = s') (runS_sound (C := C.at f (outF fn c)) hm hc3 (callH_head ih) (callH_ok ih) (callS_ok (C := C.at f (outF fn c)) hm hgl ih _) hgl (fun _ => rfl) C.q c _ _ _ _ _ _ hrun ⟨rfl, rfl, rfl⟩) (by
        rintro x1 e1 s1 ⟨rfl, rfl, rfl⟩
        refine ⟨z.1, z.2, hcv, ?_⟩
        rcases hx with rfl | rfl <;> exact ⟨hres, hp⟩))
      rw [finK_eq] at hret
      have hcut := Option.some.inj hret
      unfold cutV at hcut
      split at hcut
      rotate_left
      ·
       cases hcut
       exact baseU _ ⟨rfl, rfl⟩
      unfold cutU at hcut
      split at hcut
      ·
       rename_i hq
       simp only [Bool.and_eq_true] at hq
       obtain ⟨⟨⟨⟨q1, q2⟩, q3⟩, q4⟩, q5⟩ := hq
       cases hcut
       exact ACalls.finU (baseU _ ⟨Nat.le_of_ble_eq_true q1, Nat.le_of_ble_eq_true q2, Nat.le_of_ble_eq_true q3, calmB_spec q5, underB_spec _ _ q4, rfl, rfl⟩)
      ·
       cases hcut
       exact baseU _ ⟨rfl, rfl⟩
     rw [finK_eq] at hret
     have hcut := Option.some.inj hret
     unfold cutQ at hcut
     split at hcut
     rotate_left
     ·
      cases hcut
      exact base _ ⟨rfl, rfl⟩
     unfold cutR at hcut
     split at hcut
     ·
      rename_i hq
      simp only [Bool.and_eq_true] at hq
      obtain ⟨⟨⟨⟨q1, q2⟩, q3⟩, q4⟩, q5⟩ := hq
      cases hcut
      exact ACalls.finP (base _ ⟨Nat.le_of_ble_eq_true q1, Nat.le_of_ble_eq_true q2, Nat.le_of_ble_eq_true q3, calmB_spec q5, underB_spec _ _ q4, rfl, rfl⟩)
     ·
      cases hcut
      exact base _ ⟨rfl, rfl⟩
   rw [fEN_eq] at h
   split at h
   ·
    rename_i e' s' hr
    exact fin _ _ _ (.inl rfl) hr h
   ·
    rename_i e' s' hr
    exact fin _ _ _ (.inr rfl) hr h
   ·
    cases h
  ·
   rw [runX] at h; simp only [flK_eq, bodyX, outX, runQ'_eq] at h
   split at h
   ·
    rename_i r hv
    cases h
    exact .refl hf
   unfold exsK at h
   split at h
   ·
    rename_i y hy
    rw [finK_eq] at h
    cases h
    exact (hexs F _ _ _ _ _ hy).2 hf
   split at h
   rotate_left
   ·
    cases h
   rename_i fn hfn
   split at h
   rotate_left
   ·
    cases h
   rename_i c hb
   split at h
   rotate_left
   ·
    cases h
   have fin : ∀ (x : Exit) (e' : Env) (s' : St), runS P fn.ntmps true F (C.at f (outF fn c)) (callH (runX P C k)) (callS P (C.at f (outF fn c)) (runX P C k) F) C.q c (argsE 0 args) st = some (x, e', s') → retS P false (C.kp f) (frzB P F fn.results.toList e' s') st fn.results.toList (endS P F (C.kp f) fn.results.toList e' s') = some (v, st') → Pre F st st' := by
    intro x e' s' hrun hret
    have p1 := runS_pre (callH_head ih) (callS_keep (C := C.at f (outF fn c)) hm hgl ih F) _ _ _ _ _ _ _ hf hrun
    have p2 := p1.trans (endS_pre (P := P) (keep := C.kp f) (rs := fn.results.toList) (e := e') p1.2)
    unfold retS at hret
    split at hret
    ·
     simp only at hret
     split at hret
     ·
      rw [finK_eq] at hret
      have := cutV_pre (r := pubS keepM (retV (fn.results.toList.map (resU P (endS P F (C.kp f) fn.results.toList e' s').1 (endS P F (C.kp f) fn.results.toList e' s').2)))) (moreB st.boxes (endS P F (C.kp f) fn.results.toList e' s').2.boxes || moreB st.rows (endS P F (C.kp f) fn.results.toList e' s').2.rows) hf p2
      rw [Option.some.inj hret] at this
      exact this
     rw [finK_eq] at hret
     have := cutQ_pre (moreB st.boxes (endS P F (C.kp f) fn.results.toList e' s').2.boxes || moreB st.rows (endS P F (C.kp f) fn.results.toList e' s').2.rows) (r := retV (fn.results.toList.map (resV P (endS P F (C.kp f) fn.results.toList e' s').1 (endS P F (C.kp f) fn.results.toList e' s').2))) hf p2
     rw [Option.some.inj hret] at this
     exact this
    ·
     cases hret
   rw [fEN_eq] at h
   split at h
   ·
    rename_i e' s' hr
    exact fin _ _ _ hr (by simpa using h)
   ·
    rename_i e' s' hr
    exact fin _ _ _ hr (by simpa using h)
   ·
    cases h
  ·
   rw [runX] at h; simp only [flK_eq, bodyX, outX, runQ'_eq] at h
   split at h
   ·
    cases h; rfl
   unfold exsK at h
   split at h
   ·
    rename_i y hy
    cases hy
   split at h
   rotate_left
   ·
    cases h
   split at h
   rotate_left
   ·
    cases h
   split at h
   rotate_left
   ·
    cases h
   have fin : ∀ {keep dq : Bool} (rs : List ResultVar) (z : Env × St), retS P true keep dq st rs z = some (v, st') → st' = st := fun rs z hret => by
    unfold retS at hret
    split at hret
    ·
     simp only at hret
     rw [fQ_eq] at hret
     split at hret
     ·
      cases hret; rfl
     ·
      cases hret
    ·
     cases hret
   rw [fEN_eq] at h
   split at h
   ·
    exact fin _ _ h
   ·
    exact fin _ _ h
   ·
    cases h
theorem runX_sound (hm : P.follows .mixedOrders = true) (hgl : ∀ t g x, C.gl t g = some x → GlobR P w0 t g x)
  (hext : ∀ f args v st, C.ext f args = some v → ACalls P w0 f args st fun r s => r = v ∧ s = st)
  (hexs : ∀ F f args st v st', C.exs F f args st = some (v, st') → (ACalls P w0 f args st fun r s => r = v ∧ s = st') ∧ (Fits F st → Pre F st st')) (k : Nat) (mo : Option Fl) (f : FuncId) (args : List AV) (st : St) (v : AV) (st' : St) (h : runX P C k mo f args st = some (v, st')) : ACalls P w0 f args st fun r s => r = v ∧ s = st' :=
 (runX_ok hm hgl hext hexs k).ok _ _ _ _ _ _ h
end
end
end Go.Ev
namespace Go.Proofs
open Go.Shelf
def Tryz.lays119_ren : Go.Shelf.Ren := ⟨fun | 119 => 209 | n => n, fun | 21 => 21 | 4 => 4 | n => n, fun | n => n⟩
theorem Tryz.lays119 : Go.Proofs.Lays.n119 Tryz.prog Tryz.lays119_ren := {
 mixed := by kernel_rfl
 f119 := Tryz.func209.trans (congrArg some (by kernel_rfl))
 t4 := Tryz.underlying4
 a4 := Tryz.isAgg4
 z4 := Tryz.sizeOf4
 v4 := Tryz.zeroValue4
 t21 := Tryz.underlying21
 a21 := Tryz.isAgg21
 z21 := Tryz.sizeOf21
 v21 := Tryz.zeroValue21 }
theorem Tryz.utf8_ValidRune (r : Int) (w : World) :
  Calls Tryz.prog 209 #[.int .i32 r] w fun e w' => e = .returned (.bool (Lib.validRune r)) ∧ w' = w := Any.utf8_ValidRune Tryz.lays119 r w
def Tryz.lays137_ren : Go.Shelf.Ren := ⟨fun | 137 => 208 | 217 => 249 | 266 => 287 | n => n, fun | 9 => 9 | 5 => 5 | 3 => 3 | n => n, fun | n => n⟩
theorem Tryz.lays137 : Go.Proofs.Lays.n137 Tryz.prog Tryz.lays137_ren := {
 mixed := by kernel_rfl
 f137 := Tryz.func208.trans (congrArg some (by kernel_rfl))
 f217 := Tryz.func249.trans (congrArg some (by kernel_rfl))
 f266 := Tryz.func287.trans (congrArg some (by kernel_rfl))
 t3 := Tryz.underlying3
 a3 := Tryz.isAgg3
 z3 := Tryz.sizeOf3
 v3 := Tryz.zeroValue3
 t5 := Tryz.underlying5
 a5 := Tryz.isAgg5
 z5 := Tryz.sizeOf5
 v5 := Tryz.zeroValue5
 t9 := Tryz.underlying9
 a9 := Tryz.isAgg9
 z9 := Tryz.sizeOf9
 v9 := Tryz.zeroValue9 }
open Go.RowKit in
theorem Tryz.strings_IndexByte (s : ByteArray) (c : Int) (w : World) :
  Calls Tryz.prog 208 #[.string s, .int .u8 c] w fun e w' => e = .returned (.int .i64 (Lib.indexByte s.data.toList c.toNat.toUInt8)) ∧ w' = w := Any.strings_IndexByte Tryz.lays137 s c w
def Tryz.lays145_ren : Go.Shelf.Ren := ⟨fun | 145 => 108 | 220 => 161 | 219 => 212 | 217 => 249 | 225 => 211 | 224 => 210 | 267 => 250 | 266 => 287 | 314 => 288 | n => n, fun | 9 => 9 | 4 => 4 | 59 => 195 | 3 => 3 | 5 => 5 | 46 => 236 | 146 => 376 | 51 => 295 | n => n, fun | 1 => 2 | n => n⟩
theorem Tryz.lays145 : Go.Proofs.Lays.n145 Tryz.prog Tryz.lays145_ren := {
 mixed := by kernel_rfl
 f145 := Tryz.func108.trans (congrArg some (by kernel_rfl))
 f217 := Tryz.func249.trans (congrArg some (by kernel_rfl))
 f219 := Tryz.func212.trans (congrArg some (by kernel_rfl))
 f220 := Tryz.func161.trans (congrArg some (by kernel_rfl))
 f224 := Tryz.func210.trans (congrArg some (by kernel_rfl))
 f225 := Tryz.func211.trans (congrArg some (by kernel_rfl))
 f266 := Tryz.func287.trans (congrArg some (by kernel_rfl))
 f267 := Tryz.func250.trans (congrArg some (by kernel_rfl))
 f314 := Tryz.func288.trans (congrArg some (by kernel_rfl))
 t3 := Tryz.underlying3
 a3 := Tryz.isAgg3
 z3 := Tryz.sizeOf3
 v3 := Tryz.zeroValue3
 t4 := Tryz.underlying4
 a4 := Tryz.isAgg4
 z4 := Tryz.sizeOf4
 v4 := Tryz.zeroValue4
 t5 := Tryz.underlying5
 a5 := Tryz.isAgg5
 z5 := Tryz.sizeOf5
 v5 := Tryz.zeroValue5
 t9 := Tryz.underlying9
 a9 := Tryz.isAgg9
 z9 := Tryz.sizeOf9
 v9 := Tryz.zeroValue9
 t46 := Tryz.underlying236
 a46 := Tryz.isAgg236
 z46 := Tryz.sizeOf236
 v46 := Tryz.zeroValue236
 t51 := Tryz.underlying295
 a51 := Tryz.isAgg295
 z51 := Tryz.sizeOf295
 v51 := Tryz.zeroValue295
 t59 := Tryz.underlying195
 a59 := Tryz.isAgg195
 z59 := Tryz.sizeOf195
 v59 := Tryz.zeroValue195
 t146 := Tryz.underlying376
 a146 := Tryz.isAgg376
 z146 := Tryz.sizeOf376
 v146 := Tryz.zeroValue376
 g1 := by kernel_rfl }
open Go.RowKit Go.Lib in
theorem Tryz.strings_Cut (s sep : ByteArray) (m : Int) (w : World) (hs : s.size < 4294967281) (hm : w.cell? ⟨2, 0, none⟩ = some (.int .i64 m)) :
  Calls Tryz.prog 108 #[.string s, .string sep] w fun e w' => e = .returned (.tuple #[.string ⟨(Lib.cut s.data.toList sep.data.toList).1.toArray⟩, .string ⟨(Lib.cut s.data.toList sep.data.toList).2.1.toArray⟩, .bool (Lib.cut s.data.toList sep.data.toList).2.2]) ∧ ∃ n, w' = w.drewN n := Any.strings_Cut Tryz.lays145 s sep m w hs hm
def Tryz.lays99_ren : Go.Shelf.Ren := ⟨fun | 99 => 107 | 206 => 160 | n => n, fun | 9 => 9 | 4 => 4 | 3 => 3 | n => n, fun | n => n⟩
theorem Tryz.lays99 : Go.Proofs.Lays.n99 Tryz.prog Tryz.lays99_ren := {
 mixed := by kernel_rfl
 f99 := Tryz.func107.trans (congrArg some (by kernel_rfl))
 f206 := Tryz.func160.trans (congrArg some (by kernel_rfl))
 t3 := Tryz.underlying3
 a3 := Tryz.isAgg3
 z3 := Tryz.sizeOf3
 v3 := Tryz.zeroValue3
 t4 := Tryz.underlying4
 a4 := Tryz.isAgg4
 z4 := Tryz.sizeOf4
 v4 := Tryz.zeroValue4
 t9 := Tryz.underlying9
 a9 := Tryz.isAgg9
 z9 := Tryz.sizeOf9
 v9 := Tryz.zeroValue9 }
open Go.RowKit Go.Lib in
theorem Tryz.strings_HasPrefix (s p : ByteArray) (w : World) :
  Calls Tryz.prog 107 #[.string s, .string p] w fun e w' => e = .returned (.bool (Lib.hasPrefix s.data.toList p.data.toList)) ∧ w' = w := Any.strings_HasPrefix Tryz.lays99 s p w
def Tryz.lays152_ren : Go.Shelf.Ren := ⟨fun | 152 => 156 | 137 => 208 | 119 => 209 | 224 => 210 | 225 => 211 | 217 => 249 | 266 => 287 | n => n, fun | 9 => 9 | 21 => 21 | 3 => 3 | 4 => 4 | 5 => 5 | 0 => 0 | 46 => 236 | n => n, fun | n => n⟩
theorem Tryz.lays152 : Go.Proofs.Lays.n152 Tryz.prog Tryz.lays152_ren := {
 mixed := by kernel_rfl
 f119 := Tryz.func209.trans (congrArg some (by kernel_rfl))
 f137 := Tryz.func208.trans (congrArg some (by kernel_rfl))
 f152 := Tryz.func156.trans (congrArg some (by kernel_rfl))
 f217 := Tryz.func249.trans (congrArg some (by kernel_rfl))
 f224 := Tryz.func210.trans (congrArg some (by kernel_rfl))
 f225 := Tryz.func211.trans (congrArg some (by kernel_rfl))
 f266 := Tryz.func287.trans (congrArg some (by kernel_rfl))
 t0 := Tryz.underlying0
 a0 := Tryz.isAgg0
 z0 := Tryz.sizeOf0
 v0 := Tryz.zeroValue0
 t3 := Tryz.underlying3
 a3 := Tryz.isAgg3
 z3 := Tryz.sizeOf3
 v3 := Tryz.zeroValue3
 t4 := Tryz.underlying4
 a4 := Tryz.isAgg4
 z4 := Tryz.sizeOf4
 v4 := Tryz.zeroValue4
 t5 := Tryz.underlying5
 a5 := Tryz.isAgg5
 z5 := Tryz.sizeOf5
 v5 := Tryz.zeroValue5
 t9 := Tryz.underlying9
 a9 := Tryz.isAgg9
 z9 := Tryz.sizeOf9
 v9 := Tryz.zeroValue9
 t21 := Tryz.underlying21
 a21 := Tryz.isAgg21
 z21 := Tryz.sizeOf21
 v21 := Tryz.zeroValue21
 t46 := Tryz.underlying236
 a46 := Tryz.isAgg236
 z46 := Tryz.sizeOf236
 v46 := Tryz.zeroValue236 }
open Go.RowKit Go.Lib in
theorem Tryz.strings_IndexRune_ascii (s : ByteArray) (r : Int) (w : World) (h0 : 0 ≤ r) (h1 : r < 128) :
  Calls Tryz.prog 156 #[.string s, .int .i32 r] w fun e w' => e = .returned (.int .i64 (Lib.indexByte s.data.toList r.toNat.toUInt8)) ∧ w' = w := Any.strings_IndexRune_ascii Tryz.lays152 s r w h0 h1
def Tryz.lays226_ren : Go.Shelf.Ren := ⟨fun | 226 => 157 | n => n, fun | 3 => 3 | 4 => 4 | n => n, fun | n => n⟩
theorem Tryz.lays226 : Go.Proofs.Lays.n226 Tryz.prog Tryz.lays226_ren := {
 mixed := by kernel_rfl
 f226 := Tryz.func157.trans (congrArg some (by kernel_rfl))
 t3 := Tryz.underlying3
 a3 := Tryz.isAgg3
 z3 := Tryz.sizeOf3
 v3 := Tryz.zeroValue3
 t4 := Tryz.underlying4
 a4 := Tryz.isAgg4
 z4 := Tryz.sizeOf4
 v4 := Tryz.zeroValue4 }
open Go.RowKit Go.Lib in
theorem Tryz.strings_shouldUseASCIISet (n : Int) (w : World) :
  Calls Tryz.prog 157 #[.int .i64 n] w fun e w' => e = .returned (.bool (decide (8 < n))) ∧ w' = w := Any.strings_shouldUseASCIISet Tryz.lays226 n w
def Tryz.lays153_ren : Go.Shelf.Ren := ⟨fun | 153 => 106 | 152 => 156 | 226 => 157 | 227 => 158 | 228 => 159 | 137 => 208 | 119 => 209 | 224 => 210 | 225 => 211 | 217 => 249 | 266 => 287 | n => n, fun | 9 => 9 | 3 => 3 | 4 => 4 | 5 => 5 | 21 => 21 | 117 => 240 | 116 => 239 | 0 => 0 | 46 => 236 | 124 => 298 | n => n, fun | n => n⟩
theorem Tryz.lays153 : Go.Proofs.Lays.n153 Tryz.prog Tryz.lays153_ren := {
 mixed := by kernel_rfl
 f119 := Tryz.func209.trans (congrArg some (by kernel_rfl))
 f137 := Tryz.func208.trans (congrArg some (by kernel_rfl))
 f152 := Tryz.func156.trans (congrArg some (by kernel_rfl))
 f153 := Tryz.func106.trans (congrArg some (by kernel_rfl))
 f217 := Tryz.func249.trans (congrArg some (by kernel_rfl))
 f224 := Tryz.func210.trans (congrArg some (by kernel_rfl))
 f225 := Tryz.func211.trans (congrArg some (by kernel_rfl))
 f226 := Tryz.func157.trans (congrArg some (by kernel_rfl))
 f227 := Tryz.func158.trans (congrArg some (by kernel_rfl))
 f228 := Tryz.func159.trans (congrArg some (by kernel_rfl))
 f266 := Tryz.func287.trans (congrArg some (by kernel_rfl))
 t0 := Tryz.underlying0
 a0 := Tryz.isAgg0
 z0 := Tryz.sizeOf0
 v0 := Tryz.zeroValue0
 t3 := Tryz.underlying3
 a3 := Tryz.isAgg3
 z3 := Tryz.sizeOf3
 v3 := Tryz.zeroValue3
 t4 := Tryz.underlying4
 a4 := Tryz.isAgg4
 z4 := Tryz.sizeOf4
 v4 := Tryz.zeroValue4
 t5 := Tryz.underlying5
 a5 := Tryz.isAgg5
 z5 := Tryz.sizeOf5
 v5 := Tryz.zeroValue5
 t9 := Tryz.underlying9
 a9 := Tryz.isAgg9
 z9 := Tryz.sizeOf9
 v9 := Tryz.zeroValue9
 t21 := Tryz.underlying21
 a21 := Tryz.isAgg21
 z21 := Tryz.sizeOf21
 v21 := Tryz.zeroValue21
 t46 := Tryz.underlying236
 a46 := Tryz.isAgg236
 z46 := Tryz.sizeOf236
 v46 := Tryz.zeroValue236
 t116 := Tryz.underlying239
 a116 := Tryz.isAgg239
 z116 := Tryz.sizeOf239
 t117 := Tryz.underlying240
 a117 := Tryz.isAgg240
 z117 := Tryz.sizeOf240
 v117 := Tryz.zeroValue240
 t124 := Tryz.underlying298
 a124 := Tryz.isAgg298
 z124 := Tryz.sizeOf298
 v124 := Tryz.zeroValue298 }
open Go.RowKit Go.Lib in
theorem Tryz.strings_IndexAny_long (hv116 : ∀ w, (zeroValue 239).run Tryz.prog w = .ok (.agg (Array.replicate 256 (.bool false))) w) (s chars : ByteArray) (w : World) (h2 : 2 ≤ chars.size) (h8 : 8 < s.size) (hs : s.size < 4294967281) (hcs : chars.size < 4294967281) (hascii : ∀ (j : Nat) b, chars.data.toList[j]? = some b → b.toNat < 128) :
  Calls Tryz.prog 106 #[.string s, .string chars] w fun e w' => e = .returned (.int .i64 (Lib.indexAny s.data.toList chars.data.toList)) ∧ w' = ((w.alloc (.cells (Lib.setCells chars.data.toList) 239)).alloc (.cells (Lib.setCells chars.data.toList) 239)) := Any.strings_IndexAny_long Tryz.lays153 hv116 (by kernel_rfl) s chars w h2 h8 hs hcs hascii
end Go.Proofs
namespace Go.Proofs
open Go.Shelf Go.RowKit Go.Lib Go
variable {P : Program} {ρ : Ren}
abbrev stops : ByteArray := ⟨#[46, 91, 63]⟩
theorem stops_ascii : ∀ (i : Nat) (h : i < stops.size), (stops[i]'h).toNat < 128 ∧ ((stops[i]'h).toNat : Int) ≠ 65533 := by decide
theorem u8_ge (n : Nat) : 128 ≤ (UInt8.ofNat (128 + n % 64)).toNat := by rw [UInt8.toNat_ofNat']; omega
theorem enc_cases (r : Int) (h0 : 128 ≤ r) : (∃ a b, Utf8.encode r = ⟨#[a, b]⟩ ∧ 128 ≤ b.toNat) ∨ (∃ a b c, Utf8.encode r = ⟨#[a, b, c]⟩ ∧ 128 ≤ c.toNat) ∨ ∃ a b c d, Utf8.encode r = ⟨#[a, b, c, d]⟩ := by
 obtain ⟨c, hc, he⟩ : ∃ c : Nat, 128 ≤ c ∧ (if Utf8.valid r = true then r.toNat else Utf8.runeError) = c := by
  by_cases h : Utf8.valid r = true
  ·
   exact ⟨r.toNat, by omega, by rw [if_pos h]⟩
  ·
   exact ⟨Utf8.runeError, by decide, by rw [if_neg h]⟩
 unfold Utf8.encode
 simp only [he]
 rw [if_neg (by omega)]
 by_cases h1 : c < 2048
 ·
  rw [if_pos h1]; exact .inl ⟨_, _, rfl, u8_ge _⟩
 rw [if_neg h1]
 by_cases h2 : c < 65536
 ·
  rw [if_pos h2]; exact .inr (.inl ⟨_, _, _, rfl, u8_ge _⟩)
 ·
  rw [if_neg h2]; exact .inr (.inr ⟨_, _, _, _, rfl⟩)
set_option maxRecDepth 1000000 in
theorem rune_error (L : Lays.n152 P ρ) (w : World) :
  Calls P (ρ.f 152) #[.string stops, .int .i32 65533] w fun e w' => e = .returned (.int .i64 (-1)) ∧ ∃ pos, w' = w.iter stops pos := by
 have t3 := L.t3; have a3 := L.a3; have z3 := L.z3; have v3 := L.v3
 have t4 := L.t4; have a4 := L.a4; have z4 := L.z4; have v4 := L.v4
 have t5 := L.t5; have a5 := L.a5; have z5 := L.z5; have v5 := L.v5
 have t9 := L.t9; have a9 := L.a9; have z9 := L.z9; have v9 := L.v9
 have t21 := L.t21; have a21 := L.a21; have z21 := L.z21; have v21 := L.v21
 go_enter L.f152, Body.n152_ntmps ρ
 go_wp2
 go_loopg [5, 6] 3 (fun g _ _ wx => ∃ i : Nat, i + g = 3 ∧ wx = w.iter stops i)
 case atStart => exact ⟨0, by omega, rfl⟩
 case round =>
  obtain ⟨i, hig, rfl⟩ := hrel
  cases gk with
  | zero =>
   obtain rfl : i = 3 := by omega
   have hnx := run_next_end (P := P) w stops 3
   go_wp2
   go_ret
   exact ⟨rfl, _, rfl⟩
  | succ g =>
   have hi : i < stops.size := by show i < 3; omega
   obtain ⟨x, hx⟩ : ∃ x : UInt8, stops[i]'hi = x := ⟨_, rfl⟩
   obtain ⟨hx128, hxn⟩ := stops_ascii i hi
   have hnx := fun ty => run_next_ascii (P := P) w stops i ty hi hx128
   rw [hx] at hnx hxn
   have hb : ((x.toNat : Int) == 65533) = false := beq_eq_false_iff_ne.2 hxn
   go_wp2
   go_roundg g
   case measure => omega
   case rel => exact ⟨i + 1, by omega, rfl⟩
set_option maxRecDepth 1000000 in
theorem rune_bad (L : Lays.n152 P ρ) (r : Int) (w : World) (h0 : 128 ≤ r) (h1 : r ≠ 65533) (hv : Lib.validRune r = false) :
  Calls P (ρ.f 152) #[.string stops, .int .i32 r] w fun e w' => e = .returned (.int .i64 (-1)) ∧ Below w.heap.size w w' := by
 have t3 := L.t3; have a3 := L.a3; have z3 := L.z3; have v3 := L.v3
 have t4 := L.t4; have a4 := L.a4; have z4 := L.z4; have v4 := L.v4
 have t5 := L.t5; have a5 := L.a5; have z5 := L.z5; have v5 := L.v5
 have t9 := L.t9; have a9 := L.a9; have z9 := L.z9; have v9 := L.v9
 have t21 := L.t21; have a21 := L.a21; have z21 := L.z21; have v21 := L.v21
 have e119 : ∀ args w, (callFunc (ρ.f 119) args).run P w = .ok (.enter (ρ.f 119) args) w := enters_of L.f119 (by kernel_rfl) rfl
 have hlt : ¬ r < 128 := by omega
 have hne : (r == 65533) = false := beq_eq_false_iff_ne.2 h1
 go_enter L.f152, Body.n152_ntmps ρ
 go_wp2_with (go_at_fn (ρ.f 119); refine (Any.utf8_ValidRune { L with } _ _).mono ?_; rintro e w' ⟨rfl, hw⟩; rw [hw, hv])
 go_ret
 exact ⟨rfl, .refl _ _⟩
set_option maxRecDepth 1000000 in
theorem rune_two (L : Lays.n152 P ρ) (r : Int) (w : World) (h0 : 128 ≤ r) (h1 : r ≠ 65533) (hv : Lib.validRune r = true) (a b : UInt8) (he : Utf8.encode r = ⟨#[a, b]⟩) (hb : 128 ≤ b.toNat) :
  Calls P (ρ.f 152) #[.string stops, .int .i32 r] w fun e w' => e = .returned (.int .i64 (-1)) ∧ Below w.heap.size w w' := by
 have mixed := L.mixed
 have t3 := L.t3; have a3 := L.a3; have z3 := L.z3; have v3 := L.v3
 have t4 := L.t4; have a4 := L.a4; have z4 := L.z4; have v4 := L.v4
 have t5 := L.t5; have a5 := L.a5; have z5 := L.z5; have v5 := L.v5
 have t9 := L.t9; have a9 := L.a9; have z9 := L.z9; have v9 := L.v9
 have t21 := L.t21; have a21 := L.a21; have z21 := L.z21; have v21 := L.v21
 have e119 : ∀ args w, (callFunc (ρ.f 119) args).run P w = .ok (.enter (ρ.f 119) args) w := enters_of L.f119 (by kernel_rfl) rfl
 have e137 : ∀ args w, (callFunc (ρ.f 137) args).run P w = .ok (.enter (ρ.f 137) args) w := enters_of L.f137 (by kernel_rfl) rfl
 have hlt : ¬ r < 128 := by omega
 have hne : (r == 65533) = false := beq_eq_false_iff_ne.2 h1
 have hbn : (((stops[1]'(by decide)).toNat : Int) != (((⟨#[a, b]⟩ : ByteArray)[1]'(by simp [ByteArray.size])).toNat : Int)) = true := bne_iff_ne.2 (by show (91 : Int) ≠ (b.toNat : Int); omega)
 have hsum : IntKind.i64.wrap (1 + 1) = 2 := by decide
 have hx : Lib.indexByte (stops.extract 2 3).data.toList ((((⟨#[a, b]⟩ : ByteArray)[1]'(by simp [ByteArray.size])).toNat : Int)).toNat.toUInt8 = -1 := by
  show Lib.indexByte [63] ((b.toNat : Int)).toNat.toUInt8 = -1
  have e : ((b.toNat : Int)).toNat.toUInt8 = b := by simp
  rw [e]
  have hn : ((63 : UInt8) == b) = false := beq_eq_false_iff_ne.2 (fun q => by rw [← q] at hb; exact absurd hb (by decide))
  simp [Lib.indexByte, hn]
 go_enter L.f152, Body.n152_ntmps ρ
 go_wp2_with (first
  | (go_at_fn (ρ.f 119); refine (Any.utf8_ValidRune { L with } _ _).mono ?_; rintro e w' ⟨rfl, hw⟩; rw [hw, hv])
  | (go_at_fn (ρ.f 137); refine (Any.strings_IndexByte { L with } _ _ _).mono ?_; rintro e w' ⟨rfl, hw⟩; rw [hw]))
 go_step3
 go_wp2
 go_loopg [9] 1 (fun g s9 wx => s9 = .int .i64 1 ∧ wx = w)
 case atStart => exact ⟨rfl, rfl⟩
 case round =>
  obtain ⟨rfl, rfl⟩ := hrel
  go_wp2
  go_step3
  go_wp2
  refine wp_region_quiet_lit mixed (by kernel_rfl) ?_
  repeat (first | go_big_quiet_step (fail) | quiet_step (fail))
  refine wpQuiet_nil ?_
  intro _ hw'
  obtain ⟨nq, hw''⟩ := hw'
  subst hw''
  go_wp2
  refine wp_region_quiet_lit mixed (by kernel_rfl) ?_
  repeat (first | go_big_quiet_step (fail) | quiet_step (fail))
  refine wpQuiet_step (fun K hK => ?_)
  go_simp
  refine ⟨_, fun q => ((Any.strings_IndexByte { L with } _ _ _).mono fun e w' h => ⟨h.1, q, h.2⟩), hK _ ?_⟩
  clear hK K
  repeat (first | go_big_quiet_step (fail) | quiet_step (fail))
  refine wpQuiet_nil ?_
  intro _ hw'
  obtain ⟨nq2, hw''⟩ := hw'
  subst hw''
  rw [hx]
  go_wp2
  go_simp
  try rw [Exit.noGoto_ret]
  go_ret
  exact ⟨rfl, ⟨rfl, rfl, rfl, Nat.le_refl _, fun _ _ => rfl⟩⟩
set_option maxRecDepth 1000000 in
theorem rune_three (L : Lays.n152 P ρ) (r : Int) (w : World) (h0 : 128 ≤ r) (h1 : r ≠ 65533) (hv : Lib.validRune r = true) (a b c : UInt8) (he : Utf8.encode r = ⟨#[a, b, c]⟩) (hb : 128 ≤ c.toNat) :
  Calls P (ρ.f 152) #[.string stops, .int .i32 r] w fun e w' => e = .returned (.int .i64 (-1)) ∧ Below w.heap.size w w' := by
 have mixed := L.mixed
 have t3 := L.t3; have a3 := L.a3; have z3 := L.z3; have v3 := L.v3
 have t4 := L.t4; have a4 := L.a4; have z4 := L.z4; have v4 := L.v4
 have t5 := L.t5; have a5 := L.a5; have z5 := L.z5; have v5 := L.v5
 have t9 := L.t9; have a9 := L.a9; have z9 := L.z9; have v9 := L.v9
 have t21 := L.t21; have a21 := L.a21; have z21 := L.z21; have v21 := L.v21
 have e119 : ∀ args w, (callFunc (ρ.f 119) args).run P w = .ok (.enter (ρ.f 119) args) w := enters_of L.f119 (by kernel_rfl) rfl
 have e137 : ∀ args w, (callFunc (ρ.f 137) args).run P w = .ok (.enter (ρ.f 137) args) w := enters_of L.f137 (by kernel_rfl) rfl
 have hlt : ¬ r < 128 := by omega
 have hne : (r == 65533) = false := beq_eq_false_iff_ne.2 h1
 have hbn : (((stops[2]'(by decide)).toNat : Int) != (((⟨#[a, b, c]⟩ : ByteArray)[2]'(by simp [ByteArray.size])).toNat : Int)) = true := bne_iff_ne.2 (by show (63 : Int) ≠ (c.toNat : Int); omega)
 have hsum : IntKind.i64.wrap (2 + 1) = 3 := by decide
 have hx : Lib.indexByte ByteArray.empty.data.toList ((((⟨#[a, b, c]⟩ : ByteArray)[2]'(by simp [ByteArray.size])).toNat : Int)).toNat.toUInt8 = -1 := by
  show Lib.indexByte [] ((c.toNat : Int)).toNat.toUInt8 = -1
  have e : ((c.toNat : Int)).toNat.toUInt8 = c := by simp
  rw [e]
  rfl
 go_enter L.f152, Body.n152_ntmps ρ
 go_wp2_with (first
  | (go_at_fn (ρ.f 119); refine (Any.utf8_ValidRune { L with } _ _).mono ?_; rintro e w' ⟨rfl, hw⟩; rw [hw, hv])
  | (go_at_fn (ρ.f 137); refine (Any.strings_IndexByte { L with } _ _ _).mono ?_; rintro e w' ⟨rfl, hw⟩; rw [hw]))
 go_step3
 go_wp2
 go_loopg [9] 1 (fun g s9 wx => s9 = .int .i64 2 ∧ wx = w)
 case atStart => exact ⟨rfl, rfl⟩
 case round =>
  obtain ⟨rfl, rfl⟩ := hrel
  go_wp2
  go_step3
  go_wp2
  refine wp_region_quiet_lit mixed (by kernel_rfl) ?_
  repeat (first | go_big_quiet_step (fail) | quiet_step (fail))
  refine wpQuiet_nil ?_
  intro _ hw'
  obtain ⟨nq, hw''⟩ := hw'
  subst hw''
  go_wp2
  refine wp_region_quiet_lit mixed (by kernel_rfl) ?_
  repeat (first | go_big_quiet_step (fail) | quiet_step (fail))
  refine wpQuiet_step (fun K hK => ?_)
  go_simp
  refine ⟨_, fun q => ((Any.strings_IndexByte { L with } _ _ _).mono fun e w' h => ⟨h.1, q, h.2⟩), hK _ ?_⟩
  clear hK K
  repeat (first | go_big_quiet_step (fail) | quiet_step (fail))
  refine wpQuiet_nil ?_
  intro _ hw'
  obtain ⟨nq2, hw''⟩ := hw'
  subst hw''
  rw [hx]
  go_wp2
  go_simp
  try rw [Exit.noGoto_ret]
  go_ret
  exact ⟨rfl, ⟨rfl, rfl, rfl, Nat.le_refl _, fun _ _ => rfl⟩⟩
set_option maxRecDepth 1000000 in
theorem rune_four (L : Lays.n152 P ρ) (r : Int) (w : World) (h0 : 128 ≤ r) (h1 : r ≠ 65533) (hv : Lib.validRune r = true) (a b c d : UInt8) (he : Utf8.encode r = ⟨#[a, b, c, d]⟩) :
  Calls P (ρ.f 152) #[.string stops, .int .i32 r] w fun e w' => e = .returned (.int .i64 (-1)) ∧ Below w.heap.size w w' := by
 have mixed := L.mixed
 have t3 := L.t3; have a3 := L.a3; have z3 := L.z3; have v3 := L.v3
 have t4 := L.t4; have a4 := L.a4; have z4 := L.z4; have v4 := L.v4
 have t5 := L.t5; have a5 := L.a5; have z5 := L.z5; have v5 := L.v5
 have t9 := L.t9; have a9 := L.a9; have z9 := L.z9; have v9 := L.v9
 have t21 := L.t21; have a21 := L.a21; have z21 := L.z21; have v21 := L.v21
 have e119 : ∀ args w, (callFunc (ρ.f 119) args).run P w = .ok (.enter (ρ.f 119) args) w := enters_of L.f119 (by kernel_rfl) rfl
 have e137 : ∀ args w, (callFunc (ρ.f 137) args).run P w = .ok (.enter (ρ.f 137) args) w := enters_of L.f137 (by kernel_rfl) rfl
 have hlt : ¬ r < 128 := by omega
 have hne : (r == 65533) = false := beq_eq_false_iff_ne.2 h1
 go_enter L.f152, Body.n152_ntmps ρ
 go_wp2_with (first
  | (go_at_fn (ρ.f 119); refine (Any.utf8_ValidRune { L with } _ _).mono ?_; rintro e w' ⟨rfl, hw⟩; rw [hw, hv])
  | (go_at_fn (ρ.f 137); refine (Any.strings_IndexByte { L with } _ _ _).mono ?_; rintro e w' ⟨rfl, hw⟩; rw [hw]))
 go_step3
 go_wp2
 go_loopg [9] 1 (fun g s9 wx => s9 = .int .i64 3 ∧ wx = w)
 case atStart => exact ⟨rfl, rfl⟩
 case round =>
  obtain ⟨rfl, rfl⟩ := hrel
  go_wp2
  go_simp
  try rw [Exit.noGoto_ret]
  go_ret
  exact ⟨rfl, .refl _ _⟩
theorem rune_far (L : Lays.n152 P ρ) (r : Int) (w : World) (h0 : 128 ≤ r) :
  Calls P (ρ.f 152) #[.string stops, .int .i32 r] w fun e w' => e = .returned (.int .i64 (-1)) ∧ Below w.heap.size w w' := by
 by_cases h1 : r = 65533
 ·
  subst h1
  refine (rune_error L w).mono ?_
  rintro e w' ⟨h, pos, rfl⟩
  exact ⟨h, (Below.refl _ _).alloc (Nat.le_refl _) _⟩
 cases hv : Lib.validRune r with
 | false => exact rune_bad L r w h0 h1 hv
 | true =>
  rcases enc_cases r h0 with ⟨a, b, he, hb⟩ | ⟨a, b, c, he, hb⟩ | ⟨a, b, c, d, he⟩
  ·
   exact rune_two L r w h0 h1 hv a b he hb
  ·
   exact rune_three L r w h0 h1 hv a b c he hb
  ·
   exact rune_four L r w h0 h1 hv a b c d he
theorem get!_at (s : ByteArray) (k : Nat) (h : k < s.size) : s.data.toList[k]? = some (s.get! k) := by
 rw [Lib.data_getElem? s k h]
 congr 1
 exact (get_at s k h).symm
theorem dec_span (s : ByteArray) (pos : Nat) (h : pos < s.size) (ha : 128 ≤ (s[pos]'h).toNat) : pos + (Utf8.decode s pos).2 ≤ s.size ∧ ∀ j, pos ≤ j → j < pos + (Utf8.decode s pos).2 → 128 ≤ (s.get! j).toNat := by
  have h0 : 128 ≤ (s.get! (pos + 0)).toNat := by rw [get_at s pos h]; exact ha
  have fin : ∀ n, (∀ k, k < n → pos + k < s.size ∧ 128 ≤ (s.get! (pos + k)).toNat) → 0 < n → pos + n ≤ s.size ∧ ∀ j, pos ≤ j → j < pos + n → 128 ≤ (s.get! j).toNat := fun n hn h1 =>
    ⟨by have := (hn (n - 1) (by omega)).1; omega, fun j hj hj2 => by have := (hn (j - pos) (by omega)).2; rwa [Nat.add_sub_cancel' hj] at this⟩
  have cont : ∀ k, (decide (pos + k < s.size) && (s.get! (pos + k)).toNat / 64 == 2) = true → pos + k < s.size ∧ 128 ≤ (s.get! (pos + k)).toNat := fun k q => by
    rw [Bool.and_eq_true, decide_eq_true_eq, beq_iff_eq] at q; exact ⟨q.1, by omega⟩
  have z : pos + 0 < s.size ∧ 128 ≤ (s.get! (pos + 0)).toNat := ⟨h, h0⟩
  have one : ∀ c : Nat, pos + (c, 1).2 ≤ s.size ∧ ∀ j, pos ≤ j → j < pos + (c, 1).2 → 128 ≤ (s.get! j).toNat := fun _ => fin 1 (fun k hk => by obtain rfl : k = 0 := by omega
                                                                                                                                               exact z) (by omega)
  unfold Utf8.decode
  simp only
  rw [if_neg (by omega)]
  split
  · rename_i q
    rw [Bool.and_eq_true] at q
    split
    · exact fin 2 (fun k hk => by
        rcases (by omega : k = 0 ∨ k = 1) with rfl | rfl
        · exact z
        · exact cont 1 q.2) (by omega)
    · exact one _
  · split
    · rename_i q
      rw [Bool.and_eq_true, Bool.and_eq_true] at q
      split
      · exact fin 3 (fun k hk => by
          rcases (by omega : k = 0 ∨ k = 1 ∨ k = 2) with rfl | rfl | rfl
          · exact z
          · exact cont 1 q.1.2
          · exact cont 2 q.2) (by omega)
      · exact one _
    · split
      · rename_i q
        rw [Bool.and_eq_true, Bool.and_eq_true, Bool.and_eq_true] at q
        split
        · exact fin 4 (fun k hk => by
            rcases (by omega : k = 0 ∨ k = 1 ∨ k = 2 ∨ k = 3) with rfl | rfl | rfl | rfl
            · exact z
            · exact cont 1 q.1.1.2
            · exact cont 2 q.1.2
            · exact cont 3 q.2) (by omega)
        · exact one _
      · exact one _
theorem stops_high (b : UInt8) (h : 128 ≤ b.toNat) : stops.data.toList.contains b = false := by
 show ([46, 91, 63] : List UInt8).contains b = false
 simp
 refine ⟨?_, ?_, ?_⟩ <;> (rintro rfl; exact absurd h (by decide))
set_option maxRecDepth 1000000 in
theorem any_short (L : Lays.n153 P ρ) (s : ByteArray) (w : World) (h8 : s.size ≤ 8) :
  Calls P (ρ.f 153) #[.string s, .string stops] w fun e w' => e = .returned (.int .i64 (Lib.indexAny s.data.toList stops.data.toList)) ∧ Below w.heap.size w w' := by
 have hemp : stops.toList.isEmpty = false := by rw [Lib.toList_data]; rfl
 have hn1 : ((stops.size : Int) == 1) = false := by decide
 have h8z : decide ((8 : Int) < (s.size : Int)) = false := decide_eq_false (by omega)
 have t3 := L.t3; have a3 := L.a3; have z3 := L.z3; have v3 := L.v3
 have t4 := L.t4; have a4 := L.a4; have z4 := L.z4; have v4 := L.v4
 have t5 := L.t5; have a5 := L.a5; have z5 := L.z5; have v5 := L.v5
 have t9 := L.t9; have a9 := L.a9; have z9 := L.z9; have v9 := L.v9
 have t21 := L.t21; have a21 := L.a21; have z21 := L.z21; have v21 := L.v21
 have e152 : ∀ args w, (callFunc (ρ.f 152) args).run P w = .ok (.enter (ρ.f 152) args) w := enters_of L.f152 (by kernel_rfl) rfl
 have e226 : ∀ args w, (callFunc (ρ.f 226) args).run P w = .ok (.enter (ρ.f 226) args) w := enters_of L.f226 (by kernel_rfl) rfl
 go_enter L.f153, Body.n153_ntmps ρ
 go_wp2_with (go_at_fn (ρ.f 226); refine (Any.strings_shouldUseASCIISet { L with } _ _).mono ?_; rintro e w' ⟨rfl, hw⟩; rw [hw, h8z])
 go_loopg [9, 10] s.size (fun g _ _ wr => ∃ pos : Nat, pos + g = s.size ∧ wr.heap[w.heap.size]? = some (.stringIter s pos) ∧ Below w.heap.size w wr ∧ Lib.NoAny s.data.toList stops.data.toList pos)
 case atStart => exact ⟨0, by omega, World.iter_heap w s 0, (Below.refl _ _).alloc (Nat.le_refl _) _, Lib.NoAny.zero _ _⟩
 case round =>
  obtain ⟨i, hig, hit, hbw, hno⟩ := hrel
  have HN : Aside (Lib.NoAny s.data.toList stops.data.toList i) := hno
  clear hno
  by_cases hp : i < s.size
  ·
   have hnx := fun ty => Lib.run_next_any_at (P := P) wr w.heap.size s i ty hit hp
   have hit2 := Lib.iterAt_heap wr w.heap.size s i (i + (Utf8.decode s i).2) hit
   have hbw2 := Lib.below_iterAt hbw (k := w.heap.size) (Nat.le_refl _) s (i + (Utf8.decode s i).2)
   obtain ⟨W1, hW1⟩ : ∃ W1, W1 = wr.iterAt w.heap.size s (i + (Utf8.decode s i).2) := ⟨_, rfl⟩
   rw [← hW1] at hnx hit2 hbw2
   have hlt1 : w.heap.size < W1.heap.size := (Array.getElem?_eq_some_iff.1 hit2).1
   clear hW1
   obtain ⟨x, hx⟩ : ∃ x : UInt8, s[i]'hp = x := ⟨_, rfl⟩
   have hxl : s.data.toList[i]? = some x := by rw [← hx]; exact Lib.data_getElem? s i hp
   by_cases hxa : x.toNat < 128
   ·
    have hdec : Utf8.decode s i = (x.toNat, 1) := by rw [← hx]; exact decode_ascii s i hp (by rw [hx]; exact hxa)
    rw [hdec] at hnx hit2
    have Hx : Aside (s.data.toList[i]? = some x) := hxl
    clear hxl hx hdec
    have hcon := Lib.contains_iff_indexByte stops.data.toList x
    have hback : ((x.toNat : Int)).toNat.toUInt8 = x := by simp
    cases hin : stops.data.toList.contains x
    ·
     rw [hin] at hcon
     have hlt : ¬ ((0 : Int) ≤ Lib.indexByte stops.data.toList x) := of_decide_eq_false hcon.symm
     clear hcon
     go_wp2_with (go_at_fn (ρ.f 152); refine (Any.strings_IndexRune_ascii { L with } _ _ _ (by omega) (by omega)).mono ?_; rintro e w' ⟨rfl, hw⟩; rw [hw, hback])
     go_roundg (s.size - (i + 1))
     case measure => omega
     case rel => exact ⟨i + 1, by omega, hit2, hbw2, HN.out.succ Hx.out hin⟩
    ·
     rw [hin] at hcon
     have hge : (0 : Int) ≤ Lib.indexByte stops.data.toList x := of_decide_eq_true hcon.symm
     clear hcon
     go_wp2_with (go_at_fn (ρ.f 152); refine (Any.strings_IndexRune_ascii { L with } _ _ _ (by omega) (by omega)).mono ?_; rintro e w' ⟨rfl, hw⟩; rw [hw, hback])
     go_ret
     exact ⟨by rw [Lib.indexAny_hit HN.out Hx.out hin]; rfl, hbw2⟩
   ·
    have hxa' : 128 ≤ (s[i]'hp).toNat := by rw [hx]; omega
    obtain ⟨d1, d2⟩ := decode_high s i hp hxa'
    obtain ⟨d3, d4⟩ := dec_span s i hp hxa'
    have HD : Aside (Lib.NoAny s.data.toList stops.data.toList (i + (Utf8.decode s i).2)) := fun j b hj hb => by
     by_cases c : j < i
     ·
      exact HN.out j b c hb
     ·
      have q := d4 j (by omega) hj
      have hjs : j < s.size := by omega
      rw [get!_at s j hjs] at hb
      cases hb
      exact stops_high _ q
    generalize hdd : Utf8.decode s i = dd at *
    obtain ⟨r, k⟩ := dd
    simp only at d1 d2 d3 HD hnx hit2
    clear d4 hdd hxa' hxa hxl hx
    have hlt : ¬ ((0 : Int) ≤ -1) := by decide
    go_wp2_with (go_at_fn (ρ.f 152); refine (rune_far { L with } _ _ (by omega)).mono ?_; rintro e w2 ⟨rfl, hb2⟩)
    go_roundg (s.size - (i + k))
    case measure => omega
    case rel => exact ⟨i + k, by omega, by rw [hb2.block w.heap.size hlt1]; exact hit2, hbw2.trans ⟨hb2.os, hb2.tape, hb2.output, by have := hb2.size; omega, fun j hj => hb2.block j (by omega)⟩, HD.out⟩
  ·
   have hnx := Lib.run_next_end_at (P := P) wr w.heap.size s i
   have hnx := fun ty => hnx ty hit hp
   go_wp2
   go_ret
   exact ⟨by rw [Lib.indexAny_none (by rw [← Lib.size_eq]; exact fun j b hj => HN.out j b (by omega))]; rfl, hbw⟩
end Go.Proofs
namespace Go.Proofs.YtkpooohjodojoaaGreatDoor
open Go Go.RowKit Go.Ev
abbrev MaxL (w0 : World) : Prop := ∃ m, w0.cell? ⟨2, 0, none⟩ = some (.int .i64 m)
abbrev ErrS (w0 : World) : Prop := (∃ ev, w0.cell? ⟨4, 0, none⟩ = some ev ∧ (ev = .nilIface ∨ ∃ te pe, ev = .iface te pe)) ∧ ∃ ev, w0.cell? ⟨5, 0, none⟩ = some ev ∧ (ev = .nilIface ∨ ∃ te pe, ev = .iface te pe)
theorem stops_low : ∀ (j : Nat) (b : UInt8), stops.data.toList[j]? = some b → b.toNat < 128 := fun j b h => by
 have h2 : b ∈ ([46, 91, 63] : List UInt8) := List.mem_of_getElem? h
 simp only [List.mem_cons, List.not_mem_nil, or_false] at h2
 rcases h2 with rfl | rfl | rfl <;> decide
theorem cell_later {w0 w : World} {p : Addr} {v : Value} (h : w0.cell? p = some v) (hb : Below w0.heap.size w0 w) : w.cell? p = some v := by
 rw [hb.cell (World.block_lt_of_cell? w0 _ h)]; exact h
def anyI (s : ByteArray) : Int := Lib.indexAny s.data.toList [46, 91, 63]
def hasPre (s p : ByteArray) : Bool := Lib.hasPrefix s.data.toList p.data.toList
def cutA (s p : ByteArray) : ByteArray := ⟨(Lib.cut s.data.toList p.data.toList).1.toArray⟩
def cutB (s p : ByteArray) : ByteArray := ⟨(Lib.cut s.data.toList p.data.toList).2.1.toArray⟩
def cutC (s p : ByteArray) : Bool := (Lib.cut s.data.toList p.data.toList).2.2
section
variable (w0 : World) (B : List (List AV)) (Rw : List RowA) (L : List LoopA)
theorem sIndexAny_at2 (s c : ByteArray) (h : s.size ≤ 4294967280 ∧ c = stops) :
  ACalls Tryz.prog w0 106 [.val (.string s), .val (.string c)] ⟨B, Rw, L⟩ fun v s' => v = .val (.int .i64 (anyI s)) ∧ s' = ⟨B, Rw, L⟩ :=
 acalls_below (enters_some Tryz.func106 rfl (by decide)) rfl fun M w vals hb hrow => by
  obtain ⟨h, rfl⟩ := h
  have := row_vals (us := [.string s, .string stops]) hrow
  subst this
  by_cases h8 : s.size ≤ 8
  ·
   exact any_short Tryz.lays153 s w h8
  ·
   refine (Tryz.strings_IndexAny_long (zero_of_info (show (Tryz.prog.info? 239).map (fun i => (i.zero, i.size)) = some (some (.agg (Array.replicate 256 (.bool false))), 256) by kernel_rfl)).1 s stops w (by decide) (by omega) (by omega) (by decide) stops_low).mono fun e w' ⟨h1, h2⟩ => ⟨h1, ?_⟩
   rw [h2]
   exact ((Below.refl _ _).alloc (Nat.le_refl _) _).alloc (by simp) _
theorem sHasPrefix_at2 (s p : ByteArray) :
  ACalls Tryz.prog w0 107 [.val (.string s), .val (.string p)] ⟨B, Rw, L⟩ fun v s' => v = .val (.bool (hasPre s p)) ∧ s' = ⟨B, Rw, L⟩ :=
 acalls_below (enters_some Tryz.func107 rfl (by decide)) rfl fun M w vals hb hrow => by
  have := row_vals (us := [.string s, .string p]) hrow
  subst this
  exact (Tryz.strings_HasPrefix s p w).mono fun e w' ⟨h1, h2⟩ => ⟨h1, h2 ▸ Below.refl _ _⟩
theorem cut_size (s p : ByteArray) : (cutA s p).size ≤ s.size ∧ (cutB s p).size ≤ s.size := by
 have e : s.data.toList.length = s.size := by simp
 unfold cutA cutB Lib.cut
 split
 ·
  refine ⟨?_, ?_⟩
  ·
   show ((s.data.toList.take _).toArray).size ≤ _
   rw [List.size_toArray, List.length_take]; omega
  ·
   show ((s.data.toList.drop _).toArray).size ≤ _
   rw [List.size_toArray, List.length_drop]; omega
 ·
  refine ⟨?_, ?_⟩
  ·
   show (s.data.toList.toArray).size ≤ _
   rw [List.size_toArray]; omega
  ·
   exact Nat.zero_le _
theorem sCut_at2 (hM : MaxL w0) (s p : ByteArray) (h : s.size ≤ 4294967280) :
  ACalls Tryz.prog w0 108 [.val (.string s), .val (.string p)] ⟨B, Rw, L⟩ fun v s' => v = .tup [.val (.string (cutA s p)), .val (.string (cutB s p)), .val (.bool (cutC s p))] ∧ s' = ⟨B, Rw, L⟩ :=
 acalls_below_tup (rs := [.string (cutA s p), .string (cutB s p), .bool (cutC s p)]) (enters_some Tryz.func108 rfl (by decide)) (by
  obtain ⟨c1, c2⟩ := cut_size s p
  have k : ∀ x : ByteArray, x.size ≤ s.size → flatV (.string x) = true := fun x hx => decide_eq_true (by unfold maxLen; omega)
  intro r hr
  simp only [List.mem_cons, List.not_mem_nil, or_false] at hr
  rcases hr with rfl | rfl | rfl
  ·
   exact k _ c1
  ·
   exact k _ c2
  ·
   rfl) fun M w vals hb hrow => by
  have := row_vals (us := [.string s, .string p]) hrow
  subst this
  obtain ⟨m, hm⟩ := hM
  exact (Tryz.strings_Cut s p m w (by omega) (cell_later hm hb)).mono fun e w' ⟨h1, n, h2⟩ => ⟨h1, h2 ▸ (⟨rfl, rfl, rfl, Nat.le_refl _, fun _ _ => rfl⟩ : Below w.heap.size w (w.drewN n))⟩
end
@[go_sem] theorem ifaceT_error : ifaceT Tryz.prog 198 = true := by kernel_rfl
end Go.Proofs.YtkpooohjodojoaaGreatDoor
namespace Go.Ev
open Go Go.RowKit Go.Shelf Go.Lib Go.Proofs
structure DelLay (P : Program) (ρ : Ren) (nm : String) (sz bytes : Nat) (z : Value) : Prop where
 mixed : P.follows .mixedOrders = true
 nmo : (nm == "runtime.NumGoroutine") = false
 f45 : P.funcs[ρ.f 45]? = some { SlBodyN.n45 ρ with name := nm }
 t0 : P.underlying (ρ.t 0) = some (TypeDesc.tuple #[])
 a0 : ∀ w, (isAgg (ρ.t 0)).run P w = .ok false w
 z0 : ∀ w, (Go.sizeOf (ρ.t 0)).run P w = .ok 1 w
 v0 : ∀ w, (zeroValue (ρ.t 0)).run P w = .ok (Value.tuple #[]) w
 t3 : P.underlying (ρ.t 3) = some (TypeDesc.int IntKind.i64)
 a3 : ∀ w, (isAgg (ρ.t 3)).run P w = .ok false w
 z3 : ∀ w, (Go.sizeOf (ρ.t 3)).run P w = .ok 1 w
 v3 : ∀ w, (zeroValue (ρ.t 3)).run P w = .ok (Value.int IntKind.i64 0) w
 t4 : P.underlying (ρ.t 4) = some (TypeDesc.bool)
 a4 : ∀ w, (isAgg (ρ.t 4)).run P w = .ok false w
 z4 : ∀ w, (Go.sizeOf (ρ.t 4)).run P w = .ok 1 w
 v4 : ∀ w, (zeroValue (ρ.t 4)).run P w = .ok (Value.bool false) w
 t22 : P.underlying (ρ.t 22) = some (TypeDesc.slice (ρ.t 23))
 a22 : ∀ w, (isAgg (ρ.t 22)).run P w = .ok false w
 z22 : ∀ w, (Go.sizeOf (ρ.t 22)).run P w = .ok 1 w
 v22 : ∀ w, (zeroValue (ρ.t 22)).run P w = .ok (Value.slice none 0 0) w
 z23 : ∀ w, (Go.sizeOf (ρ.t 23)).run P w = .ok sz w
 v23 : ∀ w, (zeroValue (ρ.t 23)).run P w = .ok z w
 i23 : (P.info? (ρ.t 23)).map (fun i => (i.zero, i.size, i.bytes)) = some (some z, sz, bytes)
section
variable {P : Program} {ρ : Ren} {nm : String} {sz bytes : Nat} {z : Value}
theorem run_clear_sz (w : World) (t e ty : TypeId) (ht : P.underlying t = some (.slice e)) (hv : ∀ w, (zeroValue e).run P w = .ok z w) (b o n c : Nat) (zs : List Value) (hzs : (Builtin.zeroCells z.cells n).toList = zs) (h1 : ∀ v ∈ zs, v.oneCell' = true) (hn : 0 < n)
  (hc : ∀ j, j < zs.length → (w.cell? ⟨b, o + j, none⟩).isSome = true) (hf : ∀ j, j < zs.length → w.frozen? ⟨b, o + j, none⟩ = false) :
  (Builtin.clear_ #[t] ty #[.slice (some ⟨b, o, none⟩) n c]).run P w = .ok (.tuple #[]) (w.setCells b o zs) := by
 have hst := run_storeCells_cells (P := P) b o zs 0 w (by simpa using hc) (by simpa using hf) h1
 simp only [Nat.add_zero] at hst
 obtain ⟨m, rfl⟩ : ∃ m, n = m + 1 := ⟨n - 1, by omega⟩
 simp [Builtin.clear_, run_underlying ht, hv, hzs, hst]
set_option maxRecDepth 1000000 in
theorem del_shift (L : DelLay P ρ nm sz bytes z) (b off n c i j : Nat) (cs zs : List Value) (w : World) (hij : i < j) (hj : j ≤ n) (hnc : n ≤ c) (hc63 : c ≤ 9223372036854775807)
  (hcl : cs.length = n * sz) (hcs : ∀ k v, cs[k]? = some v → w.cell? ⟨b, off + k, none⟩ = some v) (hfz : ∀ k, w.frozen? ⟨b, k, none⟩ = false) (h1c : ∀ v ∈ cs, v.oneCell' = true)
  (hzs : (Builtin.zeroCells z.cells (n - (i + (n - j)))).toList = zs) (hzl : zs.length = (j - i) * sz) (h1z : ∀ v ∈ zs, v.oneCell' = true) :
  Calls P (ρ.f 45) #[.slice (some ⟨b, off, none⟩) n c, .int .i64 i, .int .i64 j] w fun e w' =>
   e = .returned (.slice (some ⟨b, off, none⟩) (i + (n - j)) c) ∧ w' = (w.drew.setCells b (off + i * sz) (cs.drop (j * sz))).setCells b (off + (i + (n - j)) * sz) zs := by
 have t0 := L.t0; have a0 := L.a0; have z0 := L.z0; have v0 := L.v0; have t3 := L.t3; have a3 := L.a3; have z3 := L.z3; have v3 := L.v3; have t4 := L.t4; have a4 := L.a4; have z4 := L.z4; have v4 := L.v4; have t22 := L.t22; have a22 := L.a22; have z22 := L.z22; have v22 := L.v22; have z23 := L.z23; have v23 := L.v23
 have u0 := run_underlying L.t0; have u3 := run_underlying L.t3; have u4 := run_underlying L.t4; have u22 := run_underlying L.t22
 have mixed := L.mixed
 obtain ⟨i0, hi0, hz0, hz1, hz2⟩ := info_parts L.i23
 have e1 : j * sz + (n - j) * sz = n * sz := by rw [← Nat.add_mul]; congr 1; omega
 have e2 : i * sz + (j - i) * sz = j * sz := by rw [← Nat.add_mul]; congr 1; omega
 have e3 : (i + (n - j)) * sz = i * sz + (n - j) * sz := Nat.add_mul ..
 have e4 : n - (i + (n - j)) = j - i := by omega
 obtain ⟨news, hnews⟩ : ∃ news, news = cs.drop (j * sz) := ⟨_, rfl⟩
 have hlen : news.length = (n - j) * sz := by rw [hnews, List.length_drop, hcl]; omega
 obtain ⟨A, hA, hsrc⟩ : ∃ A : Addr, (if c = j then some (⟨b, off, none⟩ : Addr) else some ⟨b, off + j * sz, none⟩) = some A ∧ Hid (∀ t u, news[t]? = some u → w.drew.cell? (A.add t) = some u) := by
  by_cases h : c = j
  ·
   refine ⟨⟨b, off, none⟩, by simp [h], fun t u hu => ?_⟩
   have h0 : news.length = 0 := by rw [hlen, show n - j = 0 by omega, Nat.zero_mul]
   rw [List.length_eq_zero_iff.1 h0] at hu
   simp at hu
  ·
   refine ⟨⟨b, off + j * sz, none⟩, by simp [h], fun t u hu => ?_⟩
   rw [hnews, List.getElem?_drop] at hu
   rw [Addr.add_lit, Nat.add_assoc]
   exact hcs _ _ hu
 have some_ : ∀ k, k < n * sz → (w.cell? ⟨b, off + k, none⟩).isSome = true := fun k hk => by
  rw [hcs k _ (List.getElem?_eq_getElem (by omega))]; rfl
 have s1 : Hid (news.length = (n - j) * sz) := hlen
 have s2 : Hid (∀ u ∈ news, u.oneCell' = true) := fun u hu => h1c u (by rw [hnews] at hu; exact List.mem_of_mem_drop hu)
 have s3 : Hid (∀ t, t < news.length → (w.drew.cell? ⟨b, off + i * sz + t, none⟩).isSome = true ∧ w.drew.frozen? ⟨b, off + i * sz + t, none⟩ = false) := by
  intro t ht
  rw [hlen] at ht
  rw [Nat.add_assoc]
  exact ⟨some_ _ (by omega), hfz _⟩
 obtain ⟨W1, hW1⟩ : ∃ W1, W1 = w.drew.setCells b (off + i * sz) news := ⟨_, rfl⟩
 have some1 : ∀ k, k < n * sz → (W1.cell? ⟨b, off + k, none⟩).isSome = true := fun k hk => by
  rw [hW1]
  exact isSome_setCells b _ _ _ (fun t ht => by rw [Nat.add_assoc]; exact some_ _ (by omega)) _ (some_ k hk)
 have hcl : ∀ ty, (Builtin.clear_ #[ρ.t 22] ty #[.slice (some ⟨b, off + (i + (n - j)) * sz, none⟩) (n - (i + (n - j))) (c - (i + (n - j)))]).run P W1 = .ok (.tuple #[]) (W1.setCells b (off + (i + (n - j)) * sz) zs) :=
  fun ty => run_clear_sz W1 _ _ ty t22 v23 b _ _ _ zs hzs h1z (by omega) (fun t ht => by rw [Nat.add_assoc]; exact some1 _ (by omega)) (fun t ht => by rw [hW1, World.frozen?_setCells]; exact hfz _)
 have hW : Hid (W1 = w.drew.setCells b (off + i * sz) news) := hW1
 have hN : Aside (news = cs.drop (j * sz)) := hnews
 have hic : i ≤ c := by omega
 have hjc : j ≤ c := by omega
 have hijn : i ≤ n := by omega
 clear hW1 hcs hnews hlen some_ some1 e1 e2 e3 e4 hzs hzl h1z h1c hfz
 have FG := L.f45
 go_enter FG, SlBodyN.n45_ntmps ρ
 go_wp2_with fail
 go_region_law_o (refine step_append_room rfl (.tmp 22) (.tmp 25) (ρ.t 22) rfl (ρ.t 23) i0 sz t22 hi0 hz1 b off i c (by simp [Act.eval, Act.put]) A (n - j) (c - j) news (by simp [Act.eval, Act.put]) s1.out hsrc.out s2.out (by omega) s3.out ?_; rw [← hW.out])
 go_wp2
 go_ret
 refine ⟨rfl, ?_⟩
 rw [hW.out, hN.out]
end
theorem del_R {T rest : List Value} {cs : List AV} {a b N : Nat} {Rl : Value → AV → Prop} (hab : a ≤ b) (hbN : b ≤ N) (hN : N ≤ T.length) (hc : cs.length = N) (h : ∀ (j : Nat) (v : Value) (x : AV), T[j]? = some v → cs[j]? = some x → Rl v x) (k : Nat) (v : Value) (x : AV)
  (h1 : (T.take a ++ (T.take N).drop b ++ rest)[k]? = some v) (h2 : (cs.take a ++ cs.drop b)[k]? = some x) : Rl v x := by
 have la : (T.take a).length = a := by simp; omega
 have lb : ((T.take N).drop b).length = N - b := by simp; omega
 have lc : (cs.take a).length = a := by simp; omega
 rw [List.append_assoc] at h1
 by_cases c : k < a
 ·
  rw [List.getElem?_append_left (by omega), List.getElem?_take, if_pos c] at h1 h2
  exact h k v x h1 h2
 ·
  rw [List.getElem?_append_right (by omega), lc, List.getElem?_drop] at h2
  have hlt := (List.getElem?_eq_some_iff.1 h2).1
  rw [List.getElem?_append_right (by omega), la, List.getElem?_append_left (by omega), List.getElem?_drop, List.getElem?_take, if_pos (by omega)] at h1
  exact h _ v x h1 h2
theorem zero_one {z : Value} (h : ∀ v ∈ z.cells.toList, v.oneCell' = true) (n : Nat) : ∀ v ∈ (Builtin.zeroCells z.cells n).toList, v.oneCell' = true := by
 intro v hv
 rw [Builtin.zeroCells, Array.toList_map, List.mem_map] at hv
 obtain ⟨k, hk, rfl⟩ := hv
 by_cases c : z.cells.size = 0
 ·
  simp [c] at hk
 ·
  have hlt : k % z.cells.size < z.cells.size := Nat.mod_lt _ (by omega)
  rw [getElem!_pos z.cells _ hlt]
  exact h _ (by simp)
section
variable {P : Program} {w0 : World} {ρ : Ren} {nm : String} {sz bytes : Nat} {z : Value} {st : St} {M : Mem} {w : World}
theorem delete_row (L : DelLay P ρ nm sz bytes z) (hzc : z.cells.size = sz) (hz1 : ∀ v ∈ z.cells.toList, v.oneCell' = true) (h0 : 0 < sz) {id ver n i j : Nat} {cs : List AV} (hrow : st.rows[id]? = some (.vec ver sz cs)) (hcs : cs.length = n * sz) (hij : i < j) (hj : j ≤ n)
  {v0 : Value} (hst : RelSt w0 M st w) (hv0 : R w0 M w v0 (.vec id ver 0 n)) :
  Calls P (ρ.f 45) #[v0, .int .i64 i, .int .i64 j] w (Comes' w0 M w fun r s => r = .vec id (ver + 1) 0 (i + (n - j)) ∧ s = { st with rows := st.rows.set id (.vec (ver + 1) sz (cs.take (i * sz) ++ cs.drop (j * sz))) }) := by
 have hidN : id < M.NR := by rw [hst.NR]; exact (List.getElem?_eq_some_iff.1 hrow).1
 obtain ⟨f1, f2, f3, f4, f5, f6, f7, cur, te, f8, f9, f10, f11, f12⟩ := hst.row id _ hrow
 cases hv0 with
 | @vec _ _ _ _ p cap hid' hver hh =>
 obtain ⟨rfl, hcap, hnc⟩ := hh f1.symm
 simp only [Nat.add_zero, Nat.zero_mul] at hcap ⊢
 subst hcap
 have e1 : j * sz + (n - j) * sz = n * sz := by rw [← Nat.add_mul]; congr 1; omega
 have e2 : i * sz + (j - i) * sz = j * sz := by rw [← Nat.add_mul]; congr 1; omega
 have e3 : (i + (n - j)) * sz = i * sz + (n - j) * sz := Nat.add_mul ..
 have e4 : n - (i + (n - j)) = j - i := by omega
 have hncap : n * sz ≤ cur.size := by rw [f9]; exact Nat.mul_le_mul_right _ hnc
 have hclen : (cur.toList.take (n * sz)).length = n * sz := by simp; omega
 have hcone : ∀ v ∈ cur.toList.take (n * sz), v.oneCell' = true := by
  intro v hv
  obtain ⟨k, hk, rfl⟩ := List.mem_iff_getElem.1 hv
  rw [hclen] at hk
  rw [List.getElem_take, Array.getElem_toList]
  exact (f12 k (by omega) (by omega)).oneCell (f11 _ (List.getElem_mem _))
 have hcell : ∀ k v, (cur.toList.take (n * sz))[k]? = some v → w.cell? ⟨M.blk id, 0 + k, none⟩ = some v := by
  intro k u hk
  rw [List.getElem?_take] at hk
  split at hk
  ·
   rw [Nat.zero_add, cell_of_row w _ k cur te _ f8, ← Array.getElem?_toList]; exact hk
  ·
   cases hk
 have hone : ∀ x ∈ cs.take (i * sz) ++ cs.drop (j * sz), x.one = true := by
  intro x hx
  rcases List.mem_append.1 hx with hx | hx
  ·
   exact f11 x (List.mem_of_mem_take hx)
  ·
   exact f11 x (List.mem_of_mem_drop hx)
 have hcl : (cs.take (i * sz) ++ cs.drop (j * sz)).length = (i + (n - j)) * sz := by
  rw [List.length_append, List.length_take, List.length_drop, e3]; omega
 have hcells : ∀ (cells : Array Value) (rest : List Value), cells.toList = cur.toList.take (i * sz) ++ (cur.toList.take (n * sz)).drop (j * sz) ++ rest → ∀ (k : Nat) (v : Value) (x : AV), cells[k]? = some v → (cs.take (i * sz) ++ cs.drop (j * sz))[k]? = some x → R w0 M w v x := by
  intro cells rest hcl' k v x hv' hx'
  rw [← Array.getElem?_toList, hcl'] at hv'
  refine del_R (T := cur.toList) (rest := rest) (N := n * sz) (by omega) (by omega) (by simpa using hncap) hcs (fun j v x h1 h2 => ?_) k v x hv' hx'
  rw [Array.getElem?_toList] at h1
  obtain ⟨q1, rfl⟩ := Array.getElem?_eq_some_iff.1 h1
  obtain ⟨q2, rfl⟩ := List.getElem?_eq_some_iff.1 h2
  exact f12 j q1 q2
 obtain ⟨d1, d2⟩ := hst.drew
 obtain ⟨zs, hzs⟩ : ∃ zs, (Builtin.zeroCells z.cells (n - (i + (n - j)))).toList = zs := ⟨_, rfl⟩
 have hzl : zs.length = (j - i) * sz := by rw [← hzs, Array.length_toList, size_zeroCells, hzc, e4]
 have hzo : ∀ v ∈ zs, v.oneCell' = true := by rw [← hzs]; exact zero_one hz1 _
 refine (del_shift L (M.blk id) 0 n (M.cap id) i j (cur.toList.take (n * sz)) zs w hij hj hnc (by unfold maxLen at f6; omega) hclen hcell (fun k => by simp [World.frozen?, f8]) hcone hzs hzl hzo).mono ?_
 rintro en w' ⟨rfl, rfl⟩
 have hw0 : w.drew.heap[M.blk id]? = some (.cells cur te (0, 0)) := f8
 have hdl : ((cur.toList.take (n * sz)).drop (j * sz)).length = (n - j) * sz := by rw [List.length_drop, hclen]; omega
 rw [setCells_row P hw0 _ _ (by rw [hdl]; omega) (fun v hv => hcone v (List.mem_of_mem_drop hv))]
 have hw1 := setRow_heap w.drew (M.blk id) cur (cur.toList.take (0 + i * sz) ++ (cur.toList.take (n * sz)).drop (j * sz) ++ cur.toList.drop (0 + i * sz + ((cur.toList.take (n * sz)).drop (j * sz)).length)).toArray te _ hw0
 rw [setCells_row P hw1 _ _ (by simp only [List.size_toArray, List.length_append, List.length_take, List.length_drop, Array.length_toList]; omega) hzo, setRow_setRow]
 simp only [Nat.zero_add]
 generalize hc' : ((cur.toList.take (i * sz) ++ (cur.toList.take (n * sz)).drop (j * sz) ++ cur.toList.drop (i * sz + ((cur.toList.take (n * sz)).drop (j * sz)).length)).take ((i + (n - j)) * sz) ++ zs ++ (cur.toList.take (i * sz) ++ (cur.toList.take (n * sz)).drop (j * sz) ++ cur.toList.drop (i * sz + ((cur.toList.take (n * sz)).drop (j * sz)).length)).drop ((i + (n - j)) * sz + zs.length)).toArray = cur'
 have hAD : (cur.toList.take (i * sz) ++ (cur.toList.take (n * sz)).drop (j * sz)).length = (i + (n - j)) * sz := by
  rw [List.length_append, hdl, List.length_take, Array.length_toList, e3]; omega
 have hlist : cur'.toList = cur.toList.take (i * sz) ++ (cur.toList.take (n * sz)).drop (j * sz) ++ (zs ++ (cur.toList.take (i * sz) ++ (cur.toList.take (n * sz)).drop (j * sz) ++ cur.toList.drop (i * sz + ((cur.toList.take (n * sz)).drop (j * sz)).length)).drop ((i + (n - j)) * sz + zs.length)) := by
  rw [← hc', List.take_append_of_le_length (by omega), List.take_of_length_le (by omega)]
  simp only [List.append_assoc]
 have hsz' : cur'.size = cur.size := by
  rw [← Array.length_toList, hlist]
  simp only [List.length_append, List.length_take, List.length_drop, Array.length_toList, hzl]
  omega
 have hext : Ext w0 M w.drew (M.growRow id (M.blk id) (M.cap id) (ver + 1) 0) (w.drew.setRow (M.blk id) cur') := by
  refine ext_setRow (M := M) (M.growRow id (M.blk id) (M.cap id) (ver + 1) 0) rfl (fun _ _ => rfl) rfl (fun i hi => ?_) (fun b => ?_) hw0 f3 (fun j hj => by rw [f4] at hj; omega) (Mem.own_row hidN) (fun b => foreign_grow hidN)
  ·
   by_cases c : i = id
   ·
    subst c
    simp only [Mem.growRow, if_true, f1]
    exact ⟨by omega, fun q => absurd q (by omega)⟩
   ·
    simp only [Mem.growRow, if_neg c]
    exact ⟨Nat.le_refl _, fun _ => ⟨trivial, trivial, trivial⟩⟩
  ·
   simp only [Mem.growRow]
   split
   ·
    rename_i c
    rw [c, f4]
    exact Nat.le_refl _
   ·
    exact Nat.le_refl _
 have hblt := hst.row_lt hidN
 have q : (M.growRow id (M.blk id) (M.cap id) (ver + 1) 0).fr id = ver + 1 ∧ (M.growRow id (M.blk id) (M.cap id) (ver + 1) 0).blk id = M.blk id ∧ (M.growRow id (M.blk id) (M.cap id) (ver + 1) 0).cap id = M.cap id ∧ (M.growRow id (M.blk id) (M.cap id) (ver + 1) 0).rsz id = M.rsz id ∧ (M.growRow id (M.blk id) (M.cap id) (ver + 1) 0).top (M.blk id) = 0 := by simp [Mem.growRow]
 obtain ⟨q1, q2, q3, q4, q5⟩ := q
 have hroom : i + (n - j) ≤ M.cap id := by omega
 have hst' := d1.growRow' hrow (x := .vec (ver + 1) sz (cs.take (i * sz) ++ cs.drop (j * sz))) (w' := w.drew.setRow (M.blk id) cur') (b := M.blk id) (cap := M.cap id) (k := ver + 1) (tp := 0) (Below.setRow (Below.refl _ _) f3 _) (by simp) (by simpa using hblt)
  (fun l hl => ⟨f5 l hl, setRow_other w.drew _ _ _ (f5 l hl)⟩) (fun i hi hne => by
   have : M.blk i ≠ M.blk id := fun q => hne (hst.rowinj i id hi hidN q)
   exact ⟨this, setRow_other w.drew _ _ _ this⟩) (by
   simp only [RowOk, q1, q2, q3, q4, q5]
   exact ⟨trivial, f2, f3, trivial, f5, f6, h0, cur', te, setRow_heap w.drew _ cur cur' te _ hw0, hsz'.trans f9, by rw [hcl, hsz', f9]; exact Nat.mul_le_mul_right _ hroom, hone,
    fun i a b => ((hcells cur' _ hlist i _ _ (Array.getElem?_eq_getElem a) (List.getElem?_eq_getElem b)).mono d2).mono hext⟩) hext (KeepsObj.setRow hw0 _)
 exact ⟨_, _, _, _, rfl, ⟨rfl, rfl⟩, d2.trans hext, hst', .vec hidN (by rw [q1]; exact Nat.le_refl _) fun _ => ⟨by rw [q2]; simp, by rw [q3]; rfl, hroom⟩⟩
theorem delete_vec (L : DelLay P ρ nm sz bytes z) (hen : Enters P (ρ.f 45)) (hzc : z.cells.size = sz) (hz1 : ∀ v ∈ z.cells.toList, v.oneCell' = true) (h0 : 0 < sz) {id ver n i j : Nat} {cs : List AV} (hrow : st.rows[id]? = some (.vec ver sz cs)) (hcs : cs.length = n * sz) (hij : i < j) (hj : j ≤ n) :
  ACalls P w0 (ρ.f 45) [.vec id ver 0 n, .val (.int .i64 i), .val (.int .i64 j)] st fun r s => r = .vec id (ver + 1) 0 (i + (n - j)) ∧ s = { st with rows := st.rows.set id (.vec (ver + 1) sz (cs.take (i * sz) ++ cs.drop (j * sz))) } := by
 refine ⟨hen, fun M w vals hst hrow' => ?_⟩
 obtain ⟨v0, v1, v2, rfl⟩ : ∃ v0 v1 v2, vals = #[v0, v1, v2] := by
  have := hrow'.1
  simp only [List.length_cons, List.length_nil] at this
  obtain ⟨l⟩ := vals
  match l, this with
  | [a, b, c], _ => exact ⟨a, b, c, rfl⟩
 have hv0 : R w0 M w v0 (.vec id ver 0 n) := hrow'.2 0 (by simp) (by simp)
 have hv1 : R w0 M w v1 (.val (.int .i64 i)) := hrow'.2 1 (by simp) (by simp)
 have hv2 : R w0 M w v2 (.val (.int .i64 j)) := hrow'.2 2 (by simp) (by simp)
 obtain ⟨rfl, _⟩ := hv1.val_inv
 obtain ⟨rfl, _⟩ := hv2.val_inv
 exact delete_row L hzc hz1 h0 hrow hcs hij hj hst hv0
end
end Go.Ev
namespace Go.Proofs.YtkpooohjodojoaaGreatDoor
open Go Go.RowKit Go.Ev
set_option maxRecDepth 100000
noncomputable def decF : Nat → Nat → List UInt8
 | 0, _ => []
 | k + 1, u => if Nat.blt u 10 = true then [UInt8.ofNat (48 + u)] else decF k (u / 10) ++ [UInt8.ofNat (48 + u % 10)]
theorem decF_eq : ∀ (k u : Nat), u < 10 ^ k → 0 < k → decF k u = Lib.decDigits u
 | 0, u, _, h => absurd h (Nat.lt_irrefl _)
 | k + 1, u, h, _ => by
  rw [decF, Lib.decDigits]
  by_cases q : u < 10
  ·
   rw [if_pos (by simpa using q), dif_pos q]
  ·
   rw [if_neg (by simpa using q), dif_neg q]
   have hk : 0 < k := by
    cases k with
    | zero => simp at h; omega
    | succ k => omega
   rw [decF_eq k (u / 10) (by rw [Nat.pow_succ] at h; omega) hk]
theorem sEqT {x y : ByteArray} (h : sEq x y = true) : x = y := by
 have : x.data.toList = y.data.toList := eq_of_beq h
 have : x.data = y.data := Array.toList_inj.1 this
 cases x; cases y; simp_all
section
noncomputable def extL1 (f : FuncId) (args : List AV) : Option AV :=
 if Nat.beq f 106 = true then (match args with | [.val (.string s), .val (.string c)] => if (Nat.ble s.size 4294967280 && sEq c stops) = true then some (.val (.int .i64 (anyI s))) else none | _ => none)
 else if Nat.beq f 107 = true then (match args with | [.val (.string s), .val (.string p)] => some (.val (.bool (hasPre s p))) | _ => none)
 else if Nat.beq f 108 = true then (match args with | [.val (.string s), .val (.string p)] => if Nat.ble s.size 4294967280 = true then some (.tup [.val (.string (cutA s p)), .val (.string (cutB s p)), .val (.bool (cutC s p))]) else none | _ => none)
 else if Nat.beq f 95 = true then (match args with | [.val (.string s), .val (.string p)] => some (.val (.int .i64 (cmpS s p))) | _ => none)
 else if Nat.beq f 127 = true then (match args with | [.val (.string s)] => if Nat.ble s.size 4294967280 = true then some (.val (.bool (Lib.validD s.data.toList))) else none | _ => none)
 else if Nat.beq f 53 = true then (match args with | [.val (.int .i64 (.ofNat n))] => if Nat.blt n 1000000000000000000 = true then some (.val (.string ⟨(decF 18 n).toArray⟩)) else none | _ => none)
 else if Nat.beq f 57 = true then (match args with | [.list [] .none] => some (.list [] .full) | [.list [] .full] => some (.list [] .full) | [.list [] .seed] => some (.list [] .full) | _ => none)
 else if Nat.beq f 183 = true then (match args with | [.list [] .none] => some (.list [] .full) | [.list [] .full] => some (.list [] .full) | [.list [] .seed] => some (.list [] .full) | _ => none)
 else if Nat.beq f 185 = true then (match args with | [.list [] .none] => some (.list [] .full) | [.list [] .full] => some (.list [] .full) | [.list [] .seed] => some (.list [] .full) | _ => none)
 else none
noncomputable def extL (f : FuncId) (args : List AV) : Option AV := Bool.rec (motive := fun _ => Option AV) none (extL1 f args) (bitB 61299821634635554504475632493564582580494030310366773248 f)
theorem extL_ok {w0 : World} (hM : MaxL w0) (hP : Pow10 w0) (hT : Lib.Utf8Tabs 0 1 w0) (f : FuncId) (args : List AV) (v : AV) (st : St) (h : extL f args = some v) : ACalls Tryz.prog w0 f args st fun r s => r = v ∧ s = st := by
 replace h := (brec h).2
 obtain ⟨B, Rw, L⟩ := st
 unfold extL1 at h
 split at h
 ·
  rename_i q; obtain rfl := Nat.eq_of_beq_eq_true q
  split at h
  ·
   split at h
   ·
    rename_i q
    rw [Bool.and_eq_true] at q
    cases h
    refine sIndexAny_at2 w0 B Rw L _ _ ⟨Nat.le_of_ble_eq_true q.1, sEqT q.2⟩
   ·
    cases h
  ·
   cases h
 split at h
 ·
  rename_i q; obtain rfl := Nat.eq_of_beq_eq_true q
  split at h
  ·
   cases h; exact sHasPrefix_at2 w0 B Rw L _ _
  ·
   cases h
 split at h
 ·
  rename_i q; obtain rfl := Nat.eq_of_beq_eq_true q
  split at h
  ·
   split at h
   ·
    rename_i q; cases h; exact sCut_at2 w0 B Rw L hM _ _ (Nat.le_of_ble_eq_true q)
   ·
    cases h
  ·
   cases h
 split at h
 ·
  rename_i q; obtain rfl := Nat.eq_of_beq_eq_true q
  split at h
  ·
   cases h; exact sCompare_at2 w0 B Rw L _ _
  ·
   cases h
 split at h
 ·
  rename_i q; obtain rfl := Nat.eq_of_beq_eq_true q
  split at h
  ·
   split at h
   ·
    rename_i q; cases h; exact sValid_at2 w0 B Rw L hT _ (by have := Nat.le_of_ble_eq_true q; unfold maxLen; omega)
   ·
    cases h
  ·
   cases h
 split at h
 ·
  rename_i q; obtain rfl := Nat.eq_of_beq_eq_true q
  split at h
  ·
   rename_i n
   split at h
   ·
    rename_i q
    have q := blt_lt q
    cases h
    have := sItoa_at w0 B Rw L hP (n : Int) (by omega)
    have e : Lib.itoa (n : Int) = decF 18 n := by
     rw [decF_eq 18 n (by omega) (by decide)]
     unfold Lib.itoa; rw [if_neg (by omega)]; simp
    rw [e] at this
    exact this
   ·
    cases h
  ·
   cases h
 split at h
 ·
  rename_i q; obtain rfl := Nat.eq_of_beq_eq_true q
  have base : ACalls Tryz.prog w0 57 [.list [] .none] ⟨B, Rw, L⟩ fun r s => r = .list [] .full ∧ s = ⟨B, Rw, L⟩ := sl_Clone_string_own w0 B Rw L [] (by decide)
  split at h
  ·
   cases h; exact base
  ·
   cases h; exact base.pub rfl
  ·
   cases h; exact base.pub rfl
  ·
   cases h
 split at h
 ·
  rename_i q; obtain rfl := Nat.eq_of_beq_eq_true q
  have base : ACalls Tryz.prog w0 183 [.list [] .none] ⟨B, Rw, L⟩ fun r s => r = .list [] .full ∧ s = ⟨B, Rw, L⟩ := sl_Clone_int_own w0 B Rw L [] (by decide)
  split at h
  ·
   cases h; exact base
  ·
   cases h; exact base.pub rfl
  ·
   cases h; exact base.pub rfl
  ·
   cases h
 split at h
 ·
  rename_i q; obtain rfl := Nat.eq_of_beq_eq_true q
  have base : ACalls Tryz.prog w0 185 [.list [] .none] ⟨B, Rw, L⟩ fun r s => r = .list [] .full ∧ s = ⟨B, Rw, L⟩ := sl_Clone_Value_own w0 B Rw L [] (by decide)
  split at h
  ·
   cases h; exact base
  ·
   cases h; exact base.pub rfl
  ·
   cases h; exact base.pub rfl
  ·
   cases h
 cases h
noncomputable def delRS : Go.Shelf.Ren := ⟨fun x => if x = 45 then 276 else x,
 fun x => if x = 23 then 226 else if x = 22 then 118 else if x = 3 then 3 else if x = 4 then 4 else if x = 0 then 0 else x, fun x => x⟩
noncomputable def zeroSl : Value := .agg #[.int .i64 0, .int .i64 0, .int .i64 0, .string ⟨#[]⟩, .slice none 0 0, .slice none 0 0, .int .i64 0, .int .i64 0, .slice none 0 0, .slice none 0 0]
theorem delLS : DelLay Tryz.prog delRS Tryz.f276.name 10 152 zeroSl := {
  mixed := by kernel_rfl
  nmo := by kernel_rfl
  f45 := Tryz.func276.trans (congrArg some (by kernel_rfl))
  t0 := Tryz.underlying0
  a0 := Tryz.isAgg0
  z0 := Tryz.sizeOf0
  v0 := Tryz.zeroValue0
  t3 := Tryz.underlying3
  a3 := Tryz.isAgg3
  z3 := Tryz.sizeOf3
  v3 := Tryz.zeroValue3
  t4 := Tryz.underlying4
  a4 := Tryz.isAgg4
  z4 := Tryz.sizeOf4
  v4 := Tryz.zeroValue4
  t22 := Tryz.underlying118
  a22 := Tryz.isAgg118
  z22 := Tryz.sizeOf118
  v22 := Tryz.zeroValue118
  z23 := Tryz.sizeOf226
  v23 := Tryz.zeroValue226
  i23 := by kernel_rfl }
noncomputable def exsL (F : Fl) (f : FuncId) (args : List AV) (st : St) : Option (AV × St) := if Nat.beq f 276 = true then (match args with
 | [.vec id ver 0 n, .val (.int .i64 (.ofNat i)), .val (.int .i64 (.ofNat j))] => match st.rows[id]? with
  | some (.vec v sz cs) => if (Nat.ble F.r id && Nat.beq v ver && Nat.beq sz 10 && lenB cs (n * 10) && Nat.blt i j && Nat.ble j n) = true then some (.vec id (ver + 1) 0 (i + (n - j)), { st with rows := st.rows.set id (.vec (ver + 1) 10 (cs.take (i * 10) ++ cs.drop (j * 10))) }) else none
  | _ => none
 | _ => none) else none
theorem exsL_ok {w0 : World} (F : Fl) (f : FuncId) (args : List AV) (st : St) (v : AV) (st' : St) (h : exsL F f args st = some (v, st')) : (ACalls Tryz.prog w0 f args st fun r s => r = v ∧ s = st') ∧ (Fits F st → Pre F st st') := by
 unfold exsL at h
 split at h
 rotate_left
 ·
  cases h
 rename_i q; obtain rfl := Nat.eq_of_beq_eq_true q
 split at h
 rotate_left
 ·
  cases h
 rename_i id ver n i j
 split at h
 rotate_left
 ·
  cases h
 rename_i v0 sz cs hrow
 split at h
 rotate_left
 ·
  cases h
 rename_i q
 simp only [Bool.and_eq_true] at q
 obtain ⟨⟨⟨⟨⟨q1, q2⟩, q3⟩, q4⟩, q5⟩, q6⟩ := q
 obtain rfl := Nat.eq_of_beq_eq_true q2
 obtain rfl := Nat.eq_of_beq_eq_true q3
 cases h
 refine ⟨delete_vec (P := Tryz.prog) (w0 := w0) (st := st) (i := i) (j := j) (n := n) delLS (enters_some Tryz.func276 rfl (by decide)) rfl (by decide) (by decide) hrow (lenB_eq _ _ q4) (blt_lt q5) (Nat.le_of_ble_eq_true q6), fun hf => Pre.row _ hf (Nat.le_of_ble_eq_true q1)⟩
noncomputable def cfgL : Cfg := { gl := fun _ _ => none, ext := extL, exs := exsL, isX := fun f => bitB 61299821634635554334333881086012367344911694473929424896 f, kp := fun f => bitB 61299821634636251232621335167985540335945589546687660032 f, im := fun f => bitB 311445022518719002277371941520986453600983184498809619094465287789363054361521165549300091323862440754737108222208 f, imx := fun f g => ([(192, 139), (233, 139), (227, 42), (232, 183), (144, 185), (145, 185)] : List (Nat × Nat)).any (fun p => Nat.beq p.1 f && Nat.beq p.2 g), q := 100000, m := 0 }
theorem run_ok {w0 : World} (hM : MaxL w0) (hP : Pow10 w0) (hT : Lib.Utf8Tabs 0 1 w0) (k : Nat) (f : FuncId) (args : List AV) (st : St) (v : AV) (st' : St) (h : runX Tryz.prog cfgL k none f args st = some (v, st')) : ACalls Tryz.prog w0 f args st fun r s => r = v ∧ s = st' :=
 runX_sound (by kernel_rfl) (fun _ _ _ h => by cases h) (extL_ok hM hP hT) exsL_ok k none f args st v st' h
end
set_option maxRecDepth 100000
section
noncomputable def pcA : Code → Code
 | .seq a _ => a
 | c => c
noncomputable def pcB : Code → Code
 | .seq _ b => b
 | c => c
theorem seq_pc {X : SX} {k : Nat} {c : Code} {e : Env} {st : St} {e1 : Env} {s1 : St} {r : QR} (hc : c = .seq (pcA c) (pcB c)) (h1 : runQ X k (pcA c) e st = some (.normal, e1, s1)) (h2 : runQ X k (pcB c) e1 s1 = r) : runQ X (k + 1) c e st = r := by
 rw [hc]
 show seqK (runQ X k (pcB c)) (runQ X k (pcA c) e st) = r
 rw [h1]
 exact h2
theorem run_of {P : Program} {C : Cfg} {k : Nat} {f : FuncId} {fn : Func} {c : Code} {args : List AV} {x : Exit} {e : Env} {s : St} {r : Option (AV × St)} (hext : C.ext f args = none) (hf : P.funcs[f]? = some fn) (hb : fn.body = some c) (hc : fn.name ≠ "runtime.NumGoroutine" ∧ args.length ≤ fn.ntmps ∧ fn.ntmps ≤ 1000000)
  (h : runQ ⟨P, fn.ntmps, true, ⟨0, 0, 0⟩, C.at f (outF fn c), callH (runX P C k), callS P (C.at f (outF fn c)) (runX P C k) ⟨0, 0, 0⟩⟩ C.q c (argsE 0 args) ⟨[], [], []⟩ = some (x, e, s)) (hx : x = .normal ∨ x = .ret) (ho : outX P C none f fn ⟨0, 0, 0⟩ ⟨[], [], []⟩ e s = r) : runX P C (k + 1) none f args ⟨[], [], []⟩ = r := by
 rw [runX]
 simp only [hext, hf, hb]
 rw [if_pos hc]
 unfold exsK exsX
 simp only
 rw [flK_eq]
 unfold bodyX
 rw [fEN_eq]
 have h : runQ' P fn.ntmps true ⟨0, 0, 0⟩ (C.at f (outF fn c)) (callH (runX P C k)) (callS P (C.at f (outF fn c)) (runX P C k) ⟨0, 0, 0⟩) C.q c (argsE 0 args) ⟨[], [], []⟩ = some (x, e, s) := h
 show (match runQ' P fn.ntmps true ⟨0, 0, 0⟩ (C.at f (outF fn c)) (callH (runX P C k)) (callS P (C.at f (outF fn c)) (runX P C k) ⟨0, 0, 0⟩) C.q c (argsE 0 args) ⟨[], [], []⟩ with
  | some (.normal, e', s') => outX P C none f fn ⟨0, 0, 0⟩ ⟨[], [], []⟩ e' s'
  | some (.ret, e', s') => outX P C none f fn ⟨0, 0, 0⟩ ⟨[], [], []⟩ e' s'
  | _ => none) = r
 rw [h]
 rcases hx with rfl | rfl <;> exact ho
noncomputable def kC : Code := (Tryz.f18.body).getD .skip
noncomputable def kX : SX := ⟨Tryz.prog, Tryz.f18.ntmps, true, ⟨0, 0, 0⟩, cfgL.at 18 (outF Tryz.f18 kC), callH (runX Tryz.prog cfgL 59), callS Tryz.prog (cfgL.at 18 (outF Tryz.f18 kC)) (runX Tryz.prog cfgL 59) ⟨0, 0, 0⟩⟩
end
end Go.Proofs.YtkpooohjodojoaaGreatDoor
