/-
  The abstract reading of the operations is sound: part one, operations that leave memory as it is.
-/
import Derived.Test.YthlhbbejcmbpoaaDoorEvB
import Derived.Laws.Small
import Derived.Lib.Strings
namespace Go.Ev
open Go Go.RowKit

section
variable {P : Program} {w0 : World} {n : Nat} {M : Mem} {e : Env} {st : St} {a : Act} {w : World}

/-! ### tables -/
theorem tyT_spec {t : TypeId} {s : Nat} {b : Bool} (h : tyT P t = some (s, b)) : ∃ i d, P.info? t = some i ∧ i.size = s ∧ P.underlying t = some d ∧ (match d with | .struct _ | .array _ _ => true | _ => false) = b := by
  unfold tyT at h
  split at h
  · rename_i i d h1 h2
    simp only [Option.some.injEq, Prod.mk.injEq] at h
    exact ⟨i, d, h1, h.1, h2, h.2⟩
  · cases h
theorem run_sizeOf' {t : TypeId} {s : Nat} {b : Bool} (h : tyT P t = some (s, b)) (w : World) : (sizeOf t).run P w = .ok s w := by
  obtain ⟨i, d, h1, h2, _, _⟩ := tyT_spec h
  simp [sizeOf, typeInfo, h1, h2]
theorem run_isAgg' {t : TypeId} {s : Nat} {b : Bool} (h : tyT P t = some (s, b)) (w : World) : (isAgg t).run P w = .ok b w := by
  obtain ⟨i, d, _, _, h3, h4⟩ := tyT_spec h
  unfold isAgg
  rw [Sem.run_bind, run_underlying h3 w]
  subst h4
  cases d <;> rfl
theorem fldT_spec {t : TypeId} {f o s : Nat} {b : Bool} (h : fldT P t f = some (o, s, b)) : ∃ fs x, P.underlying t = some (.struct fs) ∧ fs[f]? = some x ∧ x.offset = o ∧ tyT P x.type = some (s, b) := by
  unfold fldT at h
  split at h
  · rename_i fs h1
    split at h
    · rename_i x h2
      obtain ⟨⟨s', b'⟩, h3, h4⟩ := Option.map_eq_some_iff.1 h
      simp only [Prod.mk.injEq] at h4
      obtain ⟨rfl, rfl, rfl⟩ := h4
      exact ⟨fs, x, h1, h2, rfl, h3⟩
    · cases h
  · cases h
theorem elT_spec {t el : TypeId} {s by8 : Nat} {b : Bool} (h : elT P t = some (el, s, b, by8)) : ∃ i, P.underlying t = some (.slice el) ∧ P.info? el = some i ∧ i.bytes = by8 ∧ tyT P el = some (s, b) := by
  unfold elT at h
  split at h
  · rename_i e' h1
    split at h
    · rename_i i s' b' h2 h3
      simp only [Option.some.injEq, Prod.mk.injEq] at h
      obtain ⟨rfl, rfl, rfl, rfl⟩ := h
      exact ⟨i, h1, h2, rfl, h3⟩
    · cases h
  · cases h
theorem arrT_spec {t : TypeId} {m s : Nat} {b : Bool} (h : arrT P t = some (m, s, b)) : ∃ el, P.underlying t = some (.array m el) ∧ tyT P el = some (s, b) := by
  unfold arrT at h
  split at h
  · rename_i m' el h1
    obtain ⟨⟨s', b'⟩, h3, h4⟩ := Option.map_eq_some_iff.1 h
    simp only [Prod.mk.injEq] at h4
    obtain ⟨rfl, rfl, rfl⟩ := h4
    exact ⟨el, h1, h3⟩
  · cases h
theorem strT_spec {t : TypeId} (h : strT P t = true) : P.underlying t = some .string := by
  unfold strT at h
  split at h
  · assumption
  · cases h
theorem intT_spec {t : TypeId} {k : IntKind} (h : intT P t = some k) : P.underlying t = some (.int k) := by
  unfold intT at h
  split at h
  · rename_i k' h1; cases h; exact h1
  · cases h

/-! ### operands -/
theorem R_undef : R w0 M w undef .junk := .tup rfl (fun i h1 => absurd h1 (by simp))
theorem R_ofCell {v : Value} (h : cellOk v = true) : R w0 M w v (ofCell v) := by
  unfold ofCell
  split
  · exact .nil (fun id => by simp)
  · rename_i hne
    refine .flat ?_
    unfold cellOk at h
    split at h
    · exact absurd rfl hne
    · exact h
theorem ofCell_one {v : Value} (h : cellOk v = true) : (ofCell v).one = true := by
  unfold ofCell
  split <;> rfl
theorem R_ofVal {v : Value} (h : constOk v = true) : R w0 M w v (ofVal v) := by
  cases v with
  | agg cs =>
    have h' : ∀ x ∈ cs.toList, cellOk x = true := List.all_eq_true.1 h
    refine .agg (by simp) (fun x hx => ?_) (fun i h1 h2 => ?_)
    · obtain ⟨y, hy, rfl⟩ := List.mem_map.1 hx
      exact ofCell_one (h' y hy)
    · simp only [List.getElem_map, Array.getElem_toList]
      exact R_ofCell (h' _ (by simp))
  | _ => exact R_ofCell h

theorem arg_R (h : Rel w0 n M e st a w) {x : Operand} (ho : argOk e true x) : R w0 M w (a.eval x) (argV e x) := by
  cases x with
  | tmp t =>
    simp only [argOk, argV] at *
    cases hl : look e t with
    | none => simp [hl] at ho
    | some x =>
      obtain ⟨c', v⟩ := x
      simp only [hl] at ho ⊢
      have := h.env t _ hl
      unfold entryOk at this
      rw [if_pos (by simpa using ho)] at this
      exact this
  | const v => exact R_ofVal ho
  | func f => exact .clo rfl (fun i h1 => absurd h1 (by simp))
  | global g => exact ho.elim

theorem R.val_inv {v u : Value} (h : R w0 M w v (.val u)) : v = u ∧ flatV u = true := by cases h; exact ⟨rfl, ‹_›⟩
theorem R.plain {v : Value} {x : AV} (h : R w0 M w v x) (hp : isPlain x = true) : v = plainOf x ∧ flatV (plainOf x) = true ∧ x = .val (plainOf x) := by
  cases x with
  | val u => obtain ⟨rfl, hf⟩ := h.val_inv; exact ⟨rfl, hf, rfl⟩
  | _ => cases hp
theorem R.int {v : Value} {x : AV} (h : R w0 M w v x) (hp : isInt x = true) : v = .int (kindOfA x) (intOfA x) ∧ x = .val (.int (kindOfA x) (intOfA x)) := by
  cases x with
  | val u =>
    obtain ⟨rfl, hf⟩ := h.val_inv
    cases v <;> first | exact ⟨rfl, rfl⟩ | cases hp
  | _ => cases hp
theorem R.bool {v : Value} {x : AV} (h : R w0 M w v x) (hp : isB x = true) : v = .bool (boolOf x) ∧ x = .val (.bool (boolOf x)) := by
  cases x with
  | val u =>
    obtain ⟨rfl, hf⟩ := h.val_inv
    cases v <;> first | exact ⟨rfl, rfl⟩ | cases hp
  | _ => cases hp

/-! ### what an operation does -/
/-- The operation's run: a value (or none, for a store), memory that has grown, the state that the abstract reading says. -/
def Yields' (P : Program) (w0 : World) (M : Mem) (st' : St) (r : AV) (w : World) (s : Sem Next) : Prop :=
  ∃ v w' M', (s.run P w = .ok (.value v) w' ∨ (s.run P w = .ok .skip w' ∧ v = undef)) ∧ Ext w0 M w M' w' ∧ RelSt w0 M' st' w' ∧ R w0 M' w' v r

theorem yields_same (hst : RelSt w0 M st w) {s : Sem Next} {v : Value} {r : AV} (hs : s.run P w = .ok (.value v) w) (hr : R w0 M w v r) : Yields' P w0 M st r w s :=
  ⟨v, w, M, .inl hs, Ext.refl _ _ _, hst, hr⟩

theorem inK_wrap {k : IntKind} {m : Int} (h : inK k m) : k.wrap m = m := by
  cases k <;> simp only [inK] at h <;> simp only [IntKind.wrap, IntKind.signed, IntKind.bits] <;> simp <;> omega

theorem sEq_toList (x y : ByteArray) : (x.toList == y.toList) = sEq x y := by
  unfold sEq
  rw [Lib.toList_data, Lib.toList_data]

/-! ### plain operations -/
theorem binOp_sound {op : BinOp} {x y : Value} {t : TypeId} {X Y : Operand} (h : (evBin op x y).1) :
    (do eqGuard op t X Y x y; binOp op t x y : Sem Value).run P w = .ok (evBin op x y).2 w := by
  unfold evBin at h ⊢
  split at h <;> simp only at h ⊢ <;> try exact h.elim
  case h_1 k a k' b => obtain ⟨rfl, h⟩ := h; simp [eqGuard, binOp, Op.intArith, inK_wrap h]
  case h_2 k a k' b => obtain ⟨rfl, h⟩ := h; simp [eqGuard, binOp, Op.intArith, inK_wrap h]
  case h_3 k a k' b => obtain ⟨rfl, h⟩ := h; simp [eqGuard, binOp, Op.intArith, inK_wrap h]
  case h_4 k a k' b =>
    obtain ⟨rfl, h0, h1, h⟩ := h
    have hb : ¬ b = 0 := by omega
    have e : a.tdiv b = a / b := Int.tdiv_eq_ediv_of_nonneg h0
    simp [eqGuard, binOp, Op.intDiv, hb, e, inK_wrap h]
  case h_5 k a k' b =>
    obtain ⟨rfl, h0, h1⟩ := h
    have hb : ¬ b = 0 := by omega
    have e : a.tmod b = a % b := Int.tmod_eq_emod_of_nonneg h0
    simp [eqGuard, binOp, Op.intDiv, hb, e]
  case h_6 k a k' b => subst h; simp [eqGuard, binOp, Op.intCmp]; rfl
  case h_7 k a k' b => subst h; simp [eqGuard, binOp, Op.intCmp]; rfl
  case h_8 k a k' b => subst h; simp [eqGuard, binOp, Op.intCmp]
  case h_9 k a k' b => subst h; simp [eqGuard, binOp, Op.intCmp]
  case h_10 k a k' b => subst h; simp [eqGuard, binOp, Op.intCmp]
  case h_11 k a k' b => subst h; simp [eqGuard, binOp, Op.intCmp]
  case h_12 x y =>
    have e : ¬ (((x.size + y.size : Nat) : Int) > IntKind.i64.max) := by simp [IntKind.max, IntKind.signed, IntKind.bits]; omega
    simp only [eqGuard, binOp, Op.stringOp, if_neg e]
    simp
  case h_13 x y => simp [eqGuard, binOp, Op.stringOp, sEq_toList]
  case h_14 x y => simp [eqGuard, binOp, Op.stringOp, sEq_toList]
  case h_15 x y => simp [eqGuard, binOp, Op.stringOp, Lib.toList_data, sLt]
  case h_16 x y => simp [eqGuard, binOp, Op.stringOp, Lib.toList_data, sLt, sEq]
  case h_17 x y => simp [eqGuard, binOp, Op.stringOp, Lib.toList_data, sLt, sEq]
  case h_18 x y => simp [eqGuard, binOp, Op.stringOp, Lib.toList_data, sLt]

theorem evBin_flat {op : BinOp} {x y : Value} (h : (evBin op x y).1) : flatV (evBin op x y).2 = true := by
  unfold evBin at h ⊢
  split at h <;> simp only at h ⊢ <;> try first | exact h.elim | rfl
  rename_i x y
  have e : (x ++ y).size = x.size + y.size := ByteArray.size_append
  simp only [flatV, maxLen, e]
  simp
  omega
theorem unOp_sound {op : UnOp} {x : Value} (h : (evUn op x).1) : (Op.unary op x).run P w = .ok (evUn op x).2 w := by
  unfold evUn at h ⊢
  split at h <;> simp only at h ⊢ <;> try exact h.elim
  · simp [Op.unary]
  · have e := inK_wrap h
    simp only [Op.unary, Op.intArith, e]
    rfl
theorem evUn_flat {op : UnOp} {x : Value} (h : (evUn op x).1) : flatV (evUn op x).2 = true := by
  unfold evUn at h ⊢
  split at h <;> simp only at h ⊢ <;> first | exact h.elim | rfl

theorem add_none (b o j : Nat) : (⟨b, o, none⟩ : Addr).add j = ⟨b, o + j, none⟩ := by
  unfold Addr.add
  split
  · subst j; rfl
  · rfl

/-- What lies at an address. -/
theorem ref_spec (hst : RelSt w0 M st w) {v : Value} {x : AV} (h : R w0 M w v x) (hr : isRef st x = true) :
    ∃ b o, v = .pointer (some ⟨b, o + offAt x, none⟩) ∧ (∀ c ∈ cellsAt st x, c.one = true) ∧ ∀ j (hj : j < (cellsAt st x).length), ∃ u, w.cell? ⟨b, o + j, none⟩ = some u ∧ R w0 M w u (cellsAt st x)[j] := by
  cases x with
  | box l off =>
    cases h with
    | box hl =>
      have hl' : l < st.boxes.length := by simpa [isRef] using hr
      obtain ⟨cs, hcs⟩ : ∃ cs, st.boxes[l]? = some cs := ⟨_, List.getElem?_eq_getElem hl'⟩
      obtain ⟨_, _, c, ty, hb, hsz, h1, hR⟩ := hst.box l cs hcs
      have e : cellsAt st (.box l off) = cs := by simp [cellsAt, List.getD, hcs]
      refine ⟨M.bx l, 0, by simp [offAt], by rw [e]; exact h1, fun j hj => ?_⟩
      simp only [e] at hj ⊢
      refine ⟨c[j]'(by omega), ?_, hR j (by omega) hj⟩
      rw [Nat.zero_add, cell_of_row w _ j c ty _ hb]
      exact Array.getElem?_eq_getElem (by omega)
  | elem y k =>
    cases h with
    | @elem b off x u k hcell hu =>
      obtain ⟨hs, hR⟩ := hu.cells
      refine ⟨b, off, rfl, ?_, fun j hj => ?_⟩
      · refine hu.cellsOne (fun vs hv => ?_)
        subst hv
        simp [isRef] at hr
      · have hj' : j < u.cells.size := by rw [hs]; exact hj
        refine ⟨u.cells[j], ?_, hR j hj' hj⟩
        rw [(hcell j hj').2]
        exact Array.getElem?_eq_getElem hj'
  | _ => cases hr

/-! ### the operations that leave memory as it is -/
theorem Yields'.value {s : Sem Value} {st' : St} {r : AV} (h : ∃ v w' M', s.run P w = .ok v w' ∧ Ext w0 M w M' w' ∧ RelSt w0 M' st' w' ∧ R w0 M' w' v r) :
    Yields' P w0 M st' r w (do pure (.value (← s))) := by
  obtain ⟨v, w', M', hs, h1, h2, h3⟩ := h
  exact ⟨v, w', M', .inl (by simp [hs]), h1, h2, h3⟩
theorem Yields'.here (hst : RelSt w0 M st w) {s : Sem Value} {v : Value} {r : AV} (hs : s.run P w = .ok v w) (hr : R w0 M w v r) :
    Yields' P w0 M st r w (do pure (.value (← s))) := .value ⟨v, w, M, hs, Ext.refl _ _ _, hst, hr⟩

theorem boolT_spec {t : TypeId} (h : boolT P t = true) : P.underlying t = some .bool := by
  unfold boolT at h
  split at h
  · assumption
  · cases h
theorem bb_sound {op : BinOp} {a b : Bool} {t : TypeId} {X Y : Operand} (ht : boolT P t = true) (h : (evBB op a b).1) : (do eqGuard op t X Y (.bool a) (.bool b); binOp op t (.bool a) (.bool b) : Sem Value).run P w = .ok (.bool (evBB op a b).2) w := by
  have hu := boolT_spec ht
  cases op <;> try exact h.elim
  · simp [eqGuard, binOp, run_equal_bool w t a b hu, evBB]
  · simp [eqGuard, binOp, run_equal_bool w t a b hu, evBB]; cases a <;> cases b <;> rfl
theorem ys_binOp (h : Rel w0 n M e st a w) (op : BinOp) (t : TypeId) (x y : Operand) (u : TypeId) (hob : (evOp P e true st (.binOp op t x y u)).1) :
    Yields' P w0 M (evOp P e true st (.binOp op t x y u)).2.2 (evOp P e true st (.binOp op t x y u)).2.1 w (do pure (.value (← (do eqGuard op t x y (a.eval x) (a.eval y); binOp op t (a.eval x) (a.eval y))))) := by
  simp only [evOp] at hob ⊢
  by_cases hc : (isB (argV e x) && isB (argV e y)) = true
  · rw [if_pos hc] at hob ⊢
    simp only [Bool.and_eq_true] at hc
    obtain ⟨hx, hy, ht, hb⟩ := hob
    obtain ⟨ex, _⟩ := (arg_R h hx).bool hc.1
    obtain ⟨ey, _⟩ := (arg_R h hy).bool hc.2
    rw [ex, ey]
    exact .here h.st (bb_sound ht hb) (.flat rfl)
  · rw [if_neg hc] at hob ⊢
    obtain ⟨hx, hy, px, py, hb⟩ := hob
    obtain ⟨ex, _, _⟩ := (arg_R h hx).plain px
    obtain ⟨ey, _, _⟩ := (arg_R h hy).plain py
    rw [ex, ey]
    exact .here h.st (binOp_sound hb) (.flat (evBin_flat hb))
theorem ys_unOp (h : Rel w0 n M e st a w) (op : UnOp) (t : TypeId) (x : Operand) (hob : (evOp P e true st (.unOp op t x)).1) :
    Yields' P w0 M st (.val (evUn op (plainOf (argV e x))).2) w (do pure (.value (← Op.unary op (a.eval x)))) := by
  obtain ⟨hx, px, hb⟩ := hob
  obtain ⟨ex, _, _⟩ := (arg_R h hx).plain px
  rw [ex]
  exact .here h.st (unOp_sound hb) (.flat (evUn_flat hb))
theorem sel_R {t : Bool} {u v : Value} {x y : AV} (hx : t = true → R w0 M w u x) (hy : t = false → R w0 M w v y) : R w0 M w (if t then u else v) (AV.sel t x y) := by
  have hf : AV.sel false x y = y := by unfold AV.sel; split <;> rfl
  have ht : AV.sel true x y = x := by unfold AV.sel; split <;> rfl
  cases t
  · rw [hf]; exact hy rfl
  · rw [ht]; exact hx rfl
theorem ys_pick (h : Rel w0 n M e st a w) (b x y : Operand) (hob : (evOp P e true st (.pick b x y)).1) :
    Yields' P w0 M st (AV.sel (boolOf (argV e b)) (argV e x) (argV e y)) w (do pure (.value (if ← asBool (a.eval b) then a.eval x else a.eval y))) := by
  obtain ⟨hb, isb, hx, hy⟩ := hob
  obtain ⟨eb, _⟩ := (arg_R h hb).bool isb
  refine yields_same h.st (v := if boolOf (argV e b) then a.eval x else a.eval y) ?_ (sel_R (fun q => arg_R h (hx rfl q)) (fun q => arg_R h (hy rfl q)))
  rw [eb]
  simp [asBool]

theorem run_loadVar' {t : TypeId} {sz : Nat} {ag : Bool} (ht : tyT P t = some (sz, ag)) {b o : Nat} {f : Nat → Value} (hc : ∀ j, j < sz → w.cell? ⟨b, o + j, none⟩ = some (f j)) (h1 : ag = true ∨ sz = 1) :
    (loadVar t ⟨b, o, none⟩).run P w = .ok (if ag then .agg ((List.range sz).map f).toArray else f 0) w := by
  unfold loadVar
  rw [Sem.run_bind, run_isAgg' ht]
  cases ag with
  | true =>
    simp only [Result.andThen_ok, if_true, Sem.run_bind, run_sizeOf' ht, run_loadCells w ⟨b, o, none⟩ sz f (fun j hj => by rw [add_none]; exact hc j hj)]
    rfl
  | false =>
    have : sz = 1 := by simpa using h1
    subst this
    have := hc 0 (by omega)
    simp only [Nat.add_zero] at this
    simp [this]

theorem loadA_R {cs : List AV} {f : Nat → Value} {o sz : Nat} {ag : Bool} (h1 : ∀ c ∈ cs, c.one = true) (ho : o + sz ≤ cs.length) (hs : ag = true ∨ sz = 1)
    (hR : ∀ j (hj : o + j < cs.length), R w0 M w (f j) cs[o + j]) : R w0 M w (if ag then .agg ((List.range sz).map f).toArray else f 0) (loadA ag cs o sz) := by
  unfold loadA
  cases ag with
  | true =>
    simp only [if_true]
    refine .agg (by simp; omega) (fun x hx => h1 x (List.mem_of_mem_drop (List.mem_of_mem_take hx))) (fun i a1 a2 => ?_)
    simp only [List.getElem_take, List.getElem_drop, List.getElem_toArray, List.getElem_map, List.getElem_range]
    exact hR i (by simp at a1; omega)
  | false =>
    have : sz = 1 := by simpa using hs
    subst this
    have := hR 0 (by omega)
    simp only [Nat.add_zero] at this
    simpa [nth, List.getD, List.getElem?_eq_getElem (show o < cs.length by omega)] using this

theorem ys_load (h : Rel w0 n M e st a w) (t : TypeId) (x : Operand) (hob : (evOp P e true st (.load t x)).1) :
    Yields' P w0 M st (evOp P e true st (.load t x)).2.1 w (do pure (.value (← Instr.loadAt t (a.eval x)))) := by
  unfold evOp at hob ⊢
  cases ht : tyT P t with
  | none => simp [ht] at hob
  | some p =>
    obtain ⟨sz, ag⟩ := p
    simp only [ht] at hob ⊢
    obtain ⟨hx, hr, hle, h1⟩ := hob
    obtain ⟨b, o, ev, hone, hc⟩ := ref_spec h.st (arg_R h hx) hr
    rw [ev]
    have key : ∀ j, j < sz → ∃ u, w.cell? ⟨b, o + offAt (argV e x) + j, none⟩ = some u ∧ ∀ hj, R w0 M w u ((cellsAt st (argV e x))[offAt (argV e x) + j]'hj) := by
      intro j hj
      obtain ⟨u, h2, h3⟩ := hc (offAt (argV e x) + j) (by omega)
      exact ⟨u, by rw [← h2, Nat.add_assoc], fun _ => h3⟩
    let f : Nat → Value := fun j => ((w.cell? ⟨b, o + offAt (argV e x) + j, none⟩).getD undef)
    have hf : ∀ j, j < sz → w.cell? ⟨b, o + offAt (argV e x) + j, none⟩ = some (f j) := fun j hj => by
      obtain ⟨u, hu, _⟩ := key j hj
      simp [f, hu]
    refine .here h.st (v := if ag then .agg ((List.range sz).map f).toArray else f 0) ?_ (loadA_R hone hle h1 (fun j hj => ?_))
    · simp only [Instr.loadAt, Instr.sureAddr, Sem.run_bind, Sem.run_pure, Result.andThen_ok]
      exact run_loadVar' ht hf h1
    · by_cases hjs : j < sz
      · obtain ⟨u, hu, hR⟩ := key j hjs
        have : f j = u := by simp [f, hu]
        rw [this]
        exact hR hj
      · obtain ⟨u, hu, hR⟩ := hc (offAt (argV e x) + j) hj
        have : f j = u := by simp [f, Nat.add_assoc, hu]
        rw [this]
        exact hR

theorem isRef_inv {v : Value} {x : AV} (h : R w0 M w v x) (hr : isRef st x = true) : ∃ b o, v = .pointer (some ⟨b, o, none⟩) ∧ ∀ k, R w0 M w (.pointer (some ⟨b, o + k, none⟩)) (refAdd x k) := by
  cases x with
  | box l off => cases h with | box hl => exact ⟨_, _, rfl, fun k => .box hl⟩
  | elem y k =>
    cases h with
    | @elem b off x u k hcell hu => exact ⟨_, _, rfl, fun k' => by rw [Nat.add_assoc]; exact .elem u (k + k') hcell hu⟩
  | _ => cases hr

theorem ys_nilCheck (h : Rel w0 n M e st a w) (o : Oper) (x : Operand) (ho : o.op = .nilCheck x) (hob : (evOp P e true st (.nilCheck x)).1) :
    Yields' P w0 M st (argV e x) w (execOp a.eval o) := by
  obtain ⟨hx, hr⟩ := hob
  obtain ⟨b, o', ev, _⟩ := isRef_inv (arg_R h hx) hr
  refine yields_same h.st (v := a.eval x) ?_ (arg_R h hx)
  simp only [execOp, ho, ev]
  rfl

theorem ys_makeFunc (h : Rel w0 n M e st a w) (f : FuncId) (fi cap : Array Operand) (hob : (evOp P e true st (.makeFunc (.func f) fi cap)).1) :
    Yields' P w0 M st (.clo f (cap.toList.map (argV e))) w (do pure (.value (← Instr.makeFunc (.func f) (fi.map a.eval) (cap.map a.eval)))) := by
  obtain ⟨h0, hc⟩ := hob
  refine .here h.st (v := .func (.func f) (fi.map a.eval) (cap.map a.eval)) rfl ?_
  have : fi.map a.eval = #[] := by simp [Array.size_eq_zero_iff.1 h0]
  rw [this]
  refine .clo (by simp) (fun i h1 h2 => ?_)
  simp only [Array.getElem_map, List.getElem_map, Array.getElem_toList]
  exact arg_R h (hc _ (by simp))

theorem ys_fieldAddr (h : Rel w0 n M e st a w) (t : TypeId) (x : Operand) (f : Nat) (hob : (evOp P e true st (.fieldAddr t x f)).1) :
    Yields' P w0 M (evOp P e true st (.fieldAddr t x f)).2.2 (evOp P e true st (.fieldAddr t x f)).2.1 w (do pure (.value (← Instr.fieldAt t (a.eval x) f))) := by
  unfold evOp at hob ⊢
  cases hf : fldT P t f with
  | none => simp [hf] at hob
  | some p =>
    obtain ⟨o, sz, ag⟩ := p
    simp only [hf] at hob ⊢
    obtain ⟨hx, hr, hz⟩ := hob
    obtain ⟨fs, y, h1, h2, h3, h4⟩ := fldT_spec hf
    obtain ⟨b, o', ev, hk⟩ := isRef_inv (arg_R h hx) hr
    refine .here h.st (v := .pointer (some ⟨b, o' + o, none⟩)) ?_ (hk o)
    rw [ev]
    have hz' : ¬ sz = 0 := by omega
    simp [Instr.fieldAt, run_underlying h1, h2, Instr.sureAddr, fieldPlace, h3, add_none, run_sizeOf' h4, hz']

theorem run_part' {t : TypeId} {sz : Nat} {ag : Bool} (ht : tyT P t = some (sz, ag)) {cs : Array Value} {o : Nat} (ho : o + sz ≤ cs.size) (h1 : ag = true ∨ sz = 1) :
    (part t cs o).run P w = .ok (if ag then .agg ((List.range sz).map fun j => cs.getD (o + j) undef).toArray else cs.getD o undef) w := by
  unfold part
  rw [Sem.run_bind, run_isAgg' ht]
  cases ag with
  | true =>
    simp only [Result.andThen_ok, if_true, Sem.run_bind, run_sizeOf' ht, Sem.run_pure]
    congr 2
    apply Array.ext
    · simp; omega
    · intro i h1 h2
      simp at h1 h2
      simp [show o + i < cs.size by omega]
  | false =>
    have : sz = 1 := by simpa using h1
    subst this
    have hlt : o < cs.size := by omega
    simp [hlt]

theorem R.agg_inv {v : Value} {x : AV} (h : R w0 M w v x) (ha : isAggA x = true) : ∃ cs, v = .agg cs ∧ cs.size = x.cells.length ∧ (∀ y ∈ x.cells, y.one = true) ∧ ∀ j (hj : j < x.cells.length), R w0 M w (cs.getD j undef) x.cells[j] := by
  cases x with
  | agg xs =>
    cases h with
    | agg hl h1 hR =>
      rename_i cs
      refine ⟨cs, rfl, hl, h1, fun j hj => ?_⟩
      have hj' : j < cs.size := by rw [hl]; exact hj
      have e : cs.getD j undef = cs[j] := by simp [hj']
      rw [e]
      exact hR j hj' hj
  | _ => cases ha

theorem ys_field (h : Rel w0 n M e st a w) (t : TypeId) (x : Operand) (f : Nat) (hob : (evOp P e true st (.field t x f)).1) :
    Yields' P w0 M (evOp P e true st (.field t x f)).2.2 (evOp P e true st (.field t x f)).2.1 w (do pure (.value (← Instr.field t (a.eval x) f))) := by
  unfold evOp at hob ⊢
  cases hf : fldT P t f with
  | none => simp [hf] at hob
  | some p =>
    obtain ⟨o, sz, ag⟩ := p
    simp only [hf] at hob ⊢
    obtain ⟨hx, hr, hle, hs⟩ := hob
    obtain ⟨fs, y, h1, h2, h3, h4⟩ := fldT_spec hf
    obtain ⟨cs, ev, hl, hone, hR⟩ := (arg_R h hx).agg_inv hr
    rw [ev]
    refine .here h.st (v := if ag then .agg ((List.range sz).map fun j => cs.getD (o + j) undef).toArray else cs.getD o undef) ?_ (loadA_R (f := fun j => cs.getD (o + j) undef) hone hle hs (fun j hj => hR _ hj))
    subst h3
    simp [Instr.field, run_underlying h1, h2, asAgg, run_part' (w := w) h4 (cs := cs) (o := y.offset) (by omega) hs]

theorem R.list_inv {v : Value} {x : AV} (h : R w0 M w v x) (hl : isList x = true) :
    (∃ a cap, v = .slice a (listOf x).length cap ∧ (a = none → listOf x = [] ∧ cap = 0) ∧ (listOf x).length ≤ cap ∧ cap ≤ maxLen) := by
  cases x with
  | list xs o =>
    cases h with
    | nil ho => exact ⟨none, 0, rfl, fun _ => ⟨rfl, rfl⟩, Nat.zero_le _, by simp [maxLen]⟩
    | list sz us hc hm hcell hu ho => exact ⟨_, _, rfl, fun e => (by cases e), hc, hm⟩
  | _ => cases hl

theorem R.list_elem {v : Value} {xs : List AV} {o : Own} (h : R w0 M w v (.list xs o)) {i : Nat} (hi : i < xs.length) {sz : Nat} (hsz : xs[i].cells.length = sz) :
    ∃ b off cap, v = .slice (some ⟨b, off, none⟩) xs.length cap ∧ R w0 M w (.pointer (some ⟨b, off + i * sz, none⟩)) (.elem xs[i] 0) := by
  cases h with
  | nil ho => exact absurd hi (by simp)
  | @list b off cap _ _ sz' us hc hm hcell hu ho =>
    obtain ⟨h1, h2⟩ := hcell i hi
    have e : sz' = sz := by rw [← h1, (hu i hi).cells.1, hsz]
    subst e
    exact ⟨b, off, cap, rfl, .elem (us i) 0 (fun j hj => h2 j (by omega)) (hu i hi)⟩

theorem isList_inv {x : AV} (h : isList x = true) : ∃ xs o, x = .list xs o := by
  cases x with
  | list xs o => exact ⟨xs, o, rfl⟩
  | _ => cases h
theorem nth_eq {l : List AV} {i : Nat} (h : i < l.length) : nth l i = l[i] := by simp [nth, List.getD, List.getElem?_eq_getElem h]

theorem ys_indexAddr (h : Rel w0 n M e st a w) (t : TypeId) (x i : Operand) (hob : (evOp P e true st (.indexAddr t x i)).1) :
    Yields' P w0 M (evOp P e true st (.indexAddr t x i)).2.2 (evOp P e true st (.indexAddr t x i)).2.1 w (do pure (.value (← Instr.indexAt t (a.eval x) (a.eval i)))) := by
  unfold evOp at hob ⊢
  cases he : elT P t with
  | some p =>
    obtain ⟨el, sz, ag, by8⟩ := p
    simp only [he] at hob ⊢
    obtain ⟨hx, hi, hl, hii, h0, h1, hsz⟩ := hob
    obtain ⟨info, hu, _, _, hty⟩ := elT_spec he
    obtain ⟨ei, _⟩ := (arg_R h hi).int hii
    have hR := arg_R h hx
    obtain ⟨xs, o, hxs⟩ := isList_inv hl
    rw [hxs] at hR h1 hsz ⊢
    simp only [listOf] at h1 hsz ⊢
    generalize intOfA (argV e i) = m at *
    obtain ⟨k, rfl⟩ := Int.eq_ofNat_of_zero_le h0
    have hk : k < xs.length := by omega
    simp only [Int.toNat_natCast] at hsz ⊢
    rw [nth_eq hk] at hsz ⊢
    obtain ⟨b, off, cap, ev, hE⟩ := hR.list_elem hk hsz
    refine .here h.st (v := .pointer (some ⟨b, off + k * sz, none⟩)) ?_ hE
    rw [ev, ei]
    simp [Instr.indexAt, asIntOf, run_underlying hu, run_sizeOf' hty, add_none]
    omega
  | none =>
    simp only [he] at hob ⊢
    cases ha : arrT P t with
    | none => simp [ha] at hob
    | some p =>
      obtain ⟨m, sz, ag⟩ := p
      simp only [ha] at hob ⊢
      obtain ⟨hx, hi, hr, hii, h0, h1⟩ := hob
      obtain ⟨el, hu, hty⟩ := arrT_spec ha
      obtain ⟨ei, _⟩ := (arg_R h hi).int hii
      obtain ⟨b, o', ev, hk⟩ := isRef_inv (arg_R h hx) hr
      generalize intOfA (argV e i) = q at *
      obtain ⟨k, rfl⟩ := Int.eq_ofNat_of_zero_le h0
      have hk' : k < m := by omega
      refine .here h.st (v := .pointer (some ⟨b, o' + k * sz, none⟩)) ?_ (by simpa using hk (k * sz))
      rw [ev, ei]
      simp [Instr.indexAt, asIntOf, run_underlying hu, run_sizeOf' hty, Instr.sureAddr, add_none]
      omega

theorem getElem?_get! (s : ByteArray) (k : Nat) (hk : k < s.size) : s[k]? = some (s.get! k) := by
  rw [getElem?_pos s k hk]
  congr 1
  simp only [ByteArray.get!]
  have : k < s.data.size := hk
  rw [getElem!_pos s.data k this]
  rfl
theorem ys_index (h : Rel w0 n M e st a w) (t : TypeId) (x i : Operand) (hob : (evOp P e true st (.index t x i)).1) :
    Yields' P w0 M (evOp P e true st (.index t x i)).2.2 (evOp P e true st (.index t x i)).2.1 w (do pure (.value (← Instr.index t (a.eval x) (a.eval i)))) := by
  unfold evOp at hob ⊢
  simp only at hob ⊢
  split at hob
  · rename_i s hx0
    obtain ⟨hs, hx, hi, hii, h0, h1⟩ := hob
    obtain ⟨ei, _⟩ := (arg_R h hi).int hii
    have hR := arg_R h hx
    rw [hx0] at hR
    obtain ⟨ev, _⟩ := hR.val_inv
    generalize intOfA (argV e i) = q at *
    obtain ⟨k, rfl⟩ := Int.eq_ofNat_of_zero_le h0
    have hk : k < s.size := by omega
    refine .here h.st (v := .int .u8 (s.get! k).toNat) ?_ (.flat rfl)
    rw [ev, ei]
    have hg : s[k]? = some (s.get! k) := getElem?_get! s k hk
    simp [Instr.index, asIntOf, run_underlying (strT_spec hs), hg]
  · rename_i cs hx0
    cases ha : arrT P t with
    | none => simp [ha] at hob
    | some p =>
      obtain ⟨m, sz, ag⟩ := p
      simp only [ha] at hob ⊢
      obtain ⟨hx, hi, hii, h0, h1, hl, hs⟩ := hob
      obtain ⟨el, hu, hty⟩ := arrT_spec ha
      obtain ⟨ei, _⟩ := (arg_R h hi).int hii
      have hR := arg_R h hx
      rw [hx0] at hR
      obtain ⟨c, ev, hl', hone, hRR⟩ := hR.agg_inv rfl
      simp only [AV.cells] at hl' hone hRR
      generalize intOfA (argV e i) = q at *
      obtain ⟨k, rfl⟩ := Int.eq_ofNat_of_zero_le h0
      have hk : k < m := by omega
      have hle : k * sz + sz ≤ cs.length := by rw [hl, ← Nat.succ_mul]; exact Nat.mul_le_mul_right _ hk
      refine .here h.st (v := if ag then .agg ((List.range sz).map fun j => c.getD (k * sz + j) undef).toArray else c.getD (k * sz) undef) ?_ ?_
      · rw [ev, ei]
        simp only [Instr.index, asIntOf, Sem.run_bind, Sem.run_pure, Result.andThen_ok, run_underlying hu]
        rw [if_pos ⟨by omega, by omega⟩]
        simp only [Sem.run_bind, run_sizeOf' hty, Result.andThen_ok, Int.toNat_natCast]
        exact run_part' hty (by rw [hl']; exact hle) hs
      · simp only [Int.toNat_natCast]
        exact loadA_R (f := fun j => c.getD (k * sz + j) undef) hone hle hs (fun j hj => hRR _ hj)
  · exact hob.elim

theorem ys_extract (h : Rel w0 n M e st a w) (x : Operand) (i : Nat) (hob : (evOp P e true st (.extract x i)).1) :
    Yields' P w0 M (evOp P e true st (.extract x i)).2.2 (evOp P e true st (.extract x i)).2.1 w (do pure (.value (← Instr.extract (a.eval x) i))) := by
  unfold evOp at hob ⊢
  simp only at hob ⊢
  split at hob
  · rename_i vs hx0
    obtain ⟨hx, hi⟩ := hob
    have hR := arg_R h hx
    rw [hx0] at hR
    generalize a.eval x = v at hR ⊢
    cases hR with
    | tup hl hR =>
      rename_i cs
      rw [nth_eq hi]
      refine .here h.st (v := cs[i]'(by omega)) ?_ (hR i (by omega) hi)
      simp [Instr.extract, show i < cs.size by omega]
  · exact hob.elim

theorem ys_len (h : Rel w0 n M e st a w) (x : Operand) (t ty : TypeId) (hx : argOk e true x) (hob : (evLen P t (argV e x)).1) :
    Yields' P w0 M st (evLen P t (argV e x)).2 w (do pure (.value (← Builtin.len_ #[t] ty #[a.eval x]))) := by
  have hR := arg_R h hx
  unfold evLen at hob ⊢
  split at hob
  · rename_i s hx0
    rw [hx0] at hR
    obtain ⟨ev, _⟩ := hR.val_inv
    refine .here h.st (v := .int .i64 s.size) ?_ (.flat rfl)
    rw [ev]
    simp [Builtin.len_, run_underlying (strT_spec hob), goInt]
  · rename_i xs o hx0
    rw [hx0] at hR
    obtain ⟨b, cap, ev, _⟩ := hR.list_inv rfl
    simp only [listOf] at ev
    obtain ⟨p, hp⟩ := Option.isSome_iff_exists.1 hob
    obtain ⟨el, sz, ag, by8⟩ := p
    obtain ⟨i, hu, _⟩ := elT_spec hp
    refine .here h.st (v := .int .i64 xs.length) ?_ (.flat rfl)
    rw [ev]
    simp [Builtin.len_, run_underlying hu, goInt]
  · exact hob.elim

theorem run_sliceBound {v : Value} {k : IntKind} {q : Nat} {y : Nat} {code : BoundsCode} (hv : v = .int k q) (h : q ≤ y) (w : World) : (Instr.sliceBound v y code).run P w = .ok q w := by
  subst hv
  simp [Instr.sliceBound, asIntOf]
  omega

theorem isStr_inv {x : AV} (h : isStr x = true) : ∃ s, x = .val (.string s) := by
  cases x with
  | val v => cases v <;> first | exact ⟨_, rfl⟩ | cases h
  | _ => cases h

/-- The bounds of a slice expression without a third one. -/
theorem run_bounds (h : Rel w0 n M e st a w) (isl : Bool) (len cap : Nat) (hlc : len ≤ cap) {lo hi : Option Operand} (hlo : bndOk e true lo) (hhi : bndOk e true hi)
    {l u : Nat} (el : bndOf e 0 lo = l) (eu : bndOf e len hi = u) (h1 : l ≤ u) (h2 : u ≤ len) :
    (Instr.sliceBounds isl len cap (lo.map a.eval) (hi.map a.eval) none).run P w = .ok (l, u, cap) w := by
  have H : ∀ (y : Operand), (argOk e true y ∧ isInt (argV e y) = true) → ∃ k, a.eval y = .int k (intOfA (argV e y)) := fun y hy => ⟨_, ((arg_R h hy.1).int hy.2).1⟩
  cases hi with
  | none =>
    simp only [bndOf] at eu
    have eu' : u = len := by omega
    subst eu'
    cases lo with
    | none =>
      simp only [bndOf] at el
      have el' : l = 0 := by omega
      subst el'
      simp [Instr.sliceBounds]
    | some y =>
      obtain ⟨k, ky⟩ := H y hlo
      simp only [bndOf] at el
      rw [el] at ky
      simp [Instr.sliceBounds, run_sliceBound ky h1]
  | some z =>
    obtain ⟨k2, kz⟩ := H z hhi
    simp only [bndOf] at eu
    rw [eu] at kz
    have hz : u ≤ cap := by omega
    cases lo with
    | none =>
      simp only [bndOf] at el
      have el' : l = 0 := by omega
      subst el'
      simp [Instr.sliceBounds, run_sliceBound kz hz]
    | some y =>
      obtain ⟨k, ky⟩ := H y hlo
      simp only [bndOf] at el
      rw [el] at ky
      simp [Instr.sliceBounds, run_sliceBound kz hz, run_sliceBound ky h1]

theorem R.empty (b off cap : Nat) (hm : cap ≤ maxLen) : R w0 M w (.slice (some ⟨b, off, none⟩) 0 cap) (.list [] .none) :=
  R.list (xs := []) 0 (fun _ => undef) (Nat.zero_le _) hm (fun i hi => absurd hi (by simp)) (fun i hi => absurd hi (by simp)) trivial

theorem R.sub {b off cap : Nat} {xs : List AV} {o : Own} (h : R w0 M w (.slice (some ⟨b, off, none⟩) xs.length cap) (.list xs o)) {l u sz : Nat} (hl : l ≤ u) (hu : u ≤ xs.length) (hsz : l = 0 ∨ ∀ y ∈ xs, y.cells.length = sz) (hne : cap ≠ l) :
    R w0 M w (.slice (some ⟨b, off + l * sz, none⟩) (u - l) (cap - l)) (.list ((xs.take u).drop l) .none) := by
  generalize hv : Value.slice (some ⟨b, off, none⟩) xs.length cap = v at h
  cases h with
  | nil ho => cases hv
  | @list b' off' cap' _ _ sz' us hc hm hcell hus ho =>
    cases hv
    have hlen : ((xs.take u).drop l).length = u - l := by simp; omega
    rw [← hlen]
    have eo : ∀ i, i < u - l → off + l * sz + i * sz' = off + (l + i) * sz' := by
      intro i hi
      rcases hsz with rfl | hsz
      · simp
      · have e : sz' = sz := by
          have h1 : (us i).cells.size = sz' := (hcell i (by omega)).1
          rw [← h1, (hus i (by omega)).cells.1, hsz _ (List.getElem_mem _)]
        rw [e, Nat.add_mul]; omega
    refine .list sz' (fun i => us (l + i)) (by rw [hlen]; omega) (by omega) (fun i hi => ?_) (fun i hi => ?_) trivial
    · rw [hlen] at hi
      obtain ⟨h1, h2⟩ := hcell (l + i) (by omega)
      refine ⟨h1, fun j hj => ?_⟩
      rw [eo i hi]
      exact h2 j hj
    · rw [hlen] at hi
      simp only [List.getElem_drop, List.getElem_take]
      exact hus (l + i) (by omega)

theorem ys_slice (h : Rel w0 n M e st a w) (t : TypeId) (x : Operand) (lo hi mx : Option Operand) (hob : (evOp P e true st (.slice t x lo hi mx)).1) :
    Yields' P w0 M (evOp P e true st (.slice t x lo hi mx)).2.2 (evOp P e true st (.slice t x lo hi mx)).2.1 w (do pure (.value (← Instr.sliceAt t (a.eval x) (lo.map a.eval) (hi.map a.eval) (mx.map a.eval)))) := by
  unfold evOp at hob ⊢
  simp only at hob ⊢
  split at hob
  · rename_i s hx0
    obtain ⟨hs, hx, hlo, hhi, hm, h0, h1, h2⟩ := hob
    have hR := arg_R h hx
    rw [hx0] at hR
    obtain ⟨ev, hf⟩ := hR.val_inv
    cases mx with
    | some _ => cases hm
    | none =>
      have hb := run_bounds (P := P) h false s.size s.size (Nat.le_refl _) hlo hhi (Int.toNat_of_nonneg h0).symm (Int.toNat_of_nonneg (Int.le_trans h0 h1)).symm (by omega) (by omega)
      refine .here h.st (v := .string (s.extract (bndOf e 0 lo).toNat (bndOf e s.size hi).toNat)) ?_ (.flat ?_)
      · rw [ev]
        simp only [Instr.sliceAt, Instr.slice, Sem.run_bind, run_underlying (strT_spec hs), Result.andThen_ok, Option.map_none, Option.isSome_none, Bool.false_eq_true, if_false, hb, Sem.run_pure]
      · simp only [flatV, decide_eq_true_eq] at hf ⊢
        simp only [ByteArray.size_extract]
        omega
  · rename_i xs o hx0
    cases hp : elT P t with
    | none => simp [hp] at hob
    | some p =>
      obtain ⟨el, sz, ag, by8⟩ := p
      simp only [hp] at hob ⊢
      obtain ⟨hx, hlo, hhi, hm, h0, h1, h2, h3⟩ := hob
      have hR := arg_R h hx
      rw [hx0] at hR
      obtain ⟨i, hu, _, _, hty⟩ := elT_spec hp
      cases mx with
      | some _ => cases hm
      | none =>
        obtain ⟨l', el'⟩ := Int.eq_ofNat_of_zero_le h0
        obtain ⟨u', eu'⟩ := Int.eq_ofNat_of_zero_le (Int.le_trans h0 h1)
        rw [el', eu'] at h1
        rw [eu'] at h2
        rw [el'] at h3
        rw [el', eu']
        have hlu : l' ≤ u' := by omega
        have hux : u' ≤ xs.length := by omega
        simp only [Int.toNat_natCast]
        have h3' : l' = 0 ∨ ∀ y ∈ xs, y.cells.length = sz := h3.imp (fun q => by omega) id
        have go : ∀ (ad : Option Addr) (cap : Nat), xs.length ≤ cap → a.eval x = .slice ad xs.length cap →
            R w0 M w (.slice (if cap = l' then ad else ad.map (·.add (l' * sz))) (u' - l') (cap - l')) (.list ((xs.take u').drop l') .none) →
            Yields' P w0 M st (.list ((xs.take u').drop l') .none) w (do pure (.value (← Instr.sliceAt t (a.eval x) (lo.map a.eval) (hi.map a.eval) (Option.map a.eval none)))) := by
          intro ad cap hle ev hr
          have hb := run_bounds (P := P) h true xs.length cap hle hlo hhi el' eu' hlu hux
          refine .here h.st ?_ hr
          rw [ev]
          simp only [Instr.sliceAt, Instr.slice, Sem.run_bind, run_underlying hu, Result.andThen_ok, Option.map_none, hb, run_sizeOf' hty, Sem.run_pure]
        generalize hv : a.eval x = v at hR go
        have hR' := hR
        cases hR with
        | nil ho =>
          have e1 : u' = 0 := by simpa using hux
          have e2 : l' = 0 := by omega
          subst e1; subst e2
          refine go none 0 (Nat.le_refl _) rfl ?_
          simpa using (R.nil (w0 := w0) (M := M) (w := w) (o := .none) (fun id => by simp))
        | @list b off cap _ _ sz' us hc hm' hcell hu' ho =>
          refine go (some ⟨b, off, none⟩) cap hc rfl ?_
          by_cases hcl : cap = l'
          · have e1 : u' = l' := by omega
            have : (xs.take u').drop l' = [] := by rw [e1]; simp
            rw [this, if_pos hcl, e1, Nat.sub_self]
            exact R.empty _ _ _ (by omega)
          · rw [if_neg hcl]
            simp only [Option.map_some, add_none]
            exact hR'.sub hlu hux h3' hcl
  · exact hob.elim

theorem ys_min (h : Rel w0 n M e st a w) (x y : Operand) (ts : Array TypeId) (t : TypeId) (hx : argOk e true x) (hy : argOk e true y) (ix : isInt (argV e x) = true) (iy : isInt (argV e y) = true) :
    Yields' P w0 M st (.val (.int (kindOfA (argV e x)) (if intOfA (argV e y) < intOfA (argV e x) then intOfA (argV e y) else intOfA (argV e x)))) w (do pure (.value (← Builtin.min_ ts t #[a.eval x, a.eval y]))) := by
  rw [((arg_R h hx).int ix).1, ((arg_R h hy).int iy).1]
  exact .here h.st (by simp [Builtin.min_, Builtin.min2]) (.flat rfl)
theorem ys_max (h : Rel w0 n M e st a w) (x y : Operand) (ts : Array TypeId) (t : TypeId) (hx : argOk e true x) (hy : argOk e true y) (ix : isInt (argV e x) = true) (iy : isInt (argV e y) = true) :
    Yields' P w0 M st (.val (.int (kindOfA (argV e x)) (if intOfA (argV e x) < intOfA (argV e y) then intOfA (argV e y) else intOfA (argV e x)))) w (do pure (.value (← Builtin.max_ ts t #[a.eval x, a.eval y]))) := by
  rw [((arg_R h hx).int ix).1, ((arg_R h hy).int iy).1]
  exact .here h.st (by simp [Builtin.max_, Builtin.max2]) (.flat rfl)
end
end Go.Ev
