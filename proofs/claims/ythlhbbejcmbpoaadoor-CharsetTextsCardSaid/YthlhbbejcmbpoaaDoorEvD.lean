/-
  The abstract reading of the operations is sound: part two, operations that make or write memory.
-/
import Derived.Test.YthlhbbejcmbpoaaDoorEvC
namespace Go.Ev
open Go Go.RowKit

section
variable {P : Program} {w0 : World} {n : Nat} {M : Mem} {e : Env} {st : St} {a : Act} {w : World}

theorem RelSt.box_lt (h : RelSt w0 M st w) {l : Nat} (hl : l < M.N) : M.bx l < w.heap.size := by
  have hl' : l < st.boxes.length := by rw [← h.N]; exact hl
  obtain ⟨_, _, c, ty, hb, _⟩ := h.box l _ (List.getElem?_eq_getElem hl')
  exact (Array.getElem?_eq_some_iff.1 hb).1
theorem RelSt.row_lt (h : RelSt w0 M st w) {i : Nat} (hi : i < M.NR) : M.blk i < w.heap.size := by
  have hi' : i < st.rows.length := by rw [← h.NR]; exact hi
  obtain ⟨_, _, _, _, _, _, _, c, ty, hb, _⟩ := h.row i st.rows[i].1 st.rows[i].2 (List.getElem?_eq_getElem hi')
  exact (Array.getElem?_eq_some_iff.1 hb).1
theorem RelSt.base_le (h : RelSt w0 M st w) : w0.heap.size ≤ w.heap.size := h.below.size

/-- A draw. -/
theorem RelSt.drew (h : RelSt w0 M st w) : RelSt w0 M st w.drew ∧ Ext w0 M w M w.drew :=
  have hx : Ext w0 M w M w.drew := ⟨Nat.le_refl _, fun _ _ => rfl, Nat.le_refl _, fun _ _ => ⟨Nat.le_refl _, fun _ => ⟨rfl, rfl, rfl⟩⟩, fun _ _ _ hi hc => ⟨hc, hi⟩, Nat.le_refl _, Nat.le_refl _, fun _ _ => rfl, fun _ _ _ => by omega, fun _ _ h _ _ => h⟩
  ⟨⟨h.below.drew, h.N, h.NR, h.top, h.inj, fun l cs hl => by
      obtain ⟨a1, a2, c, ty, a3, a4, a5, a6⟩ := h.box l cs hl
      exact ⟨a1, a2, c, ty, a3, a4, a5, fun i h1 h2 => (a6 i h1 h2).mono hx⟩, h.row, h.rowinj, h.loop.mono hx rfl fun _ _ h _ => h⟩, hx⟩

/-- A new block of which the first k cells will not change. -/
def Mem.newTop (M : Mem) (b k : Nat) : Mem := { M with top := fun x => if x = b then k else M.top x }
theorem ext_new (M' : Mem) (o : Obj) (hN : M'.N = M.N ∨ M'.N = M.N + 1) (hb : ∀ l, l < M.N → M'.bx l = M.bx l) (hNR : M.NR ≤ M'.NR)
    (hr : ∀ id, id < M.NR → M.fr id ≤ M'.fr id ∧ (M'.fr id = M.fr id → M'.blk id = M.blk id ∧ M'.cap id = M.cap id ∧ M'.rsz id = M.rsz id)) (ht : ∀ b, b < w.heap.size → M.top b ≤ M'.top b) (hNL : M'.NL = M.NL := by rfl) (hlb : M'.lb = M.lb := by rfl) :
    Ext w0 M w M' (w.alloc o) :=
  ⟨by omega, hb, hNR, hr, fun b off v hi hc => by
    have hlt := World.block_lt_of_cell? w _ hc
    refine ⟨by rw [World.cell?_alloc_lt _ _ _ hlt]; exact hc, ?_⟩
    rcases hi with hi | hi
    · exact .inl hi
    · exact .inr (Nat.lt_of_lt_of_le hi (ht b hlt)), by simp, by omega, fun _ _ => by rw [hlb], fun _ _ _ => by omega, fun b o' h1 h2 _ => KeepsObj.alloc w o b o' h1 h2⟩
theorem heap_alloc_lt (w : World) (o : Obj) {k : Nat} (h : k < w.heap.size) : (w.alloc o).heap[k]? = w.heap[k]? := Below.heap_alloc w o k h

theorem RelSt.newTop (h : RelSt w0 M st w) (cs : Array Value) (ty : TypeId) (k : Nat) :
    RelSt w0 (M.newTop w.heap.size k) st (w.alloc (.cells cs ty)) ∧ Ext w0 M w (M.newTop w.heap.size k) (w.alloc (.cells cs ty)) := by
  have tp : ∀ b, b < w.heap.size → (M.newTop w.heap.size k).top b = M.top b := fun b hb => by simp [Mem.newTop]; omega
  have hx : Ext w0 M w (M.newTop w.heap.size k) (w.alloc (.cells cs ty)) :=
    ext_new _ _ (.inl rfl) (fun _ _ => rfl) (Nat.le_refl _) (fun _ _ => ⟨Nat.le_refl _, fun _ => ⟨rfl, rfl, rfl⟩⟩) (fun b hb => by rw [tp b hb]; exact Nat.le_refl _)
  refine ⟨⟨h.below.alloc h.base_le _, h.N, h.NR, fun b hb => ?_, h.inj, fun l c hl => ?_, fun id m sz hid => ?_, h.rowinj, h.loop.mono hx rfl (KeepsObj.alloc _ _)⟩, hx⟩
  · simp at hb
    have : (M.newTop w.heap.size k).top b = M.top b := by simp [Mem.newTop]; omega
    rw [this]
    exact h.top b (by omega)
  · obtain ⟨a1, a2, c', ty', a3, a4, a5, a6⟩ := h.box l c hl
    have hlt := (Array.getElem?_eq_some_iff.1 a3).1
    exact ⟨a1, by rw [show (M.newTop w.heap.size k).bx l = M.bx l from rfl, tp _ hlt]; exact a2, c', ty', by rw [show (M.newTop w.heap.size k).bx l = M.bx l from rfl, heap_alloc_lt _ _ hlt]; exact a3, a4, a5, fun i h1 h2 => (a6 i h1 h2).mono hx⟩
  · obtain ⟨b1, b2, b3, b4, b5, b6, b7, c', ty', b8, b9⟩ := h.row id m sz hid
    have hlt := (Array.getElem?_eq_some_iff.1 b8).1
    exact ⟨b1, b2, b3, by rw [show (M.newTop w.heap.size k).blk id = M.blk id from rfl, tp _ hlt]; exact b4, b5, b6, b7, c', ty', by rw [show (M.newTop w.heap.size k).blk id = M.blk id from rfl, heap_alloc_lt _ _ hlt]; exact b8, b9⟩

/-- Whatever is made beyond what there is: the first k cells of block b will not change. -/
theorem RelSt.later (h : RelSt w0 M st w) {w' : World} (hb : Below w.heap.size w w') (b k : Nat) (hw : w.heap.size ≤ b) (hk : b < w'.heap.size ∨ k = 0) :
    RelSt w0 (M.newTop b k) st w' ∧ Ext w0 M w (M.newTop b k) w' := by
  have tp : ∀ x, x < w.heap.size → (M.newTop b k).top x = M.top x := fun x hx => by simp [Mem.newTop]; omega
  have hh : ∀ x, x < w.heap.size → w'.heap[x]? = w.heap[x]? := hb.block
  have hko : KeepsObj w w' := fun x o h1 _ => (hh x (Array.getElem?_eq_some_iff.1 h1).1).trans h1
  have hx : Ext w0 M w (M.newTop b k) w' :=
    ⟨Nat.le_refl _, fun _ _ => rfl, Nat.le_refl _, fun _ _ => ⟨Nat.le_refl _, fun _ => ⟨rfl, rfl, rfl⟩⟩, fun x off v hi hc => by
      have hlt := World.block_lt_of_cell? w _ hc
      refine ⟨?_, hi.imp id fun q => by rw [tp x hlt]; exact q⟩
      unfold World.cell? at hc ⊢
      simp only [hh x hlt] at hc ⊢
      exact hc, hb.size, Nat.le_refl _, fun _ _ => rfl, fun _ h1 h2 => absurd h2 (Nat.not_lt.2 h1), fun x o h1 h2 _ => hko x o h1 h2⟩
  refine ⟨⟨h.below.trans (hb.mono h.base_le), h.N, h.NR, fun x hx' => ?_, h.inj, fun l c hl => ?_, fun id m sz hid => ?_, h.rowinj, h.loop.mono hx rfl hko⟩, hx⟩
  · have := hb.size
    by_cases c : x = b
    · have e : (M.newTop b k).top x = k := by simp [Mem.newTop, c]
      rw [e]
      rcases hk with hk | hk
      · omega
      · exact hk
    · have e : (M.newTop b k).top x = M.top x := by simp [Mem.newTop, c]
      rw [e]
      exact h.top x (by omega)
  · obtain ⟨a1, a2, c', ty', a3, a4, a5, a6⟩ := h.box l c hl
    have hlt := (Array.getElem?_eq_some_iff.1 a3).1
    exact ⟨a1, by rw [show (M.newTop b k).bx l = M.bx l from rfl, tp _ hlt]; exact a2, c', ty', by rw [show (M.newTop b k).bx l = M.bx l from rfl, hh _ hlt]; exact a3, a4, a5, fun i h1 h2 => (a6 i h1 h2).mono hx⟩
  · obtain ⟨b1, b2, b3, b4, b5, b6, b7, c', ty', b8, b9⟩ := h.row id m sz hid
    have hlt := (Array.getElem?_eq_some_iff.1 b8).1
    exact ⟨b1, b2, b3, by rw [show (M.newTop b k).blk id = M.blk id from rfl, tp _ hlt]; exact b4, b5, b6, b7, c', ty', by rw [show (M.newTop b k).blk id = M.blk id from rfl, hh _ hlt]; exact b8, b9⟩

/-- A new box. -/
def Mem.newBox (M : Mem) (b : Nat) : Mem := { M with N := M.N + 1, bx := fun l => if l = M.N then b else M.bx l }
theorem RelSt.newBox (h : RelSt w0 M st w) (v : Value) (x : AV) (ty : TypeId) (hR : R w0 M w v x) (hn : notTup x = true) :
    RelSt w0 (M.newBox w.heap.size) { st with boxes := st.boxes ++ [x.cells] } (w.alloc (.cells v.cells ty)) ∧ Ext w0 M w (M.newBox w.heap.size) (w.alloc (.cells v.cells ty)) ∧
      R w0 (M.newBox w.heap.size) (w.alloc (.cells v.cells ty)) (.pointer (some ⟨w.heap.size, 0, none⟩)) (.box st.boxes.length 0) := by
  have hbx : ∀ l, l < M.N → (M.newBox w.heap.size).bx l = M.bx l := fun l hl => by simp [Mem.newBox]; omega
  have hnew : (M.newBox w.heap.size).bx M.N = w.heap.size := by simp [Mem.newBox]
  have hx : Ext w0 M w (M.newBox w.heap.size) (w.alloc (.cells v.cells ty)) :=
    ext_new _ _ (.inr rfl) hbx (Nat.le_refl _) (fun _ _ => ⟨Nat.le_refl _, fun _ => ⟨rfl, rfl, rfl⟩⟩) (fun b hb => Nat.le_refl _)
  have hR' := hR.mono hx
  refine ⟨⟨h.below.alloc h.base_le _, by simp [Mem.newBox, h.N], h.NR, fun b hb => h.top b (by simp at hb; omega), fun l l' hl hl' e => ?_, fun l c hl => ?_, fun id m sz hid => ?_, h.rowinj, h.loop.mono hx rfl (KeepsObj.alloc _ _)⟩, hx, ?_⟩
  · have hN : (M.newBox w.heap.size).N = M.N + 1 := rfl
    rw [hN] at hl hl'
    by_cases e1 : l = M.N
    · by_cases e2 : l' = M.N
      · omega
      · subst e1
        rw [hnew, hbx l' (by omega)] at e
        have := h.box_lt (l := l') (by omega)
        omega
    · by_cases e2 : l' = M.N
      · subst e2
        rw [hnew, hbx l (by omega)] at e
        have := h.box_lt (l := l) (by omega)
        omega
      · rw [hbx l (by omega), hbx l' (by omega)] at e
        exact h.inj l l' (by omega) (by omega) e
  · by_cases e1 : l = M.N
    · subst e1
      simp only [h.N, List.getElem?_concat_length, Option.some.injEq] at hl
      subst hl
      rw [hnew]
      obtain ⟨hs, hc⟩ := hR'.cells
      refine ⟨h.base_le, h.top _ (Nat.le_refl _), v.cells, ty, heap_alloc_new w _, hs, hR.cellsOne (fun vs e => by subst e; cases hn), hc⟩
    · have hl' : l < M.N := by
        have : l < (st.boxes ++ [x.cells]).length := (List.getElem?_eq_some_iff.1 hl).1
        have hN := h.N
        simp at this
        omega
      rw [List.getElem?_append_left (by rw [← h.N]; exact hl')] at hl
      obtain ⟨a1, a2, c', ty', a3, a4, a5, a6⟩ := h.box l c hl
      have hlt := (Array.getElem?_eq_some_iff.1 a3).1
      rw [hbx l hl']
      exact ⟨a1, a2, c', ty', by rw [heap_alloc_lt _ _ hlt]; exact a3, a4, a5, fun i h1 h2 => (a6 i h1 h2).mono hx⟩
  · obtain ⟨b1, b2, b3, b4, b5, b6, b7, c', ty', b8, b9⟩ := h.row id m sz hid
    have hlt := (Array.getElem?_eq_some_iff.1 b8).1
    refine ⟨b1, b2, b3, b4, fun l hl => ?_, b6, b7, c', ty', by rw [show (M.newBox w.heap.size).blk id = M.blk id from rfl, heap_alloc_lt _ _ hlt]; exact b8, b9⟩
    by_cases e1 : l = M.N
    · subst e1
      rw [hnew]
      show w.heap.size ≠ M.blk id
      omega
    · have hN : (M.newBox w.heap.size).N = M.N + 1 := rfl
      rw [hbx l (by omega)]
      exact b5 l (by omega)
  · have := R.box (w0 := w0) (M := M.newBox w.heap.size) (w := w.alloc (.cells v.cells ty)) (l := st.boxes.length) (off := 0) (by rw [← h.N]; exact Nat.lt_succ_self _)
    rwa [← h.N, hnew, h.N] at this

/-! ### alloc, box, build, buildSlice, store -/
theorem zeroT_spec {t : TypeId} {z : List AV} (h : zeroT P t = some z) : ∃ i v, P.info? t = some i ∧ i.zero = some v ∧ constOk v = true ∧ v.cells.size = i.size ∧ z = (ofVal v).cells := by
  unfold zeroT at h
  split at h
  · rename_i i hi
    split at h
    · rename_i v hv
      split at h
      · rename_i hc
        simp only [Bool.and_eq_true, beq_iff_eq] at hc
        exact ⟨i, v, hi, hv, hc.1, hc.2, (Option.some.inj h).symm⟩
      · cases h
    · cases h
  · cases h
theorem notTup_ofVal {v : Value} (h : constOk v = true) : notTup (ofVal v) = true := by
  have hc : ∀ u, notTup (ofCell u) = true := fun u => by unfold ofCell; split <;> rfl
  cases v <;> first | rfl | exact hc _

theorem ys_alloc (h : Rel w0 n M e st a w) (t : TypeId) (hob : (evOp P e true st (.alloc t)).1) :
    Yields' P w0 M (evOp P e true st (.alloc t)).2.2 (evOp P e true st (.alloc t)).2.1 w (do pure (.value (← Instr.alloc t true (.tuple #[])))) := by
  unfold evOp at hob ⊢
  cases hz : zeroT P t with
  | none => simp [hz] at hob
  | some z =>
    simp only [hz]
    obtain ⟨i, v, hi, hv, hc, hs, rfl⟩ := zeroT_spec hz
    obtain ⟨h1, h2, h3⟩ := h.st.newBox v (ofVal v) t (R_ofVal hc) (notTup_ofVal hc)
    refine .value ⟨_, _, _, ?_, h2, h1, h3⟩
    simp [Instr.alloc, zeroValue, typeInfo, hi, hv, newVar, newRow]

theorem ys_box (h : Rel w0 n M e st a w) (t : TypeId) (x : Operand) (hob : (evOp P e true st (.box t x)).1) :
    Yields' P w0 M (evOp P e true st (.box t x)).2.2 (evOp P e true st (.box t x)).2.1 w (do pure (.value (← Instr.box t (a.eval x)))) := by
  obtain ⟨_, hx, hn⟩ := hob
  obtain ⟨h1, h2, h3⟩ := h.st.newBox (a.eval x) (argV e x) t (arg_R h hx) hn
  refine .value ⟨_, _, _, ?_, h2, h1, h3⟩
  simp [Instr.box, newVar, newRow]

/-- Writing a row of values over a row of values. -/
theorem foldl_set (vs : List Value) : ∀ (k : Nat) (cs : Array Value) (off : Nat), off + k + vs.length ≤ cs.size →
    ((vs.zipIdx k).foldl (fun cs (x : Value × Nat) => cs.setIfInBounds (off + x.2) x.1) cs).size = cs.size ∧
    ∀ j, ((vs.zipIdx k).foldl (fun cs (x : Value × Nat) => cs.setIfInBounds (off + x.2) x.1) cs)[j]? = if off + k ≤ j ∧ j < off + k + vs.length then vs[j - (off + k)]? else cs[j]? := by
  induction vs with
  | nil => intro k cs off h; exact ⟨rfl, fun j => by simp; omega⟩
  | cons v vs ih =>
    intro k cs off h
    simp only [List.length_cons] at h
    simp only [List.zipIdx_cons, List.foldl_cons, List.length_cons]
    obtain ⟨i1, i2⟩ := ih (k + 1) (cs.setIfInBounds (off + k) v) off (by simp; omega)
    refine ⟨by rw [i1]; simp, fun j => ?_⟩
    rw [i2 j]
    by_cases c1 : off + (k + 1) ≤ j ∧ j < off + (k + 1) + vs.length
    · rw [if_pos c1, if_pos (by omega), show j - (off + k) = (j - (off + (k + 1))) + 1 from by omega]
      simp
    · rw [if_neg c1]
      by_cases c2 : j = off + k
      · subst c2
        have hlt : off + k < cs.size := by omega
        rw [if_pos (by omega)]
        simp [hlt]
      · rw [if_neg (by omega), Array.getElem?_setIfInBounds_ne (by omega)]

theorem splice_length {l xs : List AV} {off : Nat} (h : off + xs.length ≤ l.length) : (splice l off xs).length = l.length := by
  simp [splice]; omega
theorem splice_get {l xs : List AV} {off : Nat} (h : off + xs.length ≤ l.length) (j : Nat) : (splice l off xs)[j]? = if off ≤ j ∧ j < off + xs.length then xs[j - off]? else l[j]? := by
  unfold splice
  rw [List.append_assoc, List.getElem?_append]
  simp only [List.length_take]
  have e : min off l.length = off := by omega
  rw [e]
  by_cases c1 : j < off
  · rw [if_pos c1, if_neg (by omega), List.getElem?_take, if_pos c1]
  · rw [if_neg c1, List.getElem?_append]
    by_cases c2 : j - off < xs.length
    · rw [if_pos c2, if_pos (by omega)]
    · rw [if_neg c2, if_neg (by omega), List.getElem?_drop]
      congr 1
      omega
theorem splice_one {l xs : List AV} {off : Nat} (h1 : ∀ x ∈ l, x.one = true) (h2 : ∀ x ∈ xs, x.one = true) : ∀ x ∈ splice l off xs, x.one = true := by
  intro x hx
  simp only [splice, List.mem_append] at hx
  rcases hx with (hx | hx) | hx
  · exact h1 x (List.mem_of_mem_take hx)
  · exact h2 x hx
  · exact h1 x (List.mem_of_mem_drop hx)

/-- Two rows, cell by cell. -/
def RowR (w0 : World) (M : Mem) (w : World) (cs : Array Value) (l : List AV) : Prop := cs.size = l.length ∧ ∀ i (h1 : i < cs.size) (h2 : i < l.length), R w0 M w cs[i] l[i]
theorem RowR.get {cs : Array Value} {l : List AV} (h : RowR w0 M w cs l) {i : Nat} {v : Value} {x : AV} (hv : cs[i]? = some v) (hx : l[i]? = some x) : R w0 M w v x := by
  obtain ⟨a1, rfl⟩ := Array.getElem?_eq_some_iff.1 hv
  obtain ⟨a2, rfl⟩ := List.getElem?_eq_some_iff.1 hx
  exact h.2 i a1 a2
theorem RowR.mk {cs : Array Value} {l : List AV} (hs : cs.size = l.length) (h : ∀ (i : Nat) (v : Value) (x : AV), cs[i]? = some v → l[i]? = some x → R w0 M w v x) : RowR w0 M w cs l :=
  ⟨hs, fun i h1 h2 => h i _ _ (Array.getElem?_eq_getElem h1) (List.getElem?_eq_getElem h2)⟩
theorem RowR.put {cs cs' : Array Value} {l : List AV} (h : RowR w0 M w cs l) {v : Value} {x : AV} (hR : R w0 M w v x) {off : Nat} (hoff : off + x.cells.length ≤ l.length) (hs : cs'.size = cs.size)
    (hg : ∀ j, cs'[j]? = if off ≤ j ∧ j < off + v.cells.toList.length then v.cells.toList[j - off]? else cs[j]?) : RowR w0 M w cs' (splice l off x.cells) := by
  obtain ⟨c1, c2⟩ := hR.cells
  refine .mk (by rw [hs, splice_length hoff]; exact h.1) (fun i u y hu hy => ?_)
  rw [hg i] at hu
  rw [splice_get hoff] at hy
  simp only [Array.length_toList] at hu
  rw [← c1] at hy
  by_cases c : off ≤ i ∧ i < off + v.cells.size
  · rw [if_pos c] at hu hy
    rw [Array.getElem?_toList] at hu
    exact RowR.get ⟨c1, c2⟩ hu hy
  · rw [if_neg c] at hu hy
    exact h.get hu hy

theorem ys_fill (t : TypeId) (pl : Nat → Option (Nat × Nat)) (hpl : ∀ i o s, placeT P t i = some (o, s) → pl i = some (o, s)) :
    ∀ (vs : List (Nat × Value)) (xs : List (Nat × AV)) (cs : Array Value) (l : List AV), vs.length = xs.length → (∀ (k : Nat) (p : Nat × Value) (q : Nat × AV), vs[k]? = some p → xs[k]? = some q → p.1 = q.1 ∧ R w0 M w p.2 q.2 ∧ notTup q.2 = true) →
      RowR w0 M w cs l → (∀ y ∈ l, y.one = true) → fillOk P t l.length xs → ∃ cs', Instr.fill pl cs vs = some cs' ∧ RowR w0 M w cs' (fillA P t l xs) ∧ (∀ y ∈ fillA P t l xs, y.one = true)
  | [], [], cs, l, _, _, h, h1, _ => ⟨cs, rfl, h, h1⟩
  | [], _ :: _, _, _, hl, _, _, _, _ => by cases hl
  | _ :: _, [], _, _, hl, _, _, _, _ => by cases hl
  | (i, v) :: vs, (i', x) :: xs, cs, l, hl, hp, h, h1, hf => by
    obtain ⟨rfl, hR, hn⟩ := hp 0 _ _ rfl rfl
    simp only at hR hn
    simp only [fillOk] at hf
    obtain ⟨hf1, hf2⟩ := hf
    simp only [Instr.fill, fillA]
    cases hpp : placeT P t i with
    | none => simp [hpp] at hf1
    | some p =>
      obtain ⟨o, s⟩ := p
      simp only [hpp] at hf1 ⊢
      obtain ⟨a1, a2⟩ := hf1
      obtain ⟨c1, c2⟩ := hR.cells
      rw [hpl i o s hpp]
      have e1 : (decide (v.cells.size ≠ s) || decide (o + v.cells.size > cs.size)) = false := by have := h.1; simp; omega
      simp only [e1, Bool.false_eq_true, if_false]
      have hfl := foldl_set v.cells.toList 0 cs o (by simp; have := h.1; omega)
      have efold : (v.cells.zipIdx.foldl (fun cs (c, j) => cs.setIfInBounds (o + j) c) cs) = (v.cells.toList.zipIdx 0).foldl (fun cs (x : Value × Nat) => cs.setIfInBounds (o + x.2) x.1) cs := by
        rw [← Array.foldl_toList]
        simp
      rw [efold]
      simp only [Nat.add_zero] at hfl
      have hput := h.put hR (off := o) (by omega) hfl.1 hfl.2
      refine ys_fill t pl hpl vs xs _ _ (by simpa using hl) (fun k p q hk hq => hp (k + 1) p q (by simpa using hk) (by simpa using hq)) hput (splice_one h1 (hR.cellsOne (fun vs e => by subst e; cases hn))) ?_
      rw [splice_length (by omega)]
      exact hf2

theorem run_mapM {α β : Type} (f : α → Sem β) (g : α → β) : ∀ (l : List α), (∀ x ∈ l, ∀ w, (f x).run P w = .ok (g x) w) → ∀ w, (l.mapM f).run P w = .ok (l.map g) w
  | [], _, w => by simp
  | x :: l, h, w => by simp [h x (by simp), run_mapM f g l (fun y hy => h y (by simp [hy])) w]
theorem run_amapM {α β : Type} (f : α → Sem β) (g : α → β) (xs : Array α) (h : ∀ x ∈ xs.toList, ∀ w, (f x).run P w = .ok (g x) w) (w : World) : (xs.mapM f).run P w = .ok (xs.map g) w := by
  rw [Array.mapM_eq_mapM_toList]
  simp only [Sem.run_map, run_mapM f g xs.toList h w, Result.andThen_ok]
  congr 1
  apply Array.ext'
  simp

theorem placesOf_spec : ∀ (fs : List Field) (l : List (Nat × Nat)), placesOf P fs = some l →
    l = fs.map (fun f => (f.offset, P.cellsOf f.type)) ∧ ∀ f ∈ fs, ∀ w, (sizeOf f.type).run P w = .ok (P.cellsOf f.type) w
  | [], l, h => by cases h; exact ⟨rfl, fun f hf => by cases hf⟩
  | f :: fs, l, h => by
    simp only [placesOf] at h
    split at h
    · rename_i i r hi hr
      cases h
      obtain ⟨e1, e2⟩ := placesOf_spec fs r hr
      have hc : P.cellsOf f.type = i.size := by simp [Program.cellsOf, hi]
      refine ⟨by simp [hc, ← e1], fun g hg w => ?_⟩
      rcases List.mem_cons.1 hg with rfl | hg
      · simp [sizeOf, typeInfo, hi, hc]
      · exact e2 g hg w
    · cases h

theorem ys_build (h : Rel w0 n M e st a w) (t : TypeId) (ps : Array (Nat × Operand)) (hob : (evOp P e true st (.build t ps)).1) :
    Yields' P w0 M (evOp P e true st (.build t ps)).2.2 (evOp P e true st (.build t ps)).2.1 w (do pure (.value (← Instr.build t (ps.map fun (i, x) => (i, a.eval x))))) := by
  unfold evOp at hob ⊢
  cases hz : zeroT P t with
  | none => simp [hz] at hob
  | some z =>
    simp only [hz] at hob ⊢
    obtain ⟨hpl, hps, hf⟩ := hob
    obtain ⟨i, v, hi, hv, hc, hs, rfl⟩ := zeroT_spec hz
    have hR0 : R w0 M w v (ofVal v) := R_ofVal hc
    have hrow : RowR w0 M w v.cells (ofVal v).cells := hR0.cells
    have hone := hR0.cellsOne (fun vs e => by have := notTup_ofVal hc; rw [e] at this; cases this)
    have harg : ∀ (k : Nat) (p : Nat × Value) (q : Nat × AV), ((ps.map fun (i, x) => (i, a.eval x)).toList)[k]? = some p → (ps.toList.map fun p => (p.1, argV e p.2))[k]? = some q → p.1 = q.1 ∧ R w0 M w p.2 q.2 ∧ notTup q.2 = true := by
      intro k p q hp hq
      simp only [Array.toList_map, List.getElem?_map, Option.map_eq_some_iff] at hp hq
      obtain ⟨p0, h1, rfl⟩ := hp
      obtain ⟨q0, h2, rfl⟩ := hq
      rw [h1] at h2
      cases h2
      have hm : p0 ∈ ps.toList := List.mem_of_getElem? h1
      exact ⟨rfl, arg_R h (hps p0 hm).1, (hps p0 hm).2⟩
    have hlen : ((ps.map fun (i, x) => (i, a.eval x)).toList).length = (ps.toList.map fun p => (p.1, argV e p.2)).length := by simp
    cases hpp : placesT P t with
    | some l =>
      unfold placesT at hpp
      split at hpp
      · rename_i fs hu
        obtain ⟨e1, e2⟩ := placesOf_spec _ _ hpp
        have hpl' : ∀ i o s, placeT P t i = some (o, s) → ((fs.map fun f => (f.offset, P.cellsOf f.type))[·]?) i = some (o, s) := by
          intro i o s hp
          simp only [placeT, placesT, hu, hpp] at hp
          rw [e1] at hp
          simpa using hp
        obtain ⟨cs', f1, f2, f3⟩ := ys_fill t _ hpl' _ _ v.cells _ hlen harg hrow hone hf
        refine .here h.st (v := .agg cs') ?_ (.agg f2.1 f3 f2.2)
        have hm := run_amapM (P := P) (fun (f : Field) => (do pure (f.offset, ← sizeOf f.type) : Sem (Nat × Nat))) (fun f => (f.offset, P.cellsOf f.type)) fs (fun f hf w => by simp [e2 f hf]) w
        simp only [Instr.build, zeroValue, typeInfo, Sem.run_bind, run_program, Result.andThen_ok, hi, hv, Sem.run_pure, run_underlying hu, hm, f1]
      · cases hpp
    | none =>
      cases ha : arrT P t with
      | none => simp [hpp, ha] at hpl
      | some p =>
        obtain ⟨m, s, ag⟩ := p
        obtain ⟨el, hu, hty⟩ := arrT_spec ha
        have hpl' : ∀ i o s', placeT P t i = some (o, s') → (fun i => some (i * s, s)) i = some (o, s') := by
          intro i o s' hp
          simpa [placeT, hpp, ha] using hp
        obtain ⟨cs', f1, f2, f3⟩ := ys_fill t _ hpl' _ _ v.cells _ hlen harg hrow hone hf
        refine .here h.st (v := .agg cs') ?_ (.agg f2.1 f3 f2.2)
        simp only [Instr.build, zeroValue, typeInfo, Sem.run_bind, run_program, Result.andThen_ok, hi, hv, Sem.run_pure, run_underlying hu, run_sizeOf' hty, f1]

theorem fill_seq (sz : Nat) : ∀ (vals : List Value) (k : Nat) (cs : Array Value), (∀ v ∈ vals, v.cells.size = sz) → (k + vals.length) * sz ≤ cs.size →
    ∃ cs', Instr.fill (fun i => some (i * sz, sz)) cs ((vals.zipIdx k).map fun x => (x.2, x.1)) = some cs' ∧ cs'.size = cs.size ∧ (∀ j, j < k * sz → cs'[j]? = cs[j]?) ∧
      ∀ i v, vals[i]? = some v → ∀ j, j < sz → cs'[(k + i) * sz + j]? = v.cells[j]?
  | [], k, cs, _, _ => ⟨cs, rfl, rfl, fun _ _ => rfl, fun i v h => by simp at h⟩
  | v :: vals, k, cs, hv, hl => by
    have h0 := hv v (by simp)
    simp only [List.length_cons] at hl
    have hl' : (k + 1) * sz ≤ cs.size := Nat.le_trans (Nat.mul_le_mul_right _ (by omega)) hl
    rw [Nat.succ_mul] at hl'
    simp only [List.zipIdx_cons, List.map_cons, Instr.fill]
    have e1 : (decide (v.cells.size ≠ sz) || decide (k * sz + v.cells.size > cs.size)) = false := by simp; omega
    simp only [e1, Bool.false_eq_true, if_false]
    have efold : (v.cells.zipIdx.foldl (fun cs (c, j) => cs.setIfInBounds (k * sz + j) c) cs) = (v.cells.toList.zipIdx 0).foldl (fun cs (x : Value × Nat) => cs.setIfInBounds (k * sz + x.2) x.1) cs := by
      rw [← Array.foldl_toList]
      simp
    have hfl := foldl_set v.cells.toList 0 cs (k * sz) (by simp; omega)
    rw [efold]
    simp only [Nat.add_zero, Array.length_toList, h0] at hfl
    obtain ⟨cs', a1, a2, a3, a4⟩ := fill_seq sz vals (k + 1) ((v.cells.toList.zipIdx 0).foldl (fun cs (x : Value × Nat) => cs.setIfInBounds (k * sz + x.2) x.1) cs) (fun u hu => hv u (by simp [hu])) (by rw [hfl.1]; rw [show k + 1 + vals.length = k + (vals.length + 1) from by omega]; exact hl)
    refine ⟨cs', a1, by rw [a2, hfl.1], fun j hj => ?_, fun i u hu j hj => ?_⟩
    · rw [a3 j (by rw [Nat.succ_mul]; omega), hfl.2 j, if_neg (by omega)]
    · cases i with
      | zero =>
        simp only [List.getElem?_cons_zero, Option.some.injEq] at hu
        subst hu
        simp only [Nat.add_zero]
        rw [a3 _ (by rw [Nat.succ_mul]; omega), hfl.2, if_pos (by omega), Array.getElem?_toList]
        congr 1
        omega
      | succ i =>
        have := a4 i u (by simpa using hu) j hj
        rw [← this, show k + (i + 1) = k + 1 + i from by omega]

theorem parts_zip {ps : List (Nat × Operand)} {m : Nat} (h : ps.map (·.1) = List.range m) (f : Operand → Value) :
    (ps.map fun p => (p.1, f p.2)) = ((ps.map fun p => f p.2).zipIdx 0).map fun x => (x.2, x.1) := by
  have hl : ps.length = m := by simpa using congrArg List.length h
  apply List.ext_getElem?
  intro i
  simp only [List.getElem?_map, List.getElem?_zipIdx]
  cases hp : ps[i]? with
  | none => simp
  | some p =>
    have hi : i < m := by rw [← hl]; exact (List.getElem?_eq_some_iff.1 hp).1
    have := congrArg (·[i]?) h
    simp [hp, hi] at this
    simp [this]

/-- A new row of values that will not change. -/
theorem R.row {cs : Array Value} {ty : TypeId} {xs : List AV} {sz k : Nat} (us : Nat → Value) (hu : ∀ i (hi : i < xs.length), (us i).cells.size = sz ∧ R w0 M w (us i) xs[i])
    (hc : ∀ i, i < xs.length → ∀ j, j < sz → cs[i * sz + j]? = (us i).cells[j]?) {cap : Nat} (hcap : xs.length ≤ cap) (hm : cap ≤ maxLen) {o : Own} (hk : xs.length * sz ≤ k) (M' : Mem) (hM : M'.top w.heap.size = k)
    (hx : Ext w0 M w M' (w.alloc (.cells cs ty))) (ho : ownOk M' w.heap.size 0 cap xs.length sz o) :
    R w0 M' (w.alloc (.cells cs ty)) (.slice (some ⟨w.heap.size, 0, none⟩) xs.length cap) (.list xs o) := by
  refine .list sz us hcap hm (fun i hi => ⟨(hu i hi).1, fun j hj => ⟨.inr ?_, ?_⟩⟩) (fun i hi => ((hu i hi).2).mono hx) ho
  · rw [hM]
    have : (i + 1) * sz ≤ xs.length * sz := Nat.mul_le_mul_right _ hi
    rw [Nat.succ_mul] at this
    omega
  · rw [Nat.zero_add, World.cell?_alloc_new]
    exact hc i hi j hj

theorem ys_buildSlice (h : Rel w0 n M e st a w) (t : TypeId) (m : Nat) (ps : Array (Nat × Operand)) (hob : (evOp P e true st (.buildSlice t m ps)).1) :
    Yields' P w0 M (evOp P e true st (.buildSlice t m ps)).2.2 (evOp P e true st (.buildSlice t m ps)).2.1 w (do pure (.value (← Instr.buildSlice t m (ps.map fun (i, x) => (i, a.eval x))))) := by
  unfold evOp at hob ⊢
  cases he : elT P t with
  | none => simp [he] at hob
  | some p =>
    obtain ⟨el, sz, ag, by8⟩ := p
    simp only [he] at hob ⊢
    obtain ⟨hps, hr, hbig, hpos, hz, hcs⟩ := hob
    obtain ⟨i, hu, hi, _, hty⟩ := elT_spec he
    obtain ⟨z, hz'⟩ := Option.isSome_iff_exists.1 hz
    obtain ⟨i', v, hi', hv, hc, hs, rfl⟩ := zeroT_spec hz'
    have hl : ps.toList.length = m := by simpa using congrArg List.length hr
    have hcell : ∀ p ∈ ps.toList, (a.eval p.2).cells.size = sz := fun p hp => by
      rw [(arg_R h (hps p hp)).cells.1]
      exact hcs _ (List.mem_map.2 ⟨p, hp, rfl⟩)
    obtain ⟨zc, hzc⟩ : ∃ zc : Array Value, if m * sz = 0 then zc = #[] else zc = v.cells := by
      by_cases h0 : m * sz = 0
      · exact ⟨#[], by rw [if_pos h0]⟩
      · exact ⟨v.cells, by rw [if_neg h0]⟩
    obtain ⟨cs', a1, a2, a3, a4⟩ := fill_seq sz (ps.toList.map fun p => a.eval p.2) 0 ((Array.range (m * sz)).map (zc[· % zc.size]!)) (fun u hu => by obtain ⟨p, hp, rfl⟩ := List.mem_map.1 hu; exact hcell p hp) (by simp [hl])
    obtain ⟨hst', hx⟩ := h.st.newTop cs' el (m * sz)
    have hlen : ((ps.toList.map fun p => argV e p.2).map AV.pub).length = m := by simp [← hl]
    have hrow := R.row (us := fun i => ((ps.toList.map fun p => a.eval p.2).getD i undef)) (xs := (ps.toList.map fun p => argV e p.2).map AV.pub) (cs := cs') (ty := el) (sz := sz) (k := m * sz) (cap := m) (o := .full) ?hu ?hc (by rw [hlen]; exact Nat.le_refl _) ?hm (by rw [hlen]; exact Nat.le_refl _) (M.newTop w.heap.size (m * sz)) (by simp [Mem.newTop]) hx hlen
    case hu =>
      intro k hk
      have hk' : k < ps.toList.length := by simpa using hk
      have e1 : (ps.toList.map fun p => a.eval p.2).getD k undef = a.eval (ps.toList[k]).2 := by simp [List.getD, List.getElem?_eq_getElem hk']
      rw [e1]
      refine ⟨hcell _ (List.getElem_mem _), ?_⟩
      simp only [List.getElem_map]
      exact (arg_R h (hps _ (List.getElem_mem _))).pub
    case hc =>
      intro k hk j hj
      have hk' : k < ps.toList.length := by simpa using hk
      have := a4 k (a.eval (ps.toList[k]).2) (by simp [List.getElem?_eq_getElem hk']) j hj
      rw [Nat.zero_add] at this
      rw [this]
      simp [List.getD, List.getElem?_eq_getElem hk']
    case hm =>
      have : m * 1 ≤ m * sz := Nat.mul_le_mul_left _ hpos
      simp [maxLen]
      omega
    rw [hlen] at hrow
    refine .value ⟨_, _, _, ?_, hx, hst', hrow⟩
    have e0 : ¬ (m * sz > 2 ^ 24) := by omega
    have efl : (ps.map fun (i, x) => (i, a.eval x)).toList = ((ps.toList.map fun p => a.eval p.2).zipIdx 0).map fun x => (x.2, x.1) := by
      rw [Array.toList_map]
      exact parts_zip hr a.eval
    by_cases h0 : m * sz = 0
    · rw [if_pos h0] at hzc
      subst hzc
      simp only [Instr.buildSlice, Sem.run_bind, run_underlying hu, Result.andThen_ok, run_sizeOf' hty, if_neg e0, if_pos h0, Sem.run_pure, efl, a1, newRow, run_newObj]
      rfl
    · rw [if_neg h0] at hzc
      subst hzc
      simp only [Instr.buildSlice, Sem.run_bind, run_underlying hu, Result.andThen_ok, run_sizeOf' hty, if_neg e0, if_neg h0, Sem.run_pure, zeroValue, typeInfo, run_program, hi', hv, efl, a1, newRow, run_newObj]
      rfl

/-! ### store -/
theorem Below.setRow {B : Nat} {x y : World} (h : Below B x y) {g : Nat} (hg : B ≤ g) (cs : Array Value) : Below B x (y.setRow g cs) :=
  h.trans ⟨rfl, rfl, rfl, by simp, fun k hk => setRow_other y g k cs (by omega)⟩

theorem KeepsObj.setRow {g : Nat} {c : Array Value} {ty : TypeId} (hg : w.heap[g]? = some (.cells c ty (0, 0))) (c' : Array Value) : KeepsObj w (w.setRow g c') := by
  intro b o h1 h2
  by_cases q : b = g
  · subst q; rw [hg] at h1; cases h1; cases h2
  · rw [setRow_other w g b c' q]; exact h1
/-- Writing a block of the call's own of which nothing is settled from cell 'lim' on. -/
theorem ext_setRow (M' : Mem) (hN : M'.N = M.N) (hb : ∀ l, l < M.N → M'.bx l = M.bx l) (hNR : M'.NR = M.NR)
    (hr : ∀ id, id < M.NR → M.fr id ≤ M'.fr id ∧ (M'.fr id = M.fr id → M'.blk id = M.blk id ∧ M'.cap id = M.cap id ∧ M'.rsz id = M.rsz id)) (ht : ∀ b, M.top b ≤ M'.top b)
    {g : Nat} {c c' : Array Value} {ty : TypeId} (hg : w.heap[g]? = some (.cells c ty (0, 0))) (hg0 : w0.heap.size ≤ g) (hkeep : ∀ j, j < M.top g → c'[j]? = c[j]?) (hNL : M'.NL = M.NL := by rfl) (hlb : M'.lb = M.lb := by rfl) :
    Ext w0 M w M' (w.setRow g c') :=
  ⟨by omega, hb, by omega, hr, fun b off v hi hc => by
    refine ⟨?_, hi.imp id (fun q => Nat.lt_of_lt_of_le q (ht b))⟩
    by_cases hbg : b = g
    · subst hbg
      have h0 : off < M.top b := hi.resolve_left (by omega)
      rw [cell_of_row w b off c ty _ hg] at hc
      rw [cell_of_row _ b off c' ty _ (setRow_heap w b c c' ty _ hg), hkeep off h0]
      exact hc
    · rw [cell_setRow_other w g c' ⟨b, off, none⟩ hbg]
      exact hc, by simp, by omega, fun _ _ => by rw [hlb], fun _ _ _ => by omega, fun b o h1 h2 _ => KeepsObj.setRow hg c' b o h1 h2⟩

theorem ys_store (h : Rel w0 n M e st a w) (t : TypeId) (x v : Operand) (hob : (evOp P e true st (.store t x v)).1) :
    Yields' P w0 M (evOp P e true st (.store t x v)).2.2 (evOp P e true st (.store t x v)).2.1 w (do Instr.storeAt t (a.eval x) (a.eval v); pure .skip) := by
  unfold evOp at hob ⊢
  cases ht : tyT P t with
  | none => simp [ht] at hob
  | some p =>
    obtain ⟨sz, ag⟩ := p
    simp only [ht] at hob ⊢
    obtain ⟨_, hx, hv, hbx, hr, hn, hl, hle⟩ := hob
    have hRx := arg_R h hx
    have hRv := arg_R h hv
    generalize argV e x = X at hRx hbx hr hle ⊢
    generalize a.eval x = vx at hRx ⊢
    cases X with
    | box l off =>
      cases hRx with
      | box hlN =>
        have hlt : l < st.boxes.length := by simpa [isRef] using hr
        obtain ⟨cs, hcs⟩ : ∃ cs, st.boxes[l]? = some cs := ⟨_, List.getElem?_eq_getElem hlt⟩
        have ecs : st.boxes.getD l [] = cs := by simp [List.getD, hcs]
        obtain ⟨b1, b2, c, ty, b3, b4, b5, b6⟩ := h.st.box l cs hcs
        simp only [cellsAt, offAt, ecs] at hle
        simp only [storeB, ecs]
        obtain ⟨v1, v2⟩ := hRv.cells
        have v3 := hRv.cellsOne (fun vs e => by rw [e] at hn; cases hn)
        have hone : ∀ u ∈ (a.eval v).cells.toList, u.oneCell' = true := by
          intro u hu
          obtain ⟨k, hk, rfl⟩ := List.getElem_of_mem hu
          simp only [Array.length_toList] at hk
          rw [Array.getElem_toList]
          exact (v2 k hk (by omega)).oneCell (v3 _ (List.getElem_mem _))
        have hst := run_storeCells_at P (M.bx l) off ty (a.eval v).cells.toList 0 c w b3 (by simp; omega) hone
        simp only [Nat.add_zero] at hst
        generalize hc' : (c.toList.take off ++ (a.eval v).cells.toList ++ c.toList.drop (off + (a.eval v).cells.toList.length)).toArray = c' at hst
        have hsz' : c'.size = c.size := by rw [← hc']; simp; omega
        have hget : ∀ j, c'[j]? = if off ≤ j ∧ j < off + (a.eval v).cells.toList.length then (a.eval v).cells.toList[j - off]? else c[j]? := by
          intro j
          rw [← hc', List.getElem?_toArray, List.append_assoc, List.getElem?_append]
          simp only [List.length_take, Array.length_toList]
          have e : min off c.size = off := by omega
          rw [e]
          by_cases c1 : j < off
          · rw [if_pos c1, if_neg (by omega), List.getElem?_take, if_pos c1, Array.getElem?_toList]
          · rw [if_neg c1, List.getElem?_append]
            simp only [Array.length_toList]
            by_cases c2 : j - off < (a.eval v).cells.size
            · rw [if_pos c2, if_pos (by omega)]
            · rw [if_neg c2, if_neg (by omega), List.getElem?_drop, Array.getElem?_toList]
              congr 1
              omega
        have hx : Ext w0 M w M (w.setRow (M.bx l) c') := ext_setRow M rfl (fun _ _ => rfl) rfl (fun _ _ => ⟨Nat.le_refl _, fun _ => ⟨rfl, rfl, rfl⟩⟩) (fun _ => Nat.le_refl _) b3 b1 (fun j hj => by rw [b2] at hj; omega)
        have hrow : RowR w0 M w c' (splice cs off (argV e v).cells) := RowR.put ⟨b4, b6⟩ hRv (by omega) hsz' hget
        refine ⟨undef, _, M, .inr ⟨?_, rfl⟩, hx, ⟨Below.setRow h.st.below b1 _, by simp [h.st.N], h.st.NR, fun b hb => h.st.top b (by simpa using hb), h.st.inj, fun l' cs' hl' => ?_, fun id m s hid => ?_, h.st.rowinj, h.st.loop.mono hx rfl (KeepsObj.setRow b3 _)⟩, R_undef⟩
        · have e0 : ¬ ((a.eval v).cells.size ≠ sz) := by omega
          simp only [Instr.storeAt, Instr.sureAddr, Sem.run_bind, Sem.run_pure, Result.andThen_ok, storeVar, run_sizeOf' ht, if_neg e0, hst]
        · by_cases ell : l' = l
          · subst ell
            rw [List.getElem?_set_self hlt] at hl'
            cases hl'
            exact ⟨b1, b2, c', ty, setRow_heap w _ c c' ty _ b3, hrow.1, splice_one b5 v3, fun i h1 h2 => (hrow.2 i h1 h2).mono hx⟩
          · rw [List.getElem?_set_ne (Ne.symm ell)] at hl'
            obtain ⟨d1, d2, d, ty', d3, d4, d5, d6⟩ := h.st.box l' cs' hl'
            have hl'N : l' < M.N := by rw [h.st.N]; exact (List.getElem?_eq_some_iff.1 hl').1
            have hne : M.bx l' ≠ M.bx l := fun q => ell (h.st.inj l' l hl'N hlN q)
            exact ⟨d1, d2, d, ty', by rw [setRow_other w _ _ _ hne]; exact d3, d4, d5, fun i h1 h2 => (d6 i h1 h2).mono hx⟩
        · obtain ⟨r1, r2, r3, r4, r5, r6, r7, d, ty', r8, r9⟩ := h.st.row id m s hid
          exact ⟨r1, r2, r3, r4, r5, r6, r7, d, ty', by rw [setRow_other w _ _ _ (Ne.symm (r5 l hlN))]; exact r8, r9⟩
    | _ => cases hbx
end
end Go.Ev
