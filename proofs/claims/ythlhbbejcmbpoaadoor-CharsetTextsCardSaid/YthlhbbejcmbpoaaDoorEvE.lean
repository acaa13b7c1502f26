/-
  The abstract reading of the operations is sound: part three, append; and all operations together.
-/
import Derived.Test.YthlhbbejcmbpoaaDoorEvD
import Derived.Laws.IdiomStrings
import Derived.Laws.BytesArg
import Derived.Laws.Runes
import Derived.Lib.ConvBytes
namespace Go.Ev
open Go Go.RowKit

section
variable {P : Program} {w0 : World} {n : Nat} {M : Mem} {e : Env} {st : St} {a : Act} {w : World}

/-- The cells of a row of values. -/
def flat (us : Nat → Value) (m : Nat) : List Value := (List.range m).flatMap fun i => (us i).cells.toList
theorem flat_succ (us : Nat → Value) (m : Nat) : flat us (m + 1) = flat us m ++ (us m).cells.toList := by
  simp [flat, List.range_succ]
theorem flat_length {us : Nat → Value} {sz : Nat} : ∀ {m : Nat}, (∀ i, i < m → (us i).cells.size = sz) → (flat us m).length = m * sz
  | 0, _ => by simp [flat]
  | m + 1, h => by
    rw [flat_succ, List.length_append, flat_length (fun i hi => h i (by omega)), Array.length_toList, h m (by omega), Nat.succ_mul]
theorem flat_get {us : Nat → Value} {sz : Nat} : ∀ {m : Nat}, (∀ i, i < m → (us i).cells.size = sz) → ∀ i, i < m → ∀ j, j < sz → (flat us m)[i * sz + j]? = (us i).cells[j]?
  | 0, _, i, hi, _, _ => absurd hi (by omega)
  | m + 1, h, i, hi, j, hj => by
    have hl := flat_length (us := us) (m := m) (fun i hi => h i (by omega))
    rw [flat_succ, List.getElem?_append, hl]
    by_cases c : i = m
    · subst c
      rw [if_neg (by omega), show i * sz + j - i * sz = j from by omega, Array.getElem?_toList]
    · have h1 : (i + 1) * sz ≤ m * sz := Nat.mul_le_mul_right _ (by omega)
      rw [Nat.succ_mul] at h1
      rw [if_pos (by omega)]
      exact flat_get (fun i hi => h i (by omega)) i (by omega) j hj
theorem flat_cell {us : Nat → Value} {sz m : Nat} (hs : ∀ i, i < m → (us i).cells.size = sz) {b off : Nat} (hsz : 0 < sz) (hc : ∀ i, i < m → ∀ j, j < sz → w.cell? ⟨b, off + i * sz + j, none⟩ = (us i).cells[j]?) :
    ∀ j u, (flat us m)[j]? = some u → w.cell? ((⟨b, off, none⟩ : Addr).add j) = some u := by
  intro j u hu
  have hl := flat_length hs
  have hj : j < m * sz := by rw [← hl]; exact (List.getElem?_eq_some_iff.1 hu).1
  have e := Nat.div_add_mod j sz
  have hi : j / sz < m := (Nat.div_lt_iff_lt_mul hsz).2 hj
  have hjm := Nat.mod_lt j hsz
  have h1 := flat_get hs (j / sz) hi (j % sz) hjm
  have h2 := hc (j / sz) hi (j % sz) hjm
  have e' : j / sz * sz + j % sz = j := by rw [Nat.mul_comm]; exact e
  rw [e'] at h1
  rw [Nat.add_assoc, e'] at h2
  rw [add_none, h2, ← h1, hu]

/-- A list, opened. -/
theorem R.list_open {v : Value} {xs : List AV} {o : Own} {sz : Nat} (h : R w0 M w v (.list xs o)) (hs : ∀ y ∈ xs, y.cells.length = sz) :
    ∃ us : Nat → Value, (∀ i (hi : i < xs.length), (us i).cells.size = sz ∧ R w0 M w (us i) xs[i]) ∧
      ((v = .slice none 0 0 ∧ xs = [] ∧ ∀ id, o ≠ .row id) ∨ ∃ b off cap sz', v = .slice (some ⟨b, off, none⟩) xs.length cap ∧ xs.length ≤ cap ∧ cap ≤ maxLen ∧ ownOk M b off cap xs.length sz' o ∧
        ∀ i, i < xs.length → ∀ j, j < sz → w.cell? ⟨b, off + i * sz + j, none⟩ = (us i).cells[j]?) := by
  cases h with
  | nil ho => exact ⟨fun _ => undef, fun i hi => absurd hi (by simp), .inl ⟨rfl, rfl, ho⟩⟩
  | @list b off cap _ _ sz' us hc hm hcell hu ho =>
    have key : ∀ i (hi : i < xs.length), (us i).cells.size = sz := fun i hi => by rw [(hu i hi).cells.1]; exact hs _ (List.getElem_mem _)
    refine ⟨us, fun i hi => ⟨key i hi, hu i hi⟩, .inr ⟨b, off, cap, sz', rfl, hc, hm, ho, fun i hi j hj => ?_⟩⟩
    have e : sz' = sz := by rw [← (hcell i hi).1, key i hi]
    subst e
    exact ((hcell i hi).2 j hj).2

theorem flat_one {us : Nat → Value} {xs : List AV} {sz : Nat} (hu : ∀ i (hi : i < xs.length), (us i).cells.size = sz ∧ R w0 M w (us i) xs[i]) (hn : ∀ y ∈ xs, notTup y = true) : ∀ u ∈ flat us xs.length, u.oneCell' = true := by
  intro u hm
  obtain ⟨i, hi, hmem⟩ := List.mem_flatMap.1 hm
  have hi' : i < xs.length := List.mem_range.1 hi
  obtain ⟨hs, hR⟩ := hu i hi'
  obtain ⟨k, hk, rfl⟩ := List.getElem_of_mem hmem
  simp only [Array.length_toList] at hk
  rw [Array.getElem_toList]
  have hone := hR.cellsOne (fun vs e => by have := hn _ (List.getElem_mem hi'); rw [e] at this; cases this)
  exact (hR.cells.2 k hk (by rw [← hR.cells.1]; exact hk)).oneCell (hone _ (List.getElem_mem _))

/-! ### a new row, a row that has grown -/
def Mem.addRow (M : Mem) (b cap k sz : Nat) : Mem :=
  { M with NR := M.NR + 1, fr := fun i => if i = M.NR then k else M.fr i, blk := fun i => if i = M.NR then b else M.blk i, cap := fun i => if i = M.NR then cap else M.cap i,
           rsz := fun i => if i = M.NR then sz else M.rsz i, top := fun x => if x = b then k * sz else M.top x }
def Mem.growRow (M : Mem) (id b cap k sz : Nat) : Mem :=
  { M with fr := fun i => if i = id then k else M.fr i, blk := fun i => if i = id then b else M.blk i, cap := fun i => if i = id then cap else M.cap i, top := fun x => if x = b then k * sz else M.top x }

theorem RelSt.addRow (h : RelSt w0 M st w) {cs : Array Value} {ty : TypeId} {cap k sz : Nat} (hm : cap ≤ maxLen) (hk : k ≤ cap) (hs : cs.size = cap * sz) :
    RelSt w0 (M.addRow w.heap.size cap k sz) { st with rows := st.rows ++ [(k, sz)] } (w.alloc (.cells cs ty)) ∧ Ext w0 M w (M.addRow w.heap.size cap k sz) (w.alloc (.cells cs ty)) := by
  have tp : ∀ b, b < w.heap.size → (M.addRow w.heap.size cap k sz).top b = M.top b := fun b hb => by simp [Mem.addRow]; omega
  have old : ∀ i, i < M.NR → (M.addRow w.heap.size cap k sz).fr i = M.fr i ∧ (M.addRow w.heap.size cap k sz).blk i = M.blk i ∧ (M.addRow w.heap.size cap k sz).cap i = M.cap i ∧ (M.addRow w.heap.size cap k sz).rsz i = M.rsz i := by
    intro i hi
    have : ¬ i = M.NR := by omega
    simp [Mem.addRow, this]
  have hx : Ext w0 M w (M.addRow w.heap.size cap k sz) (w.alloc (.cells cs ty)) :=
    ext_new _ _ (.inl rfl) (fun _ _ => rfl) (Nat.le_succ _) (fun i hi => by obtain ⟨a1, a2, a3, a4⟩ := old i hi; exact ⟨by omega, fun _ => ⟨a2, a3, a4⟩⟩) (fun b hb => by rw [tp b hb]; exact Nat.le_refl _)
  refine ⟨⟨h.below.alloc h.base_le _, h.N, by simp [Mem.addRow, h.NR], fun b hb => ?_, h.inj, fun l c hl => ?_, fun id m s hid => ?_, fun i j hi hj hij => ?_, h.loop.mono hx rfl (KeepsObj.alloc _ _)⟩, hx⟩
  · simp at hb
    have : (M.addRow w.heap.size cap k sz).top b = M.top b := by simp [Mem.addRow]; omega
    rw [this]
    exact h.top b (by omega)
  · obtain ⟨a1, a2, c', ty', a3, a4, a5, a6⟩ := h.box l c hl
    have hlt := (Array.getElem?_eq_some_iff.1 a3).1
    exact ⟨a1, by rw [show (M.addRow w.heap.size cap k sz).bx l = M.bx l from rfl, tp _ hlt]; exact a2, c', ty', by rw [show (M.addRow w.heap.size cap k sz).bx l = M.bx l from rfl, heap_alloc_lt _ _ hlt]; exact a3, a4, a5, fun i h1 h2 => (a6 i h1 h2).mono hx⟩
  · by_cases e1 : id = M.NR
    · subst e1
      simp only [h.NR, List.getElem?_concat_length, Option.some.injEq, Prod.mk.injEq] at hid
      obtain ⟨rfl, rfl⟩ := hid
      have q : (M.addRow w.heap.size cap k sz).fr M.NR = k ∧ (M.addRow w.heap.size cap k sz).blk M.NR = w.heap.size ∧ (M.addRow w.heap.size cap k sz).cap M.NR = cap ∧ (M.addRow w.heap.size cap k sz).rsz M.NR = sz ∧ (M.addRow w.heap.size cap k sz).top w.heap.size = k * sz := by simp [Mem.addRow]
      obtain ⟨q1, q2, q3, q4, q5⟩ := q
      rw [q1, q2, q3, q4, q5]
      refine ⟨rfl, rfl, h.base_le, rfl, fun l hl => ?_, hm, hk, cs, ty, heap_alloc_new w _, hs⟩
      have := h.box_lt (l := l) hl
      show M.bx l ≠ w.heap.size
      omega
    · have hid' : id < M.NR := by
        have : id < (st.rows ++ [(k, sz)]).length := (List.getElem?_eq_some_iff.1 hid).1
        have hN := h.NR
        simp at this
        omega
      rw [List.getElem?_append_left (by rw [← h.NR]; exact hid')] at hid
      obtain ⟨b1, b2, b3, b4, b5, b6, b7, c', ty', b8, b9⟩ := h.row id m s hid
      have hlt := (Array.getElem?_eq_some_iff.1 b8).1
      obtain ⟨o1, o2, o3, o4⟩ := old id hid'
      rw [o1, o2, o3, o4, tp _ hlt]
      exact ⟨b1, b2, b3, b4, b5, b6, b7, c', ty', by rw [heap_alloc_lt _ _ hlt]; exact b8, b9⟩
  · have hN : (M.addRow w.heap.size cap k sz).NR = M.NR + 1 := rfl
    rw [hN] at hi hj
    have new : (M.addRow w.heap.size cap k sz).blk M.NR = w.heap.size := by simp [Mem.addRow]
    by_cases e1 : i = M.NR
    · by_cases e2 : j = M.NR
      · omega
      · subst e1
        rw [new, (old j (by omega)).2.1] at hij
        have := h.row_lt (i := j) (by omega)
        omega
    · by_cases e2 : j = M.NR
      · subst e2
        rw [new, (old i (by omega)).2.1] at hij
        have := h.row_lt (i := i) (by omega)
        omega
      · rw [(old i (by omega)).2.1, (old j (by omega)).2.1] at hij
        exact h.rowinj i j (by omega) (by omega) hij

/-- What a row that grows must keep: shared by both ways. -/
theorem RelSt.growRow (h : RelSt w0 M st w) {id : Nat} {k0 sz : Nat} (hid : st.rows[id]? = some (k0, sz)) {w' : World} {b cap k : Nat} (hb0 : w0.heap.size ≤ b) (hbelow : Below w0.heap.size w w')
    (hsize : w.heap.size ≤ w'.heap.size) (hbw : b < w'.heap.size) (hm : cap ≤ maxLen) (hk : k ≤ cap) (hbox : ∀ l, l < M.N → M.bx l ≠ b ∧ w'.heap[M.bx l]? = w.heap[M.bx l]?) (hrow : ∀ i, i < M.NR → i ≠ id → M.blk i ≠ b ∧ w'.heap[M.blk i]? = w.heap[M.blk i]?)
    {cs : Array Value} {ty : TypeId} (hcs : w'.heap[b]? = some (.cells cs ty (0, 0))) (hs : cs.size = cap * sz) (hx : Ext w0 M w (M.growRow id b cap k sz) w') (hko : KeepsObj w w') :
    RelSt w0 (M.growRow id b cap k sz) { st with rows := st.rows.set id (k, sz) } w' := by
  have hidlt : id < st.rows.length := (List.getElem?_eq_some_iff.1 hid).1
  refine ⟨h.below.trans hbelow, h.N, by simp [Mem.growRow, h.NR], fun x hx' => ?_, h.inj, fun l c hl => ?_, fun i m s hi => ?_, fun i j hi hj hij => ?_, h.loop.mono hx rfl hko⟩
  · have : (M.growRow id b cap k sz).top x = M.top x := by simp [Mem.growRow]; omega
    rw [this]
    exact h.top x (by omega)
  · obtain ⟨a1, a2, c', ty', a3, a4, a5, a6⟩ := h.box l c hl
    have hlN : l < M.N := by rw [h.N]; exact (List.getElem?_eq_some_iff.1 hl).1
    obtain ⟨h1, h2⟩ := hbox l hlN
    refine ⟨a1, ?_, c', ty', by rw [show (M.growRow id b cap k sz).bx l = M.bx l from rfl, h2]; exact a3, a4, a5, fun i h1 h2 => (a6 i h1 h2).mono hx⟩
    show (M.growRow id b cap k sz).top (M.bx l) = 0
    simp [Mem.growRow, h1, a2]
  · by_cases e1 : i = id
    · subst e1
      rw [List.getElem?_set_self hidlt] at hi
      cases hi
      have q : (M.growRow i b cap k sz).fr i = k ∧ (M.growRow i b cap k sz).blk i = b ∧ (M.growRow i b cap k sz).cap i = cap ∧ (M.growRow i b cap k sz).rsz i = M.rsz i ∧ (M.growRow i b cap k sz).top b = k * sz := by simp [Mem.growRow]
      obtain ⟨q1, q2, q3, q4, q5⟩ := q
      rw [q1, q2, q3, q4, q5]
      exact ⟨rfl, (h.row i k0 sz hid).2.1, hb0, rfl, fun l hl => (hbox l hl).1, hm, hk, cs, ty, hcs, hs⟩
    · rw [List.getElem?_set_ne (Ne.symm e1)] at hi
      have hiN : i < M.NR := by rw [h.NR]; exact (List.getElem?_eq_some_iff.1 hi).1
      obtain ⟨b1, b2, b3, b4, b5, b6, b7, c', ty', b8, b9⟩ := h.row i m s hi
      obtain ⟨h1, h2⟩ := hrow i hiN e1
      have q : (M.growRow id b cap k sz).fr i = M.fr i ∧ (M.growRow id b cap k sz).blk i = M.blk i ∧ (M.growRow id b cap k sz).cap i = M.cap i ∧ (M.growRow id b cap k sz).rsz i = M.rsz i ∧ (M.growRow id b cap k sz).top (M.blk i) = M.top (M.blk i) := by simp [Mem.growRow, e1, h1]
      obtain ⟨q1, q2, q3, q4, q5⟩ := q
      rw [q1, q2, q3, q4, q5]
      exact ⟨b1, b2, b3, b4, b5, b6, b7, c', ty', by rw [h2]; exact b8, b9⟩
  · have blkid : ∀ j, (M.growRow id b cap k sz).blk j = if j = id then b else M.blk j := fun j => rfl
    rw [blkid, blkid] at hij
    have hN : (M.growRow id b cap k sz).NR = M.NR := rfl
    rw [hN] at hi hj
    by_cases e1 : i = id
    · by_cases e2 : j = id
      · omega
      · rw [if_pos e1, if_neg e2] at hij
        exact absurd hij.symm (hrow j hj e2).1
    · by_cases e2 : j = id
      · rw [if_neg e1, if_pos e2] at hij
        exact absurd hij (hrow i hi e1).1
      · rw [if_neg e1, if_neg e2] at hij
        exact h.rowinj i j hi hj hij

/-! ### append -/
/-- The elements of two rows, one behind the other. -/
def both (us ux : Nat → Value) (k : Nat) : Nat → Value := fun i => if i < k then us i else ux (i - k)
theorem both_R {us ux : Nat → Value} {xs ys : List AV} {sz : Nat} {M' : Mem} {w' : World} (hx : Ext w0 M w M' w') (h1 : ∀ i (hi : i < xs.length), (us i).cells.size = sz ∧ R w0 M w (us i) xs[i]) (h2 : ∀ i (hi : i < ys.length), (ux i).cells.size = sz ∧ R w0 M w (ux i) ys[i]) :
    ∀ i (hi : i < (xs ++ ys.map AV.pub).length), (both us ux xs.length i).cells.size = sz ∧ R w0 M' w' (both us ux xs.length i) (xs ++ ys.map AV.pub)[i] := by
  intro i hi
  unfold both
  by_cases c : i < xs.length
  · rw [if_pos c, List.getElem_append_left c]
    exact ⟨(h1 i c).1, ((h1 i c).2).mono hx⟩
  · simp at hi
    rw [if_neg c, List.getElem_append_right (by omega), List.getElem_map]
    exact ⟨(h2 _ (by omega)).1, ((h2 _ (by omega)).2).pub.mono hx⟩
theorem both_get {us ux : Nat → Value} {k m sz : Nat} (hs : ∀ i, i < k → (us i).cells.size = sz) (hx : ∀ i, i < m → (ux i).cells.size = sz) (zs : List Value) :
    ∀ i, i < k + m → ∀ j, j < sz → (flat us k ++ flat ux m ++ zs)[i * sz + j]? = (both us ux k i).cells[j]? := by
  intro i hi j hj
  have l1 := flat_length hs
  have l2 := flat_length hx
  rw [List.append_assoc, List.getElem?_append, l1]
  unfold both
  by_cases c : i < k
  · have q : (i + 1) * sz ≤ k * sz := Nat.mul_le_mul_right _ c
    rw [Nat.succ_mul] at q
    rw [if_pos (by omega), if_pos c]
    exact flat_get hs i c j hj
  · have q : k * sz ≤ i * sz := Nat.mul_le_mul_right _ (by omega)
    have q2 : (i - k + 1) * sz ≤ m * sz := Nat.mul_le_mul_right _ (by omega)
    rw [Nat.succ_mul] at q2
    have e : i * sz = k * sz + (i - k) * sz := by rw [← Nat.add_mul]; congr 1; omega
    rw [if_neg (by omega), if_neg c, List.getElem?_append, l2, if_pos (by omega), show i * sz + j - k * sz = (i - k) * sz + j from by omega]
    exact flat_get hx (i - k) (by omega) j hj

theorem run_room (t ty el : TypeId) {sz : Nat} {ag : Bool} (ht : P.underlying t = some (.slice el)) (hty : tyT P el = some (sz, ag)) (g k cap : Nat) (cur : Array Value) (te : TypeId) (hg : w.heap[g]? = some (.cells cur te (0, 0)))
    {x : Value} {m : Nat} (hlen : (Builtin.lenOf x).run P w = .ok m w) (news : List Value) (hf : (Builtin.firstCells sz m x).run P w = .ok news.toArray w) (h1 : ∀ u ∈ news, u.oneCell' = true)
    (hroom : k + m ≤ cap) (hfit : k * sz + news.length ≤ cur.size) :
    (Builtin.append_ #[t, t] ty #[.slice (some ⟨g, 0, none⟩) k cap, x]).run P w =
      .ok (.slice (some ⟨g, 0, none⟩) (k + m) cap) (w.setRow g (cur.toList.take (k * sz) ++ news ++ cur.toList.drop (k * sz + news.length)).toArray) := by
  have hst := run_storeCells_at P g (k * sz) te news 0 cur w hg (by simpa using hfit) h1
  simp only [Nat.add_zero] at hst
  obtain ⟨i, d, hi, hsz, _, _⟩ := tyT_spec hty
  subst hsz
  have hadd : (⟨g, 0, none⟩ : Addr).add (k * i.size) = ⟨g, k * i.size, none⟩ := by rw [add_none, Nat.zero_add]
  simp [Builtin.append_, run_underlying ht, sizeOf, typeInfo, hi, hlen, hroom, hf, hadd, hst]

theorem ys_append (h : Rel w0 n M e st a w) (s x : Operand) (t ty : TypeId) (hs : argOk e true s) (hx : argOk e true x) (hob : (evAppend P st t (argV e s) (argV e x)).1) :
    Yields' P w0 M (evAppend P st t (argV e s) (argV e x)).2.2 (evAppend P st t (argV e s) (argV e x)).2.1 w (do pure (.value (← Builtin.append_ #[t, t] ty #[a.eval s, a.eval x]))) := by
  have hRs := arg_R h hs
  have hRx := arg_R h hx
  generalize argV e s = S at hRs hob ⊢
  generalize argV e x = X at hRx hob ⊢
  generalize a.eval s = vs at hRs ⊢
  generalize a.eval x = vx at hRx ⊢
  unfold evAppend at hob ⊢
  cases he : elT P t with
  | none => simp [he] at hob
  | some p =>
    obtain ⟨el, sz, ag, by8⟩ := p
    simp only [he] at hob ⊢
    obtain ⟨info, hu, hi, hby, hty⟩ := elT_spec he
    have hisz : info.size = sz := by
      obtain ⟨i', d, h1, h2, _⟩ := tyT_spec hty
      rw [hi] at h1; cases h1; exact h2
    cases hoS : ownOf S with
    | none => simp [hoS] at hob
    | full =>
      simp only [hoS] at hob ⊢
      obtain ⟨⟨ls, lx, hsz, hz, hbytes, hbig, cs, cx⟩, hpos⟩ := hob
      obtain ⟨xs, o, rfl⟩ := isList_inv ls
      obtain ⟨ys, o', rfl⟩ := isList_inv lx
      simp only [ownOf] at hoS
      subst hoS
      simp only [listOf] at *
      obtain ⟨z, hz'⟩ := Option.isSome_iff_exists.1 hz
      obtain ⟨i', v, hi', hv, hc, hzs, rfl⟩ := zeroT_spec hz'
      rw [hi] at hi'; cases hi'
      obtain ⟨us, u1, u2⟩ := hRs.list_open cs
      obtain ⟨ux, x1, x2⟩ := hRx.list_open (fun y hy => (cx y hy).1)
      have u1' : ∀ i, i < xs.length → (us i).cells.size = sz := fun i hi => (u1 i hi).1
      have x1' : ∀ i, i < ys.length → (ux i).cells.size = sz := fun i hi => (x1 i hi).1
      rcases x2 with ⟨_, q, _⟩ | ⟨bx, ox, cx', _, rfl, _, _, _, hcx⟩
      · subst q; exact absurd hpos (by simp)
      have hnew := flat_cell (w := w) x1' hsz hcx
      have hneed : xs.length + ys.length ≤ maxLen := by simp [maxLen]; omega
      have finish : ∀ (old : Nat) (zs : List Value) (cells : Array Value), cells.toList = flat us xs.length ++ flat ux ys.length ++ zs → zs.length = (grownCap w (xs.length + ys.length) old el - (xs.length + ys.length)) * sz →
          (Builtin.append_ #[t, t] ty #[vs, .slice (some ⟨bx, ox, none⟩) ys.length cx']).run P w = .ok (.slice (some ⟨w.heap.size, 0, none⟩) (xs.length + ys.length) (grownCap w (xs.length + ys.length) old el)) (w.drew.alloc (.cells cells el)) →
          Yields' P w0 M { st with rows := st.rows ++ [(xs.length + ys.length, sz)] } (.list (xs ++ ys.map AV.pub) (.row st.rows.length)) w (do pure (.value (← Builtin.append_ #[t, t] ty #[vs, .slice (some ⟨bx, ox, none⟩) ys.length cx']))) := by
        intro old zs cells hcells hzl hrun
        obtain ⟨d1, d2⟩ := h.st.drew
        have hge := grownCap_ge w (xs.length + ys.length) old el
        have hle := grownCap_le_maxLen w (xs.length + ys.length) old el hneed
        have hsize : cells.size = grownCap w (xs.length + ys.length) old el * sz := by
          have : cells.size = cells.toList.length := by simp
          rw [this, hcells]
          simp only [List.length_append, flat_length u1', flat_length x1', hzl]
          rw [← Nat.add_mul, ← Nat.add_mul]
          congr 1
          omega
        obtain ⟨r1, r2⟩ := d1.addRow (cs := cells) (ty := el) (sz := sz) hle hge hsize
        have hall := both_R (w0 := w0) d2 u1 x1
        have hlen : (xs ++ ys.map AV.pub).length = xs.length + ys.length := by simp
        have hrow := R.row (w0 := w0) (M := M) (w := w.drew) (us := both us ux xs.length) (xs := xs ++ ys.map AV.pub) (cs := cells) (ty := el) (sz := sz) (k := (xs.length + ys.length) * sz) (cap := grownCap w (xs.length + ys.length) old el) (o := .row st.rows.length) hall
          (fun i hi j hj => by
            rw [hlen] at hi
            rw [← Array.getElem?_toList, hcells]
            exact both_get u1' x1' zs i hi j hj) (by rw [hlen]; exact hge) hle (by rw [hlen]; exact Nat.le_refl _) (M.addRow w.drew.heap.size (grownCap w (xs.length + ys.length) old el) (xs.length + ys.length) sz) (by simp [Mem.addRow]) r2
          (by
            have hN := h.st.NR
            refine ⟨by simp [Mem.addRow, hN], by rw [hlen]; simp [Mem.addRow, hN], fun _ => by simp [Mem.addRow, hN]⟩)
        rw [hlen] at hrow
        exact .value ⟨_, _, _, hrun, d2.trans r2, r1, hrow⟩
      have hl2 : (flat ux ys.length).length = ys.length * info.size := by rw [flat_length x1', hisz]
      have hb2 : (xs.length + ys.length) * info.bytes ≤ 140737488355328 := by rw [hby]; exact hbytes
      rcases u2 with ⟨rfl, q, _⟩ | ⟨bs, os, cps, sz', rfl, _, _, ho, hcs'⟩
      · subst q
        simp only [List.length_nil, Nat.zero_add] at *
        have hrun := run_append_nil (P := P) w t ty el info v hu hi hv ⟨bx, ox, none⟩ ys.length cx' (flat ux ys.length) hl2 hnew hpos (by omega) (by omega)
        refine finish 0 (Builtin.zeroCells v.cells (grownCap w ys.length 0 el - ys.length)).toList _ ?_ ?_ hrun
        · simp [flat]
        · simp only [Array.length_toList, size_zeroCells, hzs, hisz]
      · have hcap : xs.length = cps := ho
        have hold := flat_cell (w := w) u1' hsz hcs'
        have hl1 : (flat us xs.length).length = xs.length * info.size := by rw [flat_length u1', hisz]
        have hrun := run_append_grow (P := P) w t ty el info v hu hi hv ⟨bs, os, none⟩ xs.length cps (flat us xs.length) hl1 hold ⟨bx, ox, none⟩ ys.length cx' (flat ux ys.length) hl2 hnew (by omega) (by omega) (growslice_fits (by omega) hb2)
        refine finish cps (Builtin.zeroCells v.cells (grownCap w (xs.length + ys.length) cps el - (xs.length + ys.length))).toList _ ?_ ?_ hrun
        · simp
        · simp only [Array.length_toList, size_zeroCells, hzs, hisz]
    | row id =>
      simp only [hoS] at hob ⊢
      obtain ⟨⟨ls, lx, hsz, hz, hbytes, hbig, cs, cx⟩, hid⟩ := hob
      obtain ⟨xs, o, rfl⟩ := isList_inv ls
      obtain ⟨ys, o', rfl⟩ := isList_inv lx
      simp only [ownOf] at hoS
      subst hoS
      simp only [listOf] at *
      obtain ⟨z, hz'⟩ := Option.isSome_iff_exists.1 hz
      obtain ⟨i', v, hi', hv, hc, hzs, rfl⟩ := zeroT_spec hz'
      rw [hi] at hi'; cases hi'
      obtain ⟨us, u1, u2⟩ := hRs.list_open cs
      obtain ⟨ux, x1, x2⟩ := hRx.list_open (fun y hy => (cx y hy).1)
      have u1' : ∀ i, i < xs.length → (us i).cells.size = sz := fun i hi => (u1 i hi).1
      have x1' : ∀ i, i < ys.length → (ux i).cells.size = sz := fun i hi => (x1 i hi).1
      have hidN : id < M.NR := by rw [h.st.NR]; exact (List.getElem?_eq_some_iff.1 hid).1
      obtain ⟨f1, f2, f3, f4, f5, f6, f7, cur, te, f8, f9⟩ := h.st.row id _ _ hid
      rcases u2 with ⟨_, _, q⟩ | ⟨bs, os, cps, sz', rfl, _, _, ho, hcs'⟩
      · exact absurd rfl (q id)
      obtain ⟨_, _, ho3⟩ := ho
      obtain ⟨e1, e2, e3, _⟩ := ho3 f1.symm
      subst e1; subst e2; subst e3
      have hlen : (xs ++ ys.map AV.pub).length = xs.length + ys.length := by simp
      have hlx : (Builtin.lenOf vx).run P w = .ok ys.length w := by
        rcases x2 with ⟨rfl, q, _⟩ | ⟨bx, ox, cx', _, rfl, _⟩
        · subst q; rfl
        · rfl
      have hl2 : (flat ux ys.length).length = ys.length * info.size := by rw [flat_length x1', hisz]
      have hnew1 : (Builtin.firstCells sz ys.length vx).run P w = .ok (flat ux ys.length).toArray w := by
        rcases x2 with ⟨rfl, q, _⟩ | ⟨bx, ox, cx', _, rfl, _, _, _, hcx⟩
        · subst q; rfl
        · exact run_firstCells_some w sz ys.length ⟨bx, ox, none⟩ ys.length cx' (flat ux ys.length) (flat_length x1') (flat_cell (w := w) x1' hsz hcx)
      by_cases hroom : xs.length + ys.length ≤ M.cap id
      · -- there is room
        have hfit : xs.length * sz + (flat ux ys.length).length ≤ cur.size := by rw [flat_length x1', f9, ← Nat.add_mul]; exact Nat.mul_le_mul_right _ hroom
        have hrun := run_room (P := P) (w := w) t ty el hu hty (M.blk id) xs.length (M.cap id) cur te f8 hlx (flat ux ys.length) hnew1 (flat_one x1 (fun y hy => (cx y hy).2)) hroom hfit
        generalize hc' : (cur.toList.take (xs.length * sz) ++ flat ux ys.length ++ cur.toList.drop (xs.length * sz + (flat ux ys.length).length)).toArray = cur' at hrun
        have hsz' : cur'.size = cur.size := by rw [← hc']; simp; omega
        have hkeep : ∀ j, j < xs.length * sz → cur'[j]? = cur[j]? := by
          intro j hj
          rw [← hc', List.getElem?_toArray, List.append_assoc, List.getElem?_append_left (by simp; omega), List.getElem?_take, if_pos hj, Array.getElem?_toList]
        have hnewc : ∀ j, j < ys.length * sz → cur'[xs.length * sz + j]? = (flat ux ys.length)[j]? := by
          intro j hj
          have l2 := flat_length x1'
          rw [← hc', List.getElem?_toArray, List.append_assoc, List.getElem?_append_right (by simp; omega)]
          simp only [List.length_take, Array.length_toList]
          have e : min (xs.length * sz) cur.size = xs.length * sz := by omega
          rw [e, show xs.length * sz + j - xs.length * sz = j from by omega, List.getElem?_append_left (by rw [l2]; exact hj)]
        have hext : Ext w0 M w (M.growRow id (M.blk id) (M.cap id) (xs.length + ys.length) sz) (w.setRow (M.blk id) cur') := by
          refine ext_setRow (M := M) (M.growRow id (M.blk id) (M.cap id) (xs.length + ys.length) sz) rfl (fun _ _ => rfl) rfl (fun i hi => ?_) (fun b => ?_) f8 f3 (fun j hj => hkeep j (by rw [f4] at hj; exact hj))
          · by_cases c : i = id
            · subst c
              simp only [Mem.growRow, if_true, f1]
              exact ⟨by omega, fun _ => ⟨trivial, trivial, trivial⟩⟩
            · simp only [Mem.growRow, if_neg c]
              exact ⟨Nat.le_refl _, fun _ => ⟨trivial, trivial, trivial⟩⟩
          · simp only [Mem.growRow]
            split
            · rename_i c
              rw [c, f4]
              exact Nat.mul_le_mul_right _ (by omega)
            · exact Nat.le_refl _
        have hblt := h.st.row_lt hidN
        have hst' := h.st.growRow hid (w' := w.setRow (M.blk id) cur') (b := M.blk id) (cap := M.cap id) (k := xs.length + ys.length) f3 (Below.setRow (Below.refl _ _) f3 _) (by simp) (by simpa using hblt) f6 hroom
          (fun l hl => ⟨f5 l hl, setRow_other w _ _ _ (f5 l hl)⟩) (fun i hi hne => by
            have : M.blk i ≠ M.blk id := fun q => hne (h.st.rowinj i id hi hidN q)
            exact ⟨this, setRow_other w _ _ _ this⟩) (setRow_heap w _ cur cur' te _ f8) (by rw [hsz']; exact f9) hext (KeepsObj.setRow f8 _)
        have hall := both_R (w0 := w0) hext u1 x1
        have hrow := R.list (w0 := w0) (M := M.growRow id (M.blk id) (M.cap id) (xs.length + ys.length) sz) (w := w.setRow (M.blk id) cur') (b := M.blk id) (off := 0) (cap := M.cap id) (xs := xs ++ ys.map AV.pub) (o := .row id) sz (both us ux xs.length) (by rw [hlen]; exact hroom) f6
          (fun i hi => ⟨(hall i hi).1, fun j hj => by
            rw [hlen] at hi
            have q1 : (i + 1) * sz ≤ (xs.length + ys.length) * sz := Nat.mul_le_mul_right _ hi
            rw [Nat.succ_mul] at q1
            refine ⟨.inr ?_, ?_⟩
            · simp only [Mem.growRow, if_true]
              omega
            · rw [Nat.zero_add, cell_of_row _ _ _ cur' te _ (setRow_heap w _ cur cur' te _ f8)]
              unfold both
              by_cases c : i < xs.length
              · have q : (i + 1) * sz ≤ xs.length * sz := Nat.mul_le_mul_right _ c
                rw [Nat.succ_mul] at q
                have := hcs' i c j hj
                rw [Nat.zero_add, cell_of_row _ _ _ cur te _ f8] at this
                rw [if_pos c, hkeep _ (by omega), this]
              · have q : (i - xs.length + 1) * sz ≤ ys.length * sz := Nat.mul_le_mul_right _ (by omega)
                rw [Nat.succ_mul] at q
                have e : i * sz = xs.length * sz + (i - xs.length) * sz := by rw [← Nat.add_mul]; congr 1; omega
                rw [if_neg c, show i * sz + j = xs.length * sz + ((i - xs.length) * sz + j) from by omega, hnewc _ (by omega)]
                exact flat_get x1' _ (by omega) j hj⟩) (fun i hi => (hall i hi).2)
          (by
            rw [hlen]
            refine ⟨hidN, by simp [Mem.growRow], fun _ => ⟨by simp [Mem.growRow], rfl, by simp [Mem.growRow], ?_⟩⟩
            simp [Mem.growRow, f2])
        rw [hlen] at hrow
        exact .value ⟨_, _, _, hrun, hext, hst', hrow⟩
      · -- a new row
        have hypos : 0 < ys.length := by omega
        rcases x2 with ⟨_, q, _⟩ | ⟨bx, ox, cx', _, rfl, _, _, _, hcx⟩
        · subst q; simp at hypos
        have hnew := flat_cell (w := w) x1' hsz hcx
        have hold := flat_cell (w := w) u1' hsz hcs'
        have hl1 : (flat us xs.length).length = xs.length * info.size := by rw [flat_length u1', hisz]
        have hb2 : (xs.length + ys.length) * info.bytes ≤ 140737488355328 := by rw [hby]; exact hbytes
        have hrun := run_append_grow (P := P) w t ty el info v hu hi hv ⟨M.blk id, 0, none⟩ xs.length (M.cap id) (flat us xs.length) hl1 hold ⟨bx, ox, none⟩ ys.length cx' (flat ux ys.length) hl2 hnew (by omega) (by omega) (growslice_fits (by omega) hb2)
        have hneed : xs.length + ys.length ≤ maxLen := by simp [maxLen]; omega
        have hge := grownCap_ge w (xs.length + ys.length) (M.cap id) el
        have hle := grownCap_le_maxLen w (xs.length + ys.length) (M.cap id) el hneed
        generalize hcl : ((flat us xs.length).toArray ++ (flat ux ys.length).toArray ++ Builtin.zeroCells v.cells (grownCap w (xs.length + ys.length) (M.cap id) el - (xs.length + ys.length))) = cells at hrun
        have hclist : cells.toList = flat us xs.length ++ flat ux ys.length ++ (Builtin.zeroCells v.cells (grownCap w (xs.length + ys.length) (M.cap id) el - (xs.length + ys.length))).toList := by rw [← hcl]; simp
        generalize grownCap w (xs.length + ys.length) (M.cap id) el = gc at *
        have hsize : cells.size = gc * sz := by
          have : cells.size = cells.toList.length := by simp
          rw [this, hclist]
          simp only [List.length_append, flat_length u1', flat_length x1', Array.length_toList, size_zeroCells, hzs, hisz]
          rw [← Nat.add_mul, ← Nat.add_mul]
          congr 1
          omega
        obtain ⟨d1, d2⟩ := h.st.drew
        have hext : Ext w0 M w.drew (M.growRow id w.drew.heap.size gc (xs.length + ys.length) sz) (w.drew.alloc (.cells cells el)) := by
          refine ext_new _ _ (.inl rfl) (fun _ _ => rfl) (Nat.le_refl _) (fun i hi => ?_) (fun b hb => ?_)
          · by_cases c : i = id
            · subst c
              simp only [Mem.growRow, if_true, f1]
              exact ⟨by omega, fun q => absurd q (by omega)⟩
            · simp only [Mem.growRow, if_neg c]
              exact ⟨Nat.le_refl _, fun _ => ⟨trivial, trivial, trivial⟩⟩
          · simp only [Mem.growRow]
            rw [if_neg (by omega)]
            exact Nat.le_refl _
        have hst' := d1.growRow hid (w' := w.drew.alloc (.cells cells el)) (b := w.drew.heap.size) (cap := gc) (k := xs.length + ys.length) h.st.base_le ((Below.refl _ w.drew).alloc h.st.base_le _) (by simp) (by simp) hle hge
          (fun l hl => by have := h.st.box_lt hl; exact ⟨fun q => by simp at q; omega, heap_alloc_lt _ _ this⟩) (fun i hi hne => by have := h.st.row_lt hi; exact ⟨fun q => by simp at q; omega, heap_alloc_lt _ _ this⟩) (heap_alloc_new w.drew _) hsize hext (KeepsObj.alloc _ _)
        have hall := both_R (w0 := w0) d2 u1 x1
        have hrow := R.row (w0 := w0) (M := M) (w := w.drew) (us := both us ux xs.length) (xs := xs ++ ys.map AV.pub) (cs := cells) (ty := el) (sz := sz) (k := (xs.length + ys.length) * sz) (cap := gc) (o := .row id) hall
          (fun i hi j hj => by
            rw [hlen] at hi
            rw [← Array.getElem?_toList, hclist]
            exact both_get u1' x1' _ i hi j hj) (by rw [hlen]; exact hge) hle (by rw [hlen]; exact Nat.le_refl _) (M.growRow id w.drew.heap.size gc (xs.length + ys.length) sz) (by simp [Mem.growRow]) hext
          (by
            refine ⟨hidN, by rw [hlen]; simp [Mem.growRow], fun _ => ⟨by simp [Mem.growRow], rfl, by simp [Mem.growRow], ?_⟩⟩
            simp [Mem.growRow, f2])
        rw [hlen] at hrow
        exact .value ⟨_, _, _, hrun, d2.trans hext, hst', hrow⟩

/-! ### all of them -/
theorem Yields'.congr {s s' : Sem Next} {st' : St} {r : AV} (h : Yields' P w0 M st' r w s) (e : s'.run P w = s.run P w) : Yields' P w0 M st' r w s' := by
  obtain ⟨v, w', M', h1, h2⟩ := h
  exact ⟨v, w', M', by rw [e]; exact h1, h2⟩
theorem run_builtin (b : Builtin) (args : Array Operand) (ts : Array TypeId) (dst : Option Tmp) (type : TypeId) (pos : String) (after : Array Edge) (guard : Option (Nat × Bool)) (s : Sem Value)
    (hb : ∀ cs, builtin b ts type cs (args.map a.eval) = (do pure (.value (← s)) : Sem Next)) :
    (execOp a.eval ⟨dst, .call ⟨.builtin b, args, ts⟩, type, pos, after, guard⟩).run P w = ((do pure (.value (← s)) : Sem Next)).run P w := by
  simp only [execOp, resolve, invoke, Sem.run_bind, Sem.run_pure, Result.andThen_ok]
  rw [hb]
  simp
theorem bytesT_spec {t : TypeId} (h : bytesT P t = true) : ∃ el, P.underlying t = some (.slice el) ∧ P.underlying el = some (.int .u8) ∧ tyT P el = some (1, false) := by
  unfold bytesT at h
  split at h
  · rename_i el h1
    simp only [Bool.and_eq_true] at h
    obtain ⟨h2, h3⟩ := h
    refine ⟨el, h1, ?_, ?_⟩
    · split at h2
      · assumption
      · cases h2
    · split at h3
      · assumption
      · cases h3
  · cases h
theorem encode_size (r : Int) : (Utf8.encode r).size ≤ 4 := by
  unfold Utf8.encode
  dsimp only
  (repeat' split) <;> simp [ByteArray.size]
theorem ys_convert (h : Rel w0 n M e st a w) (s d : TypeId) (x : Operand) (hob : (evOp P e true st (.convert s d x)).1) :
    Yields' P w0 M (evOp P e true st (.convert s d x)).2.2 (evOp P e true st (.convert s d x)).2.1 w (do pure (.value (← convert s d (a.eval x)))) := by
  unfold evOp at hob ⊢
  cases hs : intT P s with
  | some k1 =>
    cases hd : intT P d with
    | some k =>
      simp only [hs, hd] at hob ⊢
      obtain ⟨hx, hi, hk⟩ := hob
      obtain ⟨ex, _⟩ := (arg_R h hx).int hi
      rw [ex]
      refine .here h.st (v := .int k (intOfA (argV e x))) ?_ (.flat rfl)
      simp [convert, run_underlying (intT_spec hs), run_underlying (intT_spec hd), Conv.intToInt, inK_wrap hk]
    | none =>
      simp only [hs, hd] at hob ⊢
      obtain ⟨hx, hi, hstr⟩ := hob
      obtain ⟨ex, _⟩ := (arg_R h hx).int hi
      rw [ex]
      exact .here h.st (run_convert_int_string w s d _ _ (by rw [intT_spec hs]; rfl) (strT_spec hstr)) (.flat (decide_eq_true (Nat.le_trans (encode_size _) (by decide))))
  | none =>
    simp only [hs] at hob ⊢
    by_cases hc : (strT P s && strT P d) = true
    · simp only [hc, if_true] at hob ⊢
      simp only [Bool.and_eq_true] at hc
      obtain ⟨hx, hi⟩ := hob
      have hR := arg_R h hx
      refine .here h.st (v := a.eval x) ?_ hR
      obtain ⟨q, hq⟩ : ∃ q, argV e x = .val (.string q) := by
        cases hv : argV e x <;> rw [hv] at hi <;> try cases hi
        rename_i v
        cases v <;> first | exact ⟨_, rfl⟩ | cases hi
      rw [hq] at hR
      obtain ⟨ev, _⟩ := hR.val_inv
      rw [ev]
      simp [convert, run_underlying (strT_spec hc.1), run_underlying (strT_spec hc.2)]
    · simp only [hc, if_false, Bool.false_eq_true] at hob ⊢
      by_cases hc2 : (bytesT P s && strT P d) = true
      · simp only [hc2, if_true] at hob ⊢
        simp only [Bool.and_eq_true] at hc2
        obtain ⟨el, hu, he, hty⟩ := bytesT_spec hc2.1
        obtain ⟨hx, hi, hlen, hby⟩ := hob
        have hR := arg_R h hx
        obtain ⟨xs, o, hxs⟩ := isList_inv hi
        rw [hxs] at hR hlen hby ⊢
        simp only [listOf] at hlen hby ⊢
        have hcs : ∀ y ∈ xs, y.cells.length = 1 := fun y hy => by
          have := hby y hy
          cases y <;> first | rfl | exact this.elim
        obtain ⟨us, h1, h2⟩ := hR.list_open hcs
        have hsize : (bytesOfA xs).size = xs.length := by simp [bytesOfA, ByteArray.size]
        have hfl : flatV (.string (bytesOfA xs)) = true := by simp [flatV, maxLen, hsize]; exact hlen
        rcases h2 with ⟨ev, rfl, _⟩ | ⟨b, off, cap, sz', ev, _, _, _, hcell⟩
        · rw [ev]
          have := run_convert_bytes_nil (P := P) w s el hu he 0 0 d (strT_spec hc2.2)
          exact .here h.st (v := .string ByteArray.empty) this (.flat rfl)
        · rw [ev]
          have hb : ∀ i (hi : i < xs.length), ∃ n : Int, 0 ≤ n ∧ n ≤ 255 ∧ xs[i] = .val (.int .u8 n) ∧ us i = .int .u8 n := fun i hi => by
            have hq := hby _ (List.getElem_mem hi)
            have hr := (h1 i hi).2
            cases hv : xs[i] with
            | val u =>
              rw [hv] at hq hr
              cases u <;> try exact hq.elim
              rename_i k n
              cases k <;> try exact hq.elim
              exact ⟨n, hq.1, hq.2, rfl, hr.val_inv.1⟩
            | _ => rw [hv] at hq; exact hq.elim
          have := run_convert_bytes_back (P := P) w s d el ⟨b, off, none⟩ cap (xs.map fun x => UInt8.ofNat (intOfA x).toNat) hu he (strT_spec hc2.2) (fun j hj => by
            have hj' : j < xs.length := by simpa using hj
            obtain ⟨n, n0, n1, e1, e2⟩ := hb j hj'
            have hc := hcell j hj' 0 (by omega)
            rw [e2] at hc
            simp only [Nat.mul_one, Nat.add_zero] at hc
            rw [add_none, hc]
            simp only [List.getElem_map, e1, intOfA, Value.cells]
            have : (UInt8.ofNat n.toNat).toNat = n.toNat := by simp; omega
            rw [this]
            simp
            omega)
          simp only [List.length_map] at this
          exact .here h.st (v := .string (bytesOfA xs)) this (.flat hfl)
      · simp only [hc2, if_false, Bool.false_eq_true] at hob ⊢
        by_cases hc3 : (strT P s && bytesT P d) = true
        · simp only [hc3, if_true] at hob ⊢
          simp only [Bool.and_eq_true] at hc3
          obtain ⟨el, hu, he, hty⟩ := bytesT_spec hc3.2
          obtain ⟨_, hx, hi⟩ := hob
          have hR := arg_R h hx
          obtain ⟨q, hq⟩ : ∃ q, argV e x = .val (.string q) := by
            cases hv : argV e x <;> rw [hv] at hi <;> try cases hi
            rename_i v
            cases v <;> first | exact ⟨_, rfl⟩ | cases hi
          rw [hq] at hR ⊢
          obtain ⟨ev, hfl⟩ := hR.val_inv
          rw [ev]
          simp only [strOf]
          have hql : q.size ≤ maxLen := by simpa [flatV] using hfl
          have hrun := Lib.run_convert_string_bytes (P := P) w s d el q (strT_spec hc3.1) hu he
          have hbel : Below w.heap.size w (Lib.bytesWorld w el q) := ⟨rfl, rfl, rfl, by rw [Lib.bytesWorld_size]; omega, fun k hk => Lib.bytesWorld_at_old w el q k hk⟩
          obtain ⟨r1, r2⟩ := h.st.later hbel w.heap.size q.size (Nat.le_refl _) (.inl (by rw [Lib.bytesWorld_size]; omega))
          have hcap := grownCap_ge w q.size 0 el
          have hcapm := grownCap_le_maxLen w q.size 0 el hql
          have hlen : (ofBytesA q.data.toList).length = q.size := by simp [ofBytesA]
          refine .value ⟨_, _, _, hrun, r2, r1, ?_⟩
          have := R.list (w0 := w0) (M := M.newTop w.heap.size q.size) (w := Lib.bytesWorld w el q) (b := w.heap.size) (off := 0) (cap := grownCap w q.size 0 el) (xs := ofBytesA q.data.toList) (o := .none) 1 (fun i => .int .u8 (q.data.toList.getD i 0).toNat)
            (by rw [hlen]; exact hcap) hcapm (fun i hi => ⟨rfl, fun j hj => ⟨.inr (by rw [hlen] at hi; simp [Mem.newTop]; omega), by
              rw [hlen] at hi
              have hj0 : j = 0 := by omega
              subst hj0
              simp only [Nat.mul_one, Nat.zero_add, Nat.add_zero]
              rw [Lib.bytesWorld_cell w el q i hi]
              rfl⟩⟩) (fun i hi => by
              have hi' : i < q.data.toList.length := by rw [hlen] at hi; exact hi
              simp only [ofBytesA, List.getElem_map]
              rw [show q.data.toList.getD i 0 = q.data.toList[i] from by simp [List.getD, List.getElem?_eq_getElem hi']]
              exact .flat rfl) trivial
          rw [hlen] at this
          exact this
        · simp only [hc3] at hob
          exact hob.elim

theorem op_sound (h : Rel w0 n M e st a w) (o : Oper) (hob : (evOp P e true st o.op).1) :
    Yields' P w0 M (evOp P e true st o.op).2.2 (evOp P e true st o.op).2.1 w (execOp a.eval o) := by
  obtain ⟨dst, op, type, pos, after, guard⟩ := o
  cases op with
  | move x => exact yields_same h.st rfl (arg_R h hob)
  | assign x => exact yields_same h.st rfl (arg_R h hob)
  | pick c x y => exact ys_pick h c x y hob
  | alloc t => exact ys_alloc h t hob
  | box t x => exact ys_box h t x hob
  | build t ps => exact ys_build h t ps hob
  | buildSlice t m ps => exact ys_buildSlice h t m ps hob
  | load t x =>
    have := ys_load h t x hob
    have e : (evOp P e true st (.load t x)).2.2 = st := by simp only [evOp]; split <;> rfl
    simp only [e]
    exact this
  | store t x v => exact ys_store h t x v hob
  | nilCheck x => exact ys_nilCheck h ⟨dst, .nilCheck x, type, pos, after, guard⟩ x rfl hob
  | binOp op t x y u => exact ys_binOp h op t x y u hob
  | unOp op t x => exact ys_unOp h op t x hob
  | convert s d x => exact ys_convert h s d x hob
  | makeFunc f fi cap =>
    cases f with
    | func f => exact ys_makeFunc h f fi cap hob
    | _ => exact hob.elim
  | slice t x lo hi mx => exact ys_slice h t x lo hi mx hob
  | fieldAddr t x f => exact ys_fieldAddr h t x f hob
  | field t x f => exact ys_field h t x f hob
  | indexAddr t x i => exact ys_indexAddr h t x i hob
  | index t x i => exact ys_index h t x i hob
  | extract x i => exact ys_extract h x i hob
  | call c =>
    obtain ⟨callee, args, ts⟩ := c
    cases callee with
    | builtin b =>
      cases b with
      | len =>
        simp only [evOp] at hob ⊢
        split at hob
        · rename_i x t hx ht
          obtain ⟨h1, h2⟩ := hob
          have ea : args = #[x] := Array.toList_inj.1 (by simpa using hx)
          have et : ts = #[t] := Array.toList_inj.1 (by simpa using ht)
          subst ea; subst et
          exact (ys_len h x t type h1 h2).congr (run_builtin .len #[x] #[t] dst type pos after guard _ (fun _ => by simp [builtin]))
        · exact hob.elim
      | append =>
        simp only [evOp] at hob ⊢
        split at hob
        · rename_i s x t t' hx ht
          obtain ⟨_, h1, h2, rfl, h3⟩ := hob
          have ea : args = #[s, x] := Array.toList_inj.1 (by simpa using hx)
          have et : ts = #[t, t] := Array.toList_inj.1 (by simpa using ht)
          subst ea; subst et
          exact (ys_append h s x t type h1 h2 h3).congr (run_builtin .append #[s, x] #[t, t] dst type pos after guard _ (fun _ => by simp [builtin]))
        · exact hob.elim
      | min =>
        simp only [evOp] at hob ⊢
        split at hob
        · rename_i x y hx
          obtain ⟨h1, h2, h3, h4, _⟩ := hob
          have ea : args = #[x, y] := Array.toList_inj.1 (by simpa using hx)
          subst ea
          exact (ys_min h x y ts type h1 h2 h3 h4).congr (run_builtin .min #[x, y] ts dst type pos after guard _ (fun _ => by simp [builtin]))
        · exact hob.elim
      | max =>
        simp only [evOp] at hob ⊢
        split at hob
        · rename_i x y hx
          obtain ⟨h1, h2, h3, h4⟩ := hob
          have ea : args = #[x, y] := Array.toList_inj.1 (by simpa using hx)
          subst ea
          exact (ys_max h x y ts type h1 h2 h3 h4).congr (run_builtin .max #[x, y] ts dst type pos after guard _ (fun _ => by simp [builtin]))
        · exact hob.elim
      | _ => exact hob.elim
    | _ => exact hob.elim
  | _ => exact hob.elim
end
end Go.Ev
