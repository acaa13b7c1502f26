/-
  Part 2 of the proof: rules and walks that the claim's last text uses.
-/
import Derived.Attr
import Derived.Laws.BytesArg
import Derived.Laws.IdiomStrings
import Derived.Laws.MakeOwn
import Derived.Laws.Runes
import Derived.Lib.ConvBytes
import Derived.OrdersIn
import Derived.RangeFuncIn
import Derived.StillTail
import Derived.Test.YtkpooohjodojoaaGreatDoorSg1
set_option linter.unusedSimpArgs false
set_option linter.unusedVariables false
set_option maxRecDepth 100000
set_option maxHeartbeats 4000000
namespace Go.Ev
open Go Go.RowKit
section
variable {P : Program} {w0 : World} {n : Nat} {M : Mem} {e : Env} {st : St} {a : Act} {w : World}
def flat (us : Nat → Value) (m : Nat) : List Value := (List.range m).flatMap fun i => (us i).cells.toList
theorem flat_succ (us : Nat → Value) (m : Nat) : flat us (m + 1) = flat us m ++ (us m).cells.toList := by
 simp [flat, List.range_succ]
theorem flat_length {us : Nat → Value} {sz : Nat} : ∀ {m : Nat}, (∀ i, i < m → (us i).cells.size = sz) → (flat us m).length = m * sz
 | 0, _ => by simp [flat]
 | m + 1, h => by
  rw [flat_succ, List.length_append, flat_length (fun i hi => h i (by omega)), Array.length_toList, h m (by omega), Nat.succ_mul]
theorem flat_get {us : Nat → Value} {sz : Nat} : ∀ {m : Nat}, (∀ i, i < m → (us i).cells.size = sz) → ∀ i, i < m → ∀ j, j < sz → (flat us m)[i * sz + j]? = (us i).cells[j]?
 | 0, _, i, hi, _, _ => absurd hi (by omega)
 | m + 1, h, i, hi, j, hj => by
  have hl := flat_length (us := us) (m := m) (fun i hi => h i (by omega))
  rw [flat_succ, List.getElem?_append, hl]
  by_cases c : i = m
  ·
   subst c
   rw [if_neg (by omega), show i * sz + j - i * sz = j from by omega, Array.getElem?_toList]
  ·
   have h1 : (i + 1) * sz ≤ m * sz := Nat.mul_le_mul_right _ (by omega)
   rw [Nat.succ_mul] at h1
   rw [if_pos (by omega)]
   exact flat_get (fun i hi => h i (by omega)) i (by omega) j hj
theorem flat_cell {us : Nat → Value} {sz m : Nat} (hs : ∀ i, i < m → (us i).cells.size = sz) {b off : Nat} (hsz : 0 < sz) (hc : ∀ i, i < m → ∀ j, j < sz → w.cell? ⟨b, off + i * sz + j, none⟩ = (us i).cells[j]?) :
  ∀ j u, (flat us m)[j]? = some u → w.cell? ((⟨b, off, none⟩ : Addr).add j) = some u := by
 intro j u hu
 have hl := flat_length hs
 have hj : j < m * sz := by rw [← hl]; exact (List.getElem?_eq_some_iff.1 hu).1
 have e := Nat.div_add_mod j sz
 have hi : j / sz < m := (Nat.div_lt_iff_lt_mul hsz).2 hj
 have hjm := Nat.mod_lt j hsz
 have h1 := flat_get hs (j / sz) hi (j % sz) hjm
 have h2 := hc (j / sz) hi (j % sz) hjm
 have e' : j / sz * sz + j % sz = j := by rw [Nat.mul_comm]; exact e
 rw [e'] at h1
 rw [Nat.add_assoc, e'] at h2
 rw [add_none, h2, ← h1, hu]
theorem R.list_open {v : Value} {xs : List AV} {o : Own} {sz : Nat} (h : R w0 M w v (.list xs o)) (hs : ∀ y ∈ xs, y.cells.length = sz) :
  ∃ us : Nat → Value, (∀ i (hi : i < xs.length), (us i).cells.size = sz ∧ R w0 M w (us i) xs[i]) ∧
   (((v = .slice none 0 0 ∨ ∃ ad, v = .slice (some ad) 0 0) ∧ xs = [] ∧ ∀ id, o ≠ .row id) ∨ ∃ b off cap sz', v = .slice (some ⟨b, off, none⟩) xs.length cap ∧ xs.length ≤ cap ∧ cap ≤ maxLen ∧ ownOk M b off cap xs.length sz' o ∧
    ∀ i, i < xs.length → ∀ j, j < sz → w.cell? ⟨b, off + i * sz + j, none⟩ = (us i).cells[j]?) := by
 cases h with
 | nil ho => exact ⟨fun _ => undef, fun i hi => absurd hi (by simp), .inl ⟨.inl rfl, rfl, ho⟩⟩
 | emp ho => exact ⟨fun _ => undef, fun i hi => absurd hi (by simp), .inl ⟨.inr ⟨_, rfl⟩, rfl, ho⟩⟩
 | @list b off cap _ _ sz' us hc hm hcell hu ho =>
  have key : ∀ i (hi : i < xs.length), (us i).cells.size = sz := fun i hi => by rw [(hu i hi).cells.1]; exact hs _ (List.getElem_mem _)
  refine ⟨us, fun i hi => ⟨key i hi, hu i hi⟩, .inr ⟨b, off, cap, sz', rfl, hc, hm, ho, fun i hi j hj => ?_⟩⟩
  have e : sz' = sz := by rw [← (hcell i hi).1, key i hi]
  subst e
  exact ((hcell i hi).2 j hj).2
theorem flat_one {us : Nat → Value} {xs : List AV} {sz : Nat} (hu : ∀ i (hi : i < xs.length), (us i).cells.size = sz ∧ R w0 M w (us i) xs[i]) (hn : ∀ y ∈ xs, notTup y = true) : ∀ u ∈ flat us xs.length, u.oneCell' = true := by
 intro u hm
 obtain ⟨i, hi, hmem⟩ := List.mem_flatMap.1 hm
 have hi' : i < xs.length := List.mem_range.1 hi
 obtain ⟨hs, hR⟩ := hu i hi'
 obtain ⟨k, hk, rfl⟩ := List.getElem_of_mem hmem
 simp only [Array.length_toList] at hk
 rw [Array.getElem_toList]
 have hone := hR.cellsOne (fun vs e => by have := hn _ (List.getElem_mem hi'); rw [e] at this; cases this)
 exact (hR.cells.2 k hk (by rw [← hR.cells.1]; exact hk)).oneCell (hone _ (List.getElem_mem _))
def Mem.addRow (M : Mem) (b cap k sz tp : Nat) : Mem :=
  { M with NR := M.NR + 1, fr := fun i => if i = M.NR then k else M.fr i, blk := fun i => if i = M.NR then b else M.blk i, cap := fun i => if i = M.NR then cap else M.cap i,
           rsz := fun i => if i = M.NR then sz else M.rsz i, top := fun x => if x = b then tp else M.top x }
def Mem.growRow (M : Mem) (id b cap k tp : Nat) : Mem :=
 { M with fr := fun i => if i = id then k else M.fr i, blk := fun i => if i = id then b else M.blk i, cap := fun i => if i = id then cap else M.cap i, top := fun x => if x = b then tp else M.top x }
theorem foreign_grow {id cap k tp b : Nat} (hid : id < M.NR) (h : M.foreign b) : (M.growRow id (M.blk id) cap k tp).foreign b ∧ (M.growRow id (M.blk id) cap k tp).top b = M.top b := by
 refine ⟨⟨h.1, fun i hi => ?_, h.2.2⟩, ?_⟩
 ·
  simp only [Mem.growRow]
  split
  ·
   exact h.2.1 id hid
  ·
   exact h.2.1 i hi
 ·
  simp only [Mem.growRow]
  rw [if_neg (fun e => h.2.1 id hid e.symm)]
theorem foreign_grow' {id g cap k tp b : Nat} (hb : b < g) (h : M.foreign b) : (M.growRow id g cap k tp).foreign b := by
 refine ⟨h.1, fun i hi => ?_, h.2.2⟩
 simp only [Mem.growRow]
 split
 ·
  omega
 ·
  exact h.2.1 i hi
theorem RelSt.addRow' (h : RelSt w0 M st w) {cs : Array Value} {ty : TypeId} {cap k sz tp : Nat} {x : RowA}
  (hnew : Ext w0 M w (M.addRow w.heap.size cap k sz tp) (w.alloc (.cells cs ty)) → (∀ l, l < M.N → M.bx l ≠ w.heap.size) → RowOk w0 (M.addRow w.heap.size cap k sz tp) (w.alloc (.cells cs ty)) M.NR x) :
  RelSt w0 (M.addRow w.heap.size cap k sz tp) { st with rows := st.rows ++ [x] } (w.alloc (.cells cs ty)) ∧ Ext w0 M w (M.addRow w.heap.size cap k sz tp) (w.alloc (.cells cs ty)) := by
 have tp' : ∀ b, b < w.heap.size → (M.addRow w.heap.size cap k sz tp).top b = M.top b := fun b hb => by simp [Mem.addRow]; omega
 have old : ∀ i, i < M.NR → (M.addRow w.heap.size cap k sz tp).fr i = M.fr i ∧ (M.addRow w.heap.size cap k sz tp).blk i = M.blk i ∧ (M.addRow w.heap.size cap k sz tp).cap i = M.cap i ∧ (M.addRow w.heap.size cap k sz tp).rsz i = M.rsz i := by
  intro i hi
  have : ¬ i = M.NR := by omega
  simp [Mem.addRow, this]
 have hx : Ext w0 M w (M.addRow w.heap.size cap k sz tp) (w.alloc (.cells cs ty)) :=
  ext_new _ _ (.inl rfl) (fun _ _ => rfl) (Nat.le_succ _) (fun i hi => by obtain ⟨a1, a2, a3, a4⟩ := old i hi; exact ⟨by omega, fun _ => ⟨a2, a3, a4⟩⟩) tp' (fun b hb q => ⟨q.1, fun i hi => by
   by_cases c : i = M.NR
   ·
    subst c; simp only [Mem.addRow, if_true]; omega
   ·
    have hi' : i < M.NR := by simp only [Mem.addRow] at hi; omega
    rw [(old i hi').2.1]; exact q.2.1 i hi', q.2.2⟩)
 have hne : ∀ l, l < M.N → M.bx l ≠ w.heap.size := fun l hl => by have := h.box_lt hl; omega
 refine ⟨⟨h.below.alloc h.base_le _, h.N, by simp [Mem.addRow, h.NR], fun b hb => ?_, h.inj, fun l c hl => ?_, fun id y hid => ?_, fun i j hi hj hij => ?_, h.loop.mono hx rfl (KeepsObj.alloc _ _)⟩, hx⟩
 ·
  simp at hb
  have : (M.addRow w.heap.size cap k sz tp).top b = M.top b := by simp [Mem.addRow]; omega
  rw [this]
  exact h.top b (by omega)
 ·
  obtain ⟨a1, a2, c', ty', a3, a4, a5, a6⟩ := h.box l c hl
  have hlt := (Array.getElem?_eq_some_iff.1 a3).1
  exact ⟨a1, by rw [show (M.addRow w.heap.size cap k sz tp).bx l = M.bx l from rfl, tp' _ hlt]; exact a2, c', ty', by rw [show (M.addRow w.heap.size cap k sz tp).bx l = M.bx l from rfl, heap_alloc_lt _ _ hlt]; exact a3, a4, a5, fun i h1 h2 => (a6 i h1 h2).mono hx⟩
 ·
  by_cases e1 : id = M.NR
  ·
   subst e1
   simp only [h.NR, List.getElem?_concat_length, Option.some.injEq] at hid
   subst hid
   exact hnew hx hne
  ·
   have hid' : id < M.NR := by
    have : id < (st.rows ++ [x]).length := (List.getElem?_eq_some_iff.1 hid).1
    have hN := h.NR
    simp at this
    omega
   rw [List.getElem?_append_left (by rw [← h.NR]; exact hid')] at hid
   have hk := h.row id y hid
   obtain ⟨o1, o2, o3, o4⟩ := old id hid'
   exact hk.keep hx o1 o4 o2 o3 (tp' _ hk.lt) hk.ne (heap_alloc_lt _ _ hk.lt)
 ·
  have hN : (M.addRow w.heap.size cap k sz tp).NR = M.NR + 1 := rfl
  rw [hN] at hi hj
  have new : (M.addRow w.heap.size cap k sz tp).blk M.NR = w.heap.size := by simp [Mem.addRow]
  by_cases e1 : i = M.NR
  ·
   by_cases e2 : j = M.NR
   ·
    omega
   ·
    subst e1
    rw [new, (old j (by omega)).2.1] at hij
    have := h.row_lt (i := j) (by omega)
    omega
  ·
   by_cases e2 : j = M.NR
   ·
    subst e2
    rw [new, (old i (by omega)).2.1] at hij
    have := h.row_lt (i := i) (by omega)
    omega
   ·
    rw [(old i (by omega)).2.1, (old j (by omega)).2.1] at hij
    exact h.rowinj i j (by omega) (by omega) hij
theorem RelSt.addRow (h : RelSt w0 M st w) {cs : Array Value} {ty : TypeId} {cap k sz : Nat} (hm : cap ≤ maxLen) (hk : k ≤ cap) (hs : cs.size = cap * sz) :
  RelSt w0 (M.addRow w.heap.size cap k sz (k * sz)) { st with rows := st.rows ++ [.grow k sz] } (w.alloc (.cells cs ty)) ∧ Ext w0 M w (M.addRow w.heap.size cap k sz (k * sz)) (w.alloc (.cells cs ty)) :=
 h.addRow' fun _ hne => by
  have q : (M.addRow w.heap.size cap k sz (k * sz)).fr M.NR = k ∧ (M.addRow w.heap.size cap k sz (k * sz)).blk M.NR = w.heap.size ∧ (M.addRow w.heap.size cap k sz (k * sz)).cap M.NR = cap ∧ (M.addRow w.heap.size cap k sz (k * sz)).rsz M.NR = sz ∧ (M.addRow w.heap.size cap k sz (k * sz)).top w.heap.size = k * sz := by simp [Mem.addRow]
  obtain ⟨q1, q2, q3, q4, q5⟩ := q
  simp only [RowOk, q1, q2, q3, q4, q5]
  exact ⟨trivial, trivial, h.base_le, trivial, hne, hm, hk, cs, ty, heap_alloc_new w _, hs⟩
theorem RelSt.addVec (h : RelSt w0 M st w) {cs : Array Value} {ty : TypeId} {cap sz : Nat} {xs : List AV} (hm : cap ≤ maxLen) (hz : 0 < sz) (hs : cs.size = cap * sz) (hl : xs.length ≤ cs.size) (h1 : ∀ x ∈ xs, x.one = true) (hR : ∀ (i : Nat) (v : Value) (x : AV), cs[i]? = some v → xs[i]? = some x → R w0 M w v x) :
  RelSt w0 (M.addRow w.heap.size cap 0 sz 0) { st with rows := st.rows ++ [.vec 0 sz xs] } (w.alloc (.cells cs ty)) ∧ Ext w0 M w (M.addRow w.heap.size cap 0 sz 0) (w.alloc (.cells cs ty)) :=
 h.addRow' fun hx hne => by
  have q : (M.addRow w.heap.size cap 0 sz 0).fr M.NR = 0 ∧ (M.addRow w.heap.size cap 0 sz 0).blk M.NR = w.heap.size ∧ (M.addRow w.heap.size cap 0 sz 0).cap M.NR = cap ∧ (M.addRow w.heap.size cap 0 sz 0).rsz M.NR = sz ∧ (M.addRow w.heap.size cap 0 sz 0).top w.heap.size = 0 := by simp [Mem.addRow]
  obtain ⟨q1, q2, q3, q4, q5⟩ := q
  simp only [RowOk, q1, q2, q3, q4, q5]
  exact ⟨trivial, trivial, h.base_le, trivial, hne, hm, hz, cs, ty, heap_alloc_new w _, hs, hl, h1, fun i a b => (hR i _ _ (Array.getElem?_eq_getElem a) (List.getElem?_eq_getElem b)).mono hx⟩
theorem RelSt.growRow' (h : RelSt w0 M st w) {id : Nat} {x0 x : RowA} (hid : st.rows[id]? = some x0) {w' : World} {b cap k tp : Nat} (hbelow : Below w0.heap.size w w')
  (hsize : w.heap.size ≤ w'.heap.size) (hbw : b < w'.heap.size) (hbox : ∀ l, l < M.N → M.bx l ≠ b ∧ w'.heap[M.bx l]? = w.heap[M.bx l]?) (hrow : ∀ i, i < M.NR → i ≠ id → M.blk i ≠ b ∧ w'.heap[M.blk i]? = w.heap[M.blk i]?)
  (hnew : RowOk w0 (M.growRow id b cap k tp) w' id x) (hx : Ext w0 M w (M.growRow id b cap k tp) w') (hko : KeepsObj w w') :
  RelSt w0 (M.growRow id b cap k tp) { st with rows := st.rows.set id x } w' := by
 have hidlt : id < st.rows.length := (List.getElem?_eq_some_iff.1 hid).1
 refine ⟨h.below.trans hbelow, h.N, by simp [Mem.growRow, h.NR], fun y hy' => ?_, h.inj, fun l c hl => ?_, fun i y hi => ?_, fun i j hi hj hij => ?_, h.loop.mono hx rfl hko⟩
 ·
  have : (M.growRow id b cap k tp).top y = M.top y := by simp [Mem.growRow]; omega
  rw [this]
  exact h.top y (by omega)
 ·
  obtain ⟨a1, a2, c', ty', a3, a4, a5, a6⟩ := h.box l c hl
  have hlN : l < M.N := by rw [h.N]; exact (List.getElem?_eq_some_iff.1 hl).1
  obtain ⟨h1, h2⟩ := hbox l hlN
  refine ⟨a1, ?_, c', ty', by rw [show (M.growRow id b cap k tp).bx l = M.bx l from rfl, h2]; exact a3, a4, a5, fun i h1 h2 => (a6 i h1 h2).mono hx⟩
  show (M.growRow id b cap k tp).top (M.bx l) = 0
  simp [Mem.growRow, h1, a2]
 ·
  by_cases e1 : i = id
  ·
   subst e1
   rw [List.getElem?_set_self hidlt] at hi
   cases hi
   exact hnew
  ·
   rw [List.getElem?_set_ne (Ne.symm e1)] at hi
   have hiN : i < M.NR := by rw [h.NR]; exact (List.getElem?_eq_some_iff.1 hi).1
   have hk := h.row i y hi
   obtain ⟨h1, h2⟩ := hrow i hiN e1
   have q : (M.growRow id b cap k tp).fr i = M.fr i ∧ (M.growRow id b cap k tp).blk i = M.blk i ∧ (M.growRow id b cap k tp).cap i = M.cap i ∧ (M.growRow id b cap k tp).rsz i = M.rsz i ∧ (M.growRow id b cap k tp).top (M.blk i) = M.top (M.blk i) := by simp [Mem.growRow, e1, h1]
   obtain ⟨q1, q2, q3, q4, q5⟩ := q
   exact hk.keep hx q1 q4 q2 q3 q5 hk.ne h2
 ·
  have blkid : ∀ j, (M.growRow id b cap k tp).blk j = if j = id then b else M.blk j := fun j => rfl
  rw [blkid, blkid] at hij
  have hN : (M.growRow id b cap k tp).NR = M.NR := rfl
  rw [hN] at hi hj
  by_cases e1 : i = id
  ·
   by_cases e2 : j = id
   ·
    omega
   ·
    rw [if_pos e1, if_neg e2] at hij
    exact absurd hij.symm (hrow j hj e2).1
  ·
   by_cases e2 : j = id
   ·
    rw [if_neg e1, if_pos e2] at hij
    exact absurd hij (hrow i hi e1).1
   ·
    rw [if_neg e1, if_neg e2] at hij
    exact h.rowinj i j hi hj hij
theorem RelSt.growRow (h : RelSt w0 M st w) {id : Nat} {k0 sz : Nat} (hid : st.rows[id]? = some (.grow k0 sz)) {w' : World} {b cap k : Nat} (hb0 : w0.heap.size ≤ b) (hbelow : Below w0.heap.size w w')
  (hsize : w.heap.size ≤ w'.heap.size) (hbw : b < w'.heap.size) (hm : cap ≤ maxLen) (hk : k ≤ cap) (hbox : ∀ l, l < M.N → M.bx l ≠ b ∧ w'.heap[M.bx l]? = w.heap[M.bx l]?) (hrow : ∀ i, i < M.NR → i ≠ id → M.blk i ≠ b ∧ w'.heap[M.blk i]? = w.heap[M.blk i]?)
  {cs : Array Value} {ty : TypeId} (hcs : w'.heap[b]? = some (.cells cs ty (0, 0))) (hs : cs.size = cap * sz) (hx : Ext w0 M w (M.growRow id b cap k (k * sz)) w') (hko : KeepsObj w w') :
  RelSt w0 (M.growRow id b cap k (k * sz)) { st with rows := st.rows.set id (.grow k sz) } w' := by
 refine h.growRow' hid hbelow hsize hbw hbox hrow ?_ hx hko
 have q : (M.growRow id b cap k (k * sz)).fr id = k ∧ (M.growRow id b cap k (k * sz)).blk id = b ∧ (M.growRow id b cap k (k * sz)).cap id = cap ∧ (M.growRow id b cap k (k * sz)).rsz id = M.rsz id ∧ (M.growRow id b cap k (k * sz)).top b = k * sz := by simp [Mem.growRow]
 obtain ⟨q1, q2, q3, q4, q5⟩ := q
 simp only [RowOk, q1, q2, q3, q4, q5]
 exact ⟨trivial, (h.row id _ hid).2.1, hb0, trivial, fun l hl => (hbox l hl).1, hm, hk, cs, ty, hcs, hs⟩
def both (us ux : Nat → Value) (k : Nat) : Nat → Value := fun i => if i < k then us i else ux (i - k)
theorem both_R {us ux : Nat → Value} {xs ys : List AV} {sz : Nat} {M' : Mem} {w' : World} (hx : Ext w0 M w M' w') (h1 : ∀ i (hi : i < xs.length), (us i).cells.size = sz ∧ R w0 M w (us i) xs[i]) (h2 : ∀ i (hi : i < ys.length), (ux i).cells.size = sz ∧ R w0 M w (ux i) ys[i]) :
  ∀ i (hi : i < (xs ++ ys.map AV.pub).length), (both us ux xs.length i).cells.size = sz ∧ R w0 M' w' (both us ux xs.length i) (xs ++ ys.map AV.pub)[i] := by
 intro i hi
 unfold both
 by_cases c : i < xs.length
 ·
  rw [if_pos c, List.getElem_append_left c]
  exact ⟨(h1 i c).1, ((h1 i c).2).mono hx⟩
 ·
  simp at hi
  rw [if_neg c, List.getElem_append_right (by omega), List.getElem_map]
  exact ⟨(h2 _ (by omega)).1, ((h2 _ (by omega)).2).pub.mono hx⟩
theorem both_get {us ux : Nat → Value} {k m sz : Nat} (hs : ∀ i, i < k → (us i).cells.size = sz) (hx : ∀ i, i < m → (ux i).cells.size = sz) (zs : List Value) :
  ∀ i, i < k + m → ∀ j, j < sz → (flat us k ++ flat ux m ++ zs)[i * sz + j]? = (both us ux k i).cells[j]? := by
 intro i hi j hj
 have l1 := flat_length hs
 have l2 := flat_length hx
 rw [List.append_assoc, List.getElem?_append, l1]
 unfold both
 by_cases c : i < k
 ·
  have q : (i + 1) * sz ≤ k * sz := Nat.mul_le_mul_right _ c
  rw [Nat.succ_mul] at q
  rw [if_pos (by omega), if_pos c]
  exact flat_get hs i c j hj
 ·
  have q : k * sz ≤ i * sz := Nat.mul_le_mul_right _ (by omega)
  have q2 : (i - k + 1) * sz ≤ m * sz := Nat.mul_le_mul_right _ (by omega)
  rw [Nat.succ_mul] at q2
  have e : i * sz = k * sz + (i - k) * sz := by rw [← Nat.add_mul]; congr 1; omega
  rw [if_neg (by omega), if_neg c, List.getElem?_append, l2, if_pos (by omega), show i * sz + j - k * sz = (i - k) * sz + j from by omega]
  exact flat_get hx (i - k) (by omega) j hj
theorem run_room (t ty el : TypeId) {sz : Nat} {ag : Bool} (ht : P.underlying t = some (.slice el)) (hty : tyT P el = some (sz, ag)) (g k cap : Nat) (cur : Array Value) (te : TypeId) (hg : w.heap[g]? = some (.cells cur te (0, 0)))
  {x : Value} {m : Nat} (hlen : (Builtin.lenOf x).run P w = .ok m w) (news : List Value) (hf : (Builtin.firstCells sz m x).run P w = .ok news.toArray w) (h1 : ∀ u ∈ news, u.oneCell' = true)
  (hroom : k + m ≤ cap) (hfit : k * sz + news.length ≤ cur.size) :
  (Builtin.append_ #[t, t] ty #[.slice (some ⟨g, 0, none⟩) k cap, x]).run P w =
   .ok (.slice (some ⟨g, 0, none⟩) (k + m) cap) (w.setRow g (cur.toList.take (k * sz) ++ news ++ cur.toList.drop (k * sz + news.length)).toArray) := by
 have hst := run_storeCells_at P g (k * sz) te news 0 cur w hg (by simpa using hfit) h1
 simp only [Nat.add_zero] at hst
 obtain ⟨i, d, hi, hsz, _, _⟩ := tyT_spec hty
 subst hsz
 have hadd : (⟨g, 0, none⟩ : Addr).add (k * i.size) = ⟨g, k * i.size, none⟩ := by rw [add_none, Nat.zero_add]
 simp [Builtin.append_, run_underlying ht, sizeOf, typeInfo, hi, hlen, hroom, hf, hadd, hst]
theorem fm_length {ys : List AV} {sz : Nat} (hs : ∀ y ∈ ys, y.cells.length = sz) : (ys.flatMap fun y => y.pub.cells).length = ys.length * sz := by
 induction ys with
 | nil => simp
 | cons y ys ih =>
  rw [List.flatMap_cons, List.length_append, ih (fun z hz => hs z (by simp [hz])), AV.pub_cells_length, hs y (by simp), List.length_cons, Nat.succ_mul]
  omega
theorem fm_get {sz : Nat} : ∀ (ys : List AV), (∀ y ∈ ys, y.cells.length = sz) → ∀ i y, ys[i]? = some y → ∀ k, k < sz → (ys.flatMap fun y => y.pub.cells)[i * sz + k]? = y.pub.cells[k]?
 | [], _, i, y, h, _, _ => by simp at h
 | x :: ys, hs, 0, y, h, k, hk => by
  simp only [List.getElem?_cons_zero, Option.some.injEq] at h
  subst h
  rw [List.flatMap_cons, Nat.zero_mul, Nat.zero_add, List.getElem?_append_left (by rw [AV.pub_cells_length, hs x (by simp)]; exact hk)]
 | x :: ys, hs, i + 1, y, h, k, hk => by
  have hx : x.pub.cells.length = sz := by rw [AV.pub_cells_length]; exact hs x (by simp)
  rw [List.flatMap_cons, List.getElem?_append_right (by rw [hx, Nat.succ_mul]; omega), hx, show (i + 1) * sz + k - sz = i * sz + k from by rw [Nat.succ_mul]; omega]
  exact fm_get ys (fun z hz => hs z (by simp [hz])) i y (by simpa using h) k hk
theorem fm_one {ux : Nat → Value} {ys : List AV} (hu : ∀ i (hi : i < ys.length), R w0 M w (ux i) ys[i]) (hn : ∀ y ∈ ys, notTup y = true) : ∀ x ∈ ys.flatMap (fun y => y.pub.cells), x.one = true := by
 intro x hx
 obtain ⟨y, hy, hxy⟩ := List.mem_flatMap.1 hx
 obtain ⟨i, hi, rfl⟩ := List.mem_iff_getElem.1 hy
 refine ((hu i hi).pub).cellsOne (fun vs e => ?_) x hxy
 have := hn _ hy
 cases h : ys[i] <;> rw [h] at e this <;> first | (cases this; done) | (cases e; done)
theorem fm_R {ux : Nat → Value} {ys : List AV} {sz : Nat} (hz : 0 < sz) (hu : ∀ i (hi : i < ys.length), (ux i).cells.size = sz ∧ R w0 M w (ux i) ys[i]) (hs : ∀ y ∈ ys, y.cells.length = sz) {j : Nat} {v : Value} {x : AV} (hv : (flat ux ys.length)[j]? = some v) (hx : (ys.flatMap fun y => y.pub.cells)[j]? = some x) : R w0 M w v x := by
 have hj : j < ys.length * sz := by rw [← fm_length hs]; exact (List.getElem?_eq_some_iff.1 hx).1
 have hi : j / sz < ys.length := (Nat.div_lt_iff_lt_mul hz).2 hj
 have hk := Nat.mod_lt j hz
 have e : j / sz * sz + j % sz = j := by rw [Nat.mul_comm]; exact Nat.div_add_mod j sz
 have h1 := flat_get (us := ux) (sz := sz) (fun i hi => (hu i hi).1) (j / sz) hi (j % sz) hk
 have h2 := fm_get ys hs (j / sz) _ (List.getElem?_eq_getElem hi) (j % sz) hk
 rw [e] at h1 h2
 rw [hv] at h1
 rw [hx] at h2
 obtain ⟨_, hc⟩ := ((hu _ hi).2).pub.cells
 obtain ⟨q1, q2⟩ := Array.getElem?_eq_some_iff.1 h1.symm
 obtain ⟨q3, q4⟩ := List.getElem?_eq_some_iff.1 h2.symm
 rw [← q2, ← q4]
 exact hc _ q1 q3
theorem ys_append (h : Rel w0 n M e st a w) (s x : Operand) (t ty : TypeId) (hs : argOk e true s) (hx : argOk e true x) (hob : (evAppend P st t (argV e s) (argV e x)).1) :
  Yields' P w0 M (evAppend P st t (argV e s) (argV e x)).2.2 (evAppend P st t (argV e s) (argV e x)).2.1 w (do pure (.value (← Builtin.append_ #[t, t] ty #[a.eval s, a.eval x]))) := by
 have hRs := arg_R h hs
 have hRx := arg_R h hx
 generalize argV e s = S at hRs hob ⊢
 generalize argV e x = X at hRx hob ⊢
 generalize a.eval s = vs at hRs ⊢
 generalize a.eval x = vx at hRx ⊢
 unfold evAppend at hob ⊢
 cases he : elT P t with
 | none => simp [he] at hob
 | some p =>
  obtain ⟨el, sz, ag, by8⟩ := p
  simp only [he] at hob ⊢
  obtain ⟨info, hu, hi, hby, hty⟩ := elT_spec he
  have hisz : info.size = sz := by
   obtain ⟨i', d, h1, h2, _⟩ := tyT_spec hty
   rw [hi] at h1; cases h1; exact h2
  cases S with
  | list xs o =>
   have hnone : (listOf X).length = 0 → isList X = true → Yields' P w0 M st (.list xs o) w (do pure (.value (← Builtin.append_ #[t, t] ty #[vs, vx]))) := by
    intro hl0 lx
    obtain ⟨ys, o', rfl⟩ := isList_inv lx
    simp only [listOf] at hl0
    have : ys = [] := List.length_eq_zero_iff.1 hl0
    subst this
    refine .here h.st (v := vs) ?_ hRs
    have hx0 : (Builtin.lenOf vx).run P w = .ok 0 w ∧ (Builtin.firstCells sz 0 vx).run P w = .ok #[] w := by
     cases hRx with
     | nil _ => exact ⟨rfl, rfl⟩
     | emp _ => exact ⟨rfl, by simp [Builtin.firstCells, loadCells, loadCellsFrom]⟩
     | list => exact ⟨rfl, by simp [Builtin.firstCells, loadCells, loadCellsFrom]⟩
    obtain ⟨hx1, hx2⟩ := hx0
    have hgo : ∀ (ad : Option Addr) (ln cap : Nat), ln ≤ cap → (Builtin.append_ #[t, t] ty #[.slice ad ln cap, vx]).run P w = .ok (.slice ad ln cap) w := fun ad ln cap hle => by
     cases ad with
     | none => simp [Builtin.append_, run_underlying hu, sizeOf, typeInfo, hi, hisz, hx1, hx2, hle]
     | some ad => simp [Builtin.append_, run_underlying hu, sizeOf, typeInfo, hi, hisz, hx1, hx2, hle, storeCells]
    cases hRs with
    | nil _ => exact hgo none 0 0 (Nat.le_refl _)
    | emp _ => exact hgo _ 0 0 (Nat.le_refl _)
    | list sz us hc => exact hgo _ _ _ hc
   cases o with
   | none => exact hob.elim
   | full =>
   simp only at hob ⊢
   by_cases hl0 : (listOf X).length = 0
   ·
    rw [if_pos hl0] at hob ⊢
    exact hnone hl0 hob.1
   rw [if_neg hl0] at hob ⊢
   obtain ⟨lx, ⟨hsz, hz, hbytes, hbig, cx⟩, cs⟩ := hob
   obtain ⟨ys, o', rfl⟩ := isList_inv lx
   simp only [listOf] at *
   have hpos : 0 < ys.length := by omega
   obtain ⟨z, hz'⟩ := Option.isSome_iff_exists.1 hz
   obtain ⟨i', v, hi', hv, hc, hzs, rfl⟩ := zeroT_spec hz'
   rw [hi] at hi'; cases hi'
   obtain ⟨us, u1, u2⟩ := hRs.list_open cs
   obtain ⟨ux, x1, x2⟩ := hRx.list_open (fun y hy => (cx y hy).1)
   have u1' : ∀ i, i < xs.length → (us i).cells.size = sz := fun i hi => (u1 i hi).1
   have x1' : ∀ i, i < ys.length → (ux i).cells.size = sz := fun i hi => (x1 i hi).1
   rcases x2 with ⟨_, q, _⟩ | ⟨bx, ox, cx', _, rfl, _, _, _, hcx⟩
   ·
    subst q; exact absurd hpos (by simp)
   have hnew := flat_cell (w := w) x1' hsz hcx
   have hneed : xs.length + ys.length ≤ maxLen := by simp [maxLen]; omega
   have finish : ∀ (old : Nat) (zs : List Value) (cells : Array Value), cells.toList = flat us xs.length ++ flat ux ys.length ++ zs → zs.length = (grownCap w (xs.length + ys.length) old el - (xs.length + ys.length)) * sz →
     (Builtin.append_ #[t, t] ty #[vs, .slice (some ⟨bx, ox, none⟩) ys.length cx']).run P w = .ok (.slice (some ⟨w.heap.size, 0, none⟩) (xs.length + ys.length) (grownCap w (xs.length + ys.length) old el)) (w.drew.alloc (.cells cells el)) →
     Yields' P w0 M { st with rows := st.rows ++ [.grow (xs.length + ys.length) sz] } (.list (xs ++ ys.map AV.pub) (.row st.rows.length)) w (do pure (.value (← Builtin.append_ #[t, t] ty #[vs, .slice (some ⟨bx, ox, none⟩) ys.length cx']))) := by
    intro old zs cells hcells hzl hrun
    obtain ⟨d1, d2⟩ := h.st.drew
    have hge := grownCap_ge w (xs.length + ys.length) old el
    have hle := grownCap_le_maxLen w (xs.length + ys.length) old el hneed
    have hsize : cells.size = grownCap w (xs.length + ys.length) old el * sz := by
     have : cells.size = cells.toList.length := by simp
     rw [this, hcells]
     simp only [List.length_append, flat_length u1', flat_length x1', hzl]
     rw [← Nat.add_mul, ← Nat.add_mul]
     congr 1
     omega
    obtain ⟨r1, r2⟩ := d1.addRow (cs := cells) (ty := el) (sz := sz) hle hge hsize
    have hall := both_R (w0 := w0) d2 u1 x1
    have hlen : (xs ++ ys.map AV.pub).length = xs.length + ys.length := by simp
    have hrow := R.row (w0 := w0) (M := M) (w := w.drew) (us := both us ux xs.length) (xs := xs ++ ys.map AV.pub) (cs := cells) (ty := el) (sz := sz) (k := (xs.length + ys.length) * sz) (cap := grownCap w (xs.length + ys.length) old el) (o := .row st.rows.length) hall
     (fun i hi j hj => by
      rw [hlen] at hi
      rw [← Array.getElem?_toList, hcells]
      exact both_get u1' x1' zs i hi j hj) (by rw [hlen]; exact hge) hle (by rw [hlen]; exact Nat.le_refl _) (M.addRow w.drew.heap.size (grownCap w (xs.length + ys.length) old el) (xs.length + ys.length) sz ((xs.length + ys.length) * sz)) (by simp [Mem.addRow]) r2
     (by
      have hN := h.st.NR
      refine ⟨by simp [Mem.addRow, hN], by rw [hlen]; simp [Mem.addRow, hN], fun _ => by simp [Mem.addRow, hN]⟩)
    rw [hlen] at hrow
    exact .value ⟨_, _, _, hrun, d2.trans r2, r1, hrow⟩
   have hl2 : (flat ux ys.length).length = ys.length * info.size := by rw [flat_length x1', hisz]
   have hb2 : (xs.length + ys.length) * info.bytes ≤ 140737488355328 := by rw [hby]; exact hbytes
   rcases u2 with ⟨rfl | ⟨ad, rfl⟩, q, _⟩ | ⟨bs, os, cps, sz', rfl, _, _, ho, hcs'⟩
   ·
    subst q
    simp only [List.length_nil, Nat.zero_add] at *
    have hrun := run_append_nil (P := P) w t ty el info v hu hi hv ⟨bx, ox, none⟩ ys.length cx' (flat ux ys.length) hl2 hnew hpos (by omega) (by omega)
    refine finish 0 (Builtin.zeroCells v.cells (grownCap w ys.length 0 el - ys.length)).toList _ ?_ ?_ hrun
    ·
     simp [flat]
    ·
     simp only [Array.length_toList, size_zeroCells, hzs, hisz]
   ·
    subst q
    simp only [List.length_nil, Nat.zero_add] at *
    have hrun := run_append_grow (P := P) w t ty el info v hu hi hv ad 0 0 [] (by simp) (fun j u hu => by simp at hu) ⟨bx, ox, none⟩ ys.length cx' (flat ux ys.length) hl2 hnew (by omega) (by rw [Nat.zero_add]; omega) (growslice_fits (by omega) (by rw [Nat.zero_add]; exact hb2))
    simp only [Nat.zero_add] at hrun
    refine finish 0 (Builtin.zeroCells v.cells (grownCap w ys.length 0 el - ys.length)).toList _ ?_ ?_ hrun
    ·
     simp [flat]
    ·
     simp only [Array.length_toList, size_zeroCells, hzs, hisz]
   ·
    have hcap : xs.length = cps := ho
    have hold := flat_cell (w := w) u1' hsz hcs'
    have hl1 : (flat us xs.length).length = xs.length * info.size := by rw [flat_length u1', hisz]
    have hrun := run_append_grow (P := P) w t ty el info v hu hi hv ⟨bs, os, none⟩ xs.length cps (flat us xs.length) hl1 hold ⟨bx, ox, none⟩ ys.length cx' (flat ux ys.length) hl2 hnew (by omega) (by omega) (growslice_fits (by omega) hb2)
    refine finish cps (Builtin.zeroCells v.cells (grownCap w (xs.length + ys.length) cps el - (xs.length + ys.length))).toList _ ?_ ?_ hrun
    ·
     simp
    ·
     simp only [Array.length_toList, size_zeroCells, hzs, hisz]
   | seed =>
   simp only at hob ⊢
   by_cases hl0 : (listOf X).length = 0
   ·
    rw [if_pos hl0] at hob ⊢
    exact hnone hl0 hob.1
   rw [if_neg hl0] at hob ⊢
   obtain ⟨lx, ⟨hsz, hz, hbytes, hbig, cx⟩, hxs, hpos⟩ := hob
   obtain ⟨ys, o', rfl⟩ := isList_inv lx
   have : xs = [] := List.length_eq_zero_iff.1 hxs
   subst this
   simp only [listOf, Nat.zero_add] at *
   obtain ⟨z, hz'⟩ := Option.isSome_iff_exists.1 hz
   obtain ⟨i', v, hi', hv, hc, hzs, rfl⟩ := zeroT_spec hz'
   rw [hi] at hi'; cases hi'
   obtain ⟨ux, x1, x2⟩ := hRx.list_open (fun y hy => (cx y hy).1)
   have x1' : ∀ i, i < ys.length → (ux i).cells.size = sz := fun i hi => (x1 i hi).1
   rcases x2 with ⟨_, q, _⟩ | ⟨bx, ox, cx', _, rfl, _, _, _, hcx⟩
   ·
    subst q; exact absurd hpos (by simp)
   have hnew := flat_cell (w := w) x1' hsz hcx
   have hneed : ys.length ≤ maxLen := by simp [maxLen]; omega
   have hl2 : (flat ux ys.length).length = ys.length * info.size := by rw [flat_length x1', hisz]
   have hb2 : ys.length * info.bytes ≤ 140737488355328 := by rw [hby]; exact hbytes
   have finish : ∀ (old : Nat) (zs : List Value) (cells : Array Value), cells.toList = flat ux ys.length ++ zs → zs.length = (grownCap w ys.length old el - ys.length) * sz →
     (Builtin.append_ #[t, t] ty #[vs, .slice (some ⟨bx, ox, none⟩) ys.length cx']).run P w = .ok (.slice (some ⟨w.heap.size, 0, none⟩) ys.length (grownCap w ys.length old el)) (w.drew.alloc (.cells cells el)) →
     Yields' P w0 M { st with rows := st.rows ++ [.vec 0 sz (ys.flatMap fun y => y.pub.cells)] } (.vec st.rows.length 0 0 ys.length) w (do pure (.value (← Builtin.append_ #[t, t] ty #[vs, .slice (some ⟨bx, ox, none⟩) ys.length cx']))) := by
    intro old zs cells hcells hzl hrun
    obtain ⟨d1, d2⟩ := h.st.drew
    have hge := grownCap_ge w ys.length old el
    have hle := grownCap_le_maxLen w ys.length old el hneed
    have hsize : cells.size = grownCap w ys.length old el * sz := by
     have : cells.size = cells.toList.length := by simp
     rw [this, hcells]
     simp only [List.length_append, flat_length x1', hzl]
     rw [← Nat.add_mul]
     congr 1
     omega
    have hfl := fm_length (fun y hy => (cx y hy).1)
    obtain ⟨r1, r2⟩ := d1.addVec (cs := cells) (ty := el) (sz := sz) (xs := ys.flatMap fun y => y.pub.cells) hle hsz hsize (by rw [hsize, hfl]; exact Nat.mul_le_mul_right _ hge) (fm_one (fun i hi => ((x1 i hi).2).mono d2) (fun y hy => (cx y hy).2))
     (fun i v x hv' hx' => by
      have hil : i < ys.length * sz := by rw [← hfl]; exact (List.getElem?_eq_some_iff.1 hx').1
      rw [← Array.getElem?_toList, hcells, List.getElem?_append_left (by rw [flat_length x1']; exact hil)] at hv'
      exact (fm_R hsz x1 (fun y hy => (cx y hy).1) hv' hx').mono d2)
    refine .value ⟨_, _, _, hrun, d2.trans r2, r1, ?_⟩
    have hN := h.st.NR
    refine .vec (by simp [Mem.addRow, hN]) (Nat.zero_le _) fun _ => ⟨by simp [Mem.addRow, hN], by simp [Mem.addRow, hN], hge⟩
   (cases hRs with
   | nil ho =>
    have hrun := run_append_nil (P := P) w t ty el info v hu hi hv ⟨bx, ox, none⟩ ys.length cx' (flat ux ys.length) hl2 hnew hpos (by omega) (by omega)
    refine finish 0 (Builtin.zeroCells v.cells (grownCap w ys.length 0 el - ys.length)).toList _ ?_ ?_ hrun
    ·
     simp
    ·
     simp only [Array.length_toList, size_zeroCells, hzs, hisz]
   | @emp ad _ ho =>
    have hrun := run_append_grow (P := P) w t ty el info v hu hi hv ad 0 0 [] (by simp) (fun j u hu => by simp at hu) ⟨bx, ox, none⟩ ys.length cx' (flat ux ys.length) hl2 hnew (by omega) (by rw [Nat.zero_add]; omega) (growslice_fits (by omega) (by rw [Nat.zero_add]; exact hb2))
    simp only [Nat.zero_add] at hrun
    refine finish 0 (Builtin.zeroCells v.cells (grownCap w ys.length 0 el - ys.length)).toList _ ?_ ?_ hrun
    ·
     simp
    ·
     simp only [Array.length_toList, size_zeroCells, hzs, hisz]
   | @list b off cap _ _ sz' us hc' hm' hcell hu' ho =>
    have hcap : (0 : Nat) = cap := ho
    subst hcap
    have hrun := run_append_grow (P := P) w t ty el info v hu hi hv ⟨b, off, none⟩ 0 0 [] (by simp) (fun j u hu => by simp at hu) ⟨bx, ox, none⟩ ys.length cx' (flat ux ys.length) hl2 hnew (by omega) (by rw [Nat.zero_add]; omega) (growslice_fits (by omega) (by rw [Nat.zero_add]; exact hb2))
    simp only [Nat.zero_add] at hrun
    refine finish 0 (Builtin.zeroCells v.cells (grownCap w ys.length 0 el - ys.length)).toList _ ?_ ?_ hrun
    ·
     simp
    ·
     simp only [Array.length_toList, size_zeroCells, hzs, hisz])
   | row id =>
   simp only at hob ⊢
   obtain ⟨lx, ⟨hsz, hz, hbytes, hbig, cx⟩, cs, hid⟩ := hob
   obtain ⟨ys, o', rfl⟩ := isList_inv lx
   simp only [listOf] at *
   obtain ⟨z, hz'⟩ := Option.isSome_iff_exists.1 hz
   obtain ⟨i', v, hi', hv, hc, hzs, rfl⟩ := zeroT_spec hz'
   rw [hi] at hi'; cases hi'
   obtain ⟨us, u1, u2⟩ := hRs.list_open cs
   obtain ⟨ux, x1, x2⟩ := hRx.list_open (fun y hy => (cx y hy).1)
   have u1' : ∀ i, i < xs.length → (us i).cells.size = sz := fun i hi => (u1 i hi).1
   have x1' : ∀ i, i < ys.length → (ux i).cells.size = sz := fun i hi => (x1 i hi).1
   have hidN : id < M.NR := by rw [h.st.NR]; exact (List.getElem?_eq_some_iff.1 hid).1
   obtain ⟨f1, f2, f3, f4, f5, f6, f7, cur, te, f8, f9⟩ := h.st.row id _ hid
   rcases u2 with ⟨_, _, q⟩ | ⟨bs, os, cps, sz', rfl, _, _, ho, hcs'⟩
   ·
    exact absurd rfl (q id)
   obtain ⟨_, _, ho3⟩ := ho
   obtain ⟨e1, e2, e3, _⟩ := ho3 f1.symm
   subst e1; subst e2; subst e3
   have hlen : (xs ++ ys.map AV.pub).length = xs.length + ys.length := by simp
   have hlx : (Builtin.lenOf vx).run P w = .ok ys.length w := by
    rcases x2 with ⟨rfl | ⟨_, rfl⟩, q, _⟩ | ⟨bx, ox, cx', _, rfl, _⟩
    ·
     subst q; rfl
    ·
     subst q; rfl
    ·
     rfl
   have hl2 : (flat ux ys.length).length = ys.length * info.size := by rw [flat_length x1', hisz]
   have hnew1 : (Builtin.firstCells sz ys.length vx).run P w = .ok (flat ux ys.length).toArray w := by
    rcases x2 with ⟨rfl | ⟨_, rfl⟩, q, _⟩ | ⟨bx, ox, cx', _, rfl, _, _, _, hcx⟩
    ·
     subst q; rfl
    ·
     subst q; simp [Builtin.firstCells, loadCells, loadCellsFrom, flat]
    ·
     exact run_firstCells_some w sz ys.length ⟨bx, ox, none⟩ ys.length cx' (flat ux ys.length) (flat_length x1') (flat_cell (w := w) x1' hsz hcx)
   by_cases hroom : xs.length + ys.length ≤ M.cap id
   ·
    -- there is room
    have hfit : xs.length * sz + (flat ux ys.length).length ≤ cur.size := by rw [flat_length x1', f9, ← Nat.add_mul]; exact Nat.mul_le_mul_right _ hroom
    have hrun := run_room (P := P) (w := w) t ty el hu hty (M.blk id) xs.length (M.cap id) cur te f8 hlx (flat ux ys.length) hnew1 (flat_one x1 (fun y hy => (cx y hy).2)) hroom hfit
    generalize hc' : (cur.toList.take (xs.length * sz) ++ flat ux ys.length ++ cur.toList.drop (xs.length * sz + (flat ux ys.length).length)).toArray = cur' at hrun
    have hsz' : cur'.size = cur.size := by rw [← hc']; simp; omega
    have hkeep : ∀ j, j < xs.length * sz → cur'[j]? = cur[j]? := by
     intro j hj
     rw [← hc', List.getElem?_toArray, List.append_assoc, List.getElem?_append_left (by simp; omega), List.getElem?_take, if_pos hj, Array.getElem?_toList]
    have hnewc : ∀ j, j < ys.length * sz → cur'[xs.length * sz + j]? = (flat ux ys.length)[j]? := by
     intro j hj
     have l2 := flat_length x1'
     rw [← hc', List.getElem?_toArray, List.append_assoc, List.getElem?_append_right (by simp; omega)]
     simp only [List.length_take, Array.length_toList]
     have e : min (xs.length * sz) cur.size = xs.length * sz := by omega
     rw [e, show xs.length * sz + j - xs.length * sz = j from by omega, List.getElem?_append_left (by rw [l2]; exact hj)]
    have hext : Ext w0 M w (M.growRow id (M.blk id) (M.cap id) (xs.length + ys.length) ((xs.length + ys.length) * sz)) (w.setRow (M.blk id) cur') := by
     refine ext_setRow (M := M) (M.growRow id (M.blk id) (M.cap id) (xs.length + ys.length) ((xs.length + ys.length) * sz)) rfl (fun _ _ => rfl) rfl (fun i hi => ?_) (fun b => ?_) f8 f3 (fun j hj => hkeep j (by rw [f4] at hj; exact hj)) (Mem.own_row hidN) (fun b => foreign_grow hidN)
     ·
      by_cases c : i = id
      ·
       subst c
       simp only [Mem.growRow, if_true, f1]
       exact ⟨by omega, fun _ => ⟨trivial, trivial, trivial⟩⟩
      ·
       simp only [Mem.growRow, if_neg c]
       exact ⟨Nat.le_refl _, fun _ => ⟨trivial, trivial, trivial⟩⟩
     ·
      simp only [Mem.growRow]
      split
      ·
       rename_i c
       rw [c, f4]
       exact Nat.mul_le_mul_right _ (by omega)
      ·
       exact Nat.le_refl _
    have hblt := h.st.row_lt hidN
    have hst' := h.st.growRow hid (w' := w.setRow (M.blk id) cur') (b := M.blk id) (cap := M.cap id) (k := xs.length + ys.length) f3 (Below.setRow (Below.refl _ _) f3 _) (by simp) (by simpa using hblt) f6 hroom
     (fun l hl => ⟨f5 l hl, setRow_other w _ _ _ (f5 l hl)⟩) (fun i hi hne => by
      have : M.blk i ≠ M.blk id := fun q => hne (h.st.rowinj i id hi hidN q)
      exact ⟨this, setRow_other w _ _ _ this⟩) (setRow_heap w _ cur cur' te _ f8) (by rw [hsz']; exact f9) hext (KeepsObj.setRow f8 _)
    have hall := both_R (w0 := w0) hext u1 x1
    have hrow := R.list (w0 := w0) (M := M.growRow id (M.blk id) (M.cap id) (xs.length + ys.length) ((xs.length + ys.length) * sz)) (w := w.setRow (M.blk id) cur') (b := M.blk id) (off := 0) (cap := M.cap id) (xs := xs ++ ys.map AV.pub) (o := .row id) sz (both us ux xs.length) (by rw [hlen]; exact hroom) f6
     (fun i hi => ⟨(hall i hi).1, fun j hj => by
      rw [hlen] at hi
      have q1 : (i + 1) * sz ≤ (xs.length + ys.length) * sz := Nat.mul_le_mul_right _ hi
      rw [Nat.succ_mul] at q1
      refine ⟨.inr ?_, ?_⟩
      ·
       simp only [Mem.growRow, if_true]
       omega
      ·
       rw [Nat.zero_add, cell_of_row _ _ _ cur' te _ (setRow_heap w _ cur cur' te _ f8)]
       unfold both
       by_cases c : i < xs.length
       ·
        have q : (i + 1) * sz ≤ xs.length * sz := Nat.mul_le_mul_right _ c
        rw [Nat.succ_mul] at q
        have := hcs' i c j hj
        rw [Nat.zero_add, cell_of_row _ _ _ cur te _ f8] at this
        rw [if_pos c, hkeep _ (by omega), this]
       ·
        have q : (i - xs.length + 1) * sz ≤ ys.length * sz := Nat.mul_le_mul_right _ (by omega)
        rw [Nat.succ_mul] at q
        have e : i * sz = xs.length * sz + (i - xs.length) * sz := by rw [← Nat.add_mul]; congr 1; omega
        rw [if_neg c, show i * sz + j = xs.length * sz + ((i - xs.length) * sz + j) from by omega, hnewc _ (by omega)]
        exact flat_get x1' _ (by omega) j hj⟩) (fun i hi => (hall i hi).2)
     (by
      rw [hlen]
      refine ⟨hidN, by simp [Mem.growRow], fun _ => ⟨by simp [Mem.growRow], rfl, by simp [Mem.growRow], ?_⟩⟩
      simp [Mem.growRow, f2])
    rw [hlen] at hrow
    exact .value ⟨_, _, _, hrun, hext, hst', hrow⟩
   ·
    -- a new row
    have hypos : 0 < ys.length := by omega
    rcases x2 with ⟨_, q, _⟩ | ⟨bx, ox, cx', _, rfl, _, _, _, hcx⟩
    ·
     subst q; simp at hypos
    have hnew := flat_cell (w := w) x1' hsz hcx
    have hold := flat_cell (w := w) u1' hsz hcs'
    have hl1 : (flat us xs.length).length = xs.length * info.size := by rw [flat_length u1', hisz]
    have hb2 : (xs.length + ys.length) * info.bytes ≤ 140737488355328 := by rw [hby]; exact hbytes
    have hrun := run_append_grow (P := P) w t ty el info v hu hi hv ⟨M.blk id, 0, none⟩ xs.length (M.cap id) (flat us xs.length) hl1 hold ⟨bx, ox, none⟩ ys.length cx' (flat ux ys.length) hl2 hnew (by omega) (by omega) (growslice_fits (by omega) hb2)
    have hneed : xs.length + ys.length ≤ maxLen := by simp [maxLen]; omega
    have hge := grownCap_ge w (xs.length + ys.length) (M.cap id) el
    have hle := grownCap_le_maxLen w (xs.length + ys.length) (M.cap id) el hneed
    generalize hcl : ((flat us xs.length).toArray ++ (flat ux ys.length).toArray ++ Builtin.zeroCells v.cells (grownCap w (xs.length + ys.length) (M.cap id) el - (xs.length + ys.length))) = cells at hrun
    have hclist : cells.toList = flat us xs.length ++ flat ux ys.length ++ (Builtin.zeroCells v.cells (grownCap w (xs.length + ys.length) (M.cap id) el - (xs.length + ys.length))).toList := by rw [← hcl]; simp
    generalize grownCap w (xs.length + ys.length) (M.cap id) el = gc at *
    have hsize : cells.size = gc * sz := by
     have : cells.size = cells.toList.length := by simp
     rw [this, hclist]
     simp only [List.length_append, flat_length u1', flat_length x1', Array.length_toList, size_zeroCells, hzs, hisz]
     rw [← Nat.add_mul, ← Nat.add_mul]
     congr 1
     omega
    obtain ⟨d1, d2⟩ := h.st.drew
    have hext : Ext w0 M w.drew (M.growRow id w.drew.heap.size gc (xs.length + ys.length) ((xs.length + ys.length) * sz)) (w.drew.alloc (.cells cells el)) := by
     refine ext_new _ _ (.inl rfl) (fun _ _ => rfl) (Nat.le_refl _) (fun i hi => ?_) (fun b hb => ?_) (fun b hb => foreign_grow' hb)
     ·
      by_cases c : i = id
      ·
       subst c
       simp only [Mem.growRow, if_true, f1]
       exact ⟨by omega, fun q => absurd q (by omega)⟩
      ·
       simp only [Mem.growRow, if_neg c]
       exact ⟨Nat.le_refl _, fun _ => ⟨trivial, trivial, trivial⟩⟩
     ·
      simp only [Mem.growRow]
      rw [if_neg (by omega)]
    have hst' := d1.growRow hid (w' := w.drew.alloc (.cells cells el)) (b := w.drew.heap.size) (cap := gc) (k := xs.length + ys.length) h.st.base_le ((Below.refl _ w.drew).alloc h.st.base_le _) (by simp) (by simp) hle hge
     (fun l hl => by have := h.st.box_lt hl; exact ⟨fun q => by simp at q; omega, heap_alloc_lt _ _ this⟩) (fun i hi hne => by have := h.st.row_lt hi; exact ⟨fun q => by simp at q; omega, heap_alloc_lt _ _ this⟩) (heap_alloc_new w.drew _) hsize hext (KeepsObj.alloc _ _)
    have hall := both_R (w0 := w0) d2 u1 x1
    have hrow := R.row (w0 := w0) (M := M) (w := w.drew) (us := both us ux xs.length) (xs := xs ++ ys.map AV.pub) (cs := cells) (ty := el) (sz := sz) (k := (xs.length + ys.length) * sz) (cap := gc) (o := .row id) hall
     (fun i hi j hj => by
      rw [hlen] at hi
      rw [← Array.getElem?_toList, hclist]
      exact both_get u1' x1' _ i hi j hj) (by rw [hlen]; exact hge) hle (by rw [hlen]; exact Nat.le_refl _) (M.growRow id w.drew.heap.size gc (xs.length + ys.length) ((xs.length + ys.length) * sz)) (by simp [Mem.growRow]) hext
     (by
      refine ⟨hidN, by rw [hlen]; simp [Mem.growRow], fun _ => ⟨by simp [Mem.growRow], rfl, by simp [Mem.growRow], ?_⟩⟩
      simp [Mem.growRow, f2])
    rw [hlen] at hrow
    exact .value ⟨_, _, _, hrun, d2.trans hext, hst', hrow⟩
  | vec id ver o n' =>
   simp only at hob ⊢
   cases hvr : vecR st.rows id ver with
   | none => simp [hvr] at hob
   | some q =>
   obtain ⟨sz', cs⟩ := q
   simp only [hvr] at hob ⊢
   obtain ⟨lx, ⟨hsz, hz, hbytes, hbig, cx⟩, rfl, rfl, hncs⟩ := hob
   obtain ⟨ys, o', rfl⟩ := isList_inv lx
   simp only [listOf] at *
   obtain ⟨z, hz'⟩ := Option.isSome_iff_exists.1 hz
   obtain ⟨i', v, hi', hv, hc, hzs, rfl⟩ := zeroT_spec hz'
   rw [hi] at hi'; cases hi'
   have hid := vecR_spec hvr
   have hidN : id < M.NR := by rw [h.st.NR]; exact (List.getElem?_eq_some_iff.1 hid).1
   obtain ⟨f1, f2, f3, f4, f5, f6, f7, cur, te, f8, f9, f10, f11, f12⟩ := h.st.row id _ hid
   cases hRs with
   | @vec _ _ _ _ p cap hid' hver hh =>
   obtain ⟨rfl, hcap, hnc⟩ := hh f1.symm
   simp only [Nat.add_zero, Nat.zero_mul] at hcap ⊢
   subst hcap
   obtain ⟨ux, x1, x2⟩ := hRx.list_open (fun y hy => (cx y hy).1)
   have x1' : ∀ i, i < ys.length → (ux i).cells.size = sz' := fun i hi => (x1 i hi).1
   have hlx : (Builtin.lenOf vx).run P w = .ok ys.length w := by
    rcases x2 with ⟨rfl | ⟨_, rfl⟩, q, _⟩ | ⟨bx, ox, cx', _, rfl, _⟩
    ·
     subst q; rfl
    ·
     subst q; rfl
    ·
     rfl
   have hl2 : (flat ux ys.length).length = ys.length * info.size := by rw [flat_length x1', hisz]
   have hnew1 : (Builtin.firstCells sz' ys.length vx).run P w = .ok (flat ux ys.length).toArray w := by
    rcases x2 with ⟨rfl | ⟨_, rfl⟩, q, _⟩ | ⟨bx, ox, cx', _, rfl, _, _, _, hcx⟩
    ·
     subst q; rfl
    ·
     subst q; simp [Builtin.firstCells, loadCells, loadCellsFrom, flat]
    ·
     exact run_firstCells_some w sz' ys.length ⟨bx, ox, none⟩ ys.length cx' (flat ux ys.length) (flat_length x1') (flat_cell (w := w) x1' hsz hcx)
   have hfl := fm_length (fun y hy => (cx y hy).1)
   have hfone := fm_one (fun i hi => (x1 i hi).2) (fun y hy => (cx y hy).2)
   have hcl : (cs.take (n' * sz') ++ ys.flatMap fun y => y.pub.cells).length = (n' + ys.length) * sz' := by
    rw [List.length_append, hfl, List.length_take, Nat.add_mul]; omega
   have hone : ∀ x ∈ cs.take (n' * sz') ++ ys.flatMap (fun y => y.pub.cells), x.one = true := by
    intro x hx
    rcases List.mem_append.1 hx with hx | hx
    ·
     exact f11 x (List.mem_of_mem_take hx)
    ·
     exact hfone x hx
   -- what the new cells stand for, in whatever block they lie
   have hcells : ∀ (cells : Array Value) (zs : List Value), cells.toList = cur.toList.take (n' * sz') ++ flat ux ys.length ++ zs → ∀ (i : Nat) (v : Value) (x : AV), cells[i]? = some v → (cs.take (n' * sz') ++ ys.flatMap fun y => y.pub.cells)[i]? = some x → R w0 M w v x := by
    intro cells zs hcl' i v x hv' hx'
    have hil : i < (n' + ys.length) * sz' := by rw [← hcl]; exact (List.getElem?_eq_some_iff.1 hx').1
    rw [Nat.add_mul] at hil
    have hn1 : (cur.toList.take (n' * sz')).length = n' * sz' := by simp; omega
    rw [← Array.getElem?_toList, hcl', List.append_assoc] at hv'
    by_cases q : i < n' * sz'
    ·
     rw [List.getElem?_append_left (by omega), List.getElem?_take, if_pos q, Array.getElem?_toList] at hv'
     rw [List.getElem?_append_left (by simp; omega), List.getElem?_take, if_pos q] at hx'
     obtain ⟨q1, rfl⟩ := Array.getElem?_eq_some_iff.1 hv'
     obtain ⟨q2, rfl⟩ := List.getElem?_eq_some_iff.1 hx'
     exact f12 i q1 q2
    ·
     rw [List.getElem?_append_right (by omega), hn1, List.getElem?_append_left (by rw [flat_length x1']; omega)] at hv'
     rw [List.getElem?_append_right (by simp; omega)] at hx'
     have e : (cs.take (n' * sz')).length = n' * sz' := by simp; omega
     rw [e] at hx'
     exact fm_R hsz x1 (fun y hy => (cx y hy).1) hv' hx'
   by_cases hroom : n' + ys.length ≤ M.cap id
   ·
    -- there is room
    have hfit : n' * sz' + (flat ux ys.length).length ≤ cur.size := by rw [flat_length x1', f9, ← Nat.add_mul]; exact Nat.mul_le_mul_right _ hroom
    have hrun := run_room (P := P) (w := w) t ty el hu hty (M.blk id) n' (M.cap id) cur te f8 hlx (flat ux ys.length) hnew1 (flat_one x1 (fun y hy => (cx y hy).2)) hroom hfit
    generalize hc' : (cur.toList.take (n' * sz') ++ flat ux ys.length ++ cur.toList.drop (n' * sz' + (flat ux ys.length).length)).toArray = cur' at hrun
    have hsz' : cur'.size = cur.size := by rw [← hc']; simp; omega
    have hext : Ext w0 M w (M.growRow id (M.blk id) (M.cap id) (ver + 1) 0) (w.setRow (M.blk id) cur') := by
     refine ext_setRow (M := M) (M.growRow id (M.blk id) (M.cap id) (ver + 1) 0) rfl (fun _ _ => rfl) rfl (fun i hi => ?_) (fun b => ?_) f8 f3 (fun j hj => by rw [f4] at hj; omega) (Mem.own_row hidN) (fun b => foreign_grow hidN)
     ·
      by_cases c : i = id
      ·
       subst c
       simp only [Mem.growRow, if_true, f1]
       exact ⟨by omega, fun q => absurd q (by omega)⟩
      ·
       simp only [Mem.growRow, if_neg c]
       exact ⟨Nat.le_refl _, fun _ => ⟨trivial, trivial, trivial⟩⟩
     ·
      simp only [Mem.growRow]
      split
      ·
       rename_i c
       rw [c, f4]
       exact Nat.le_refl _
      ·
       exact Nat.le_refl _
    have hblt := h.st.row_lt hidN
    have q : (M.growRow id (M.blk id) (M.cap id) (ver + 1) 0).fr id = ver + 1 ∧ (M.growRow id (M.blk id) (M.cap id) (ver + 1) 0).blk id = M.blk id ∧ (M.growRow id (M.blk id) (M.cap id) (ver + 1) 0).cap id = M.cap id ∧ (M.growRow id (M.blk id) (M.cap id) (ver + 1) 0).rsz id = M.rsz id ∧ (M.growRow id (M.blk id) (M.cap id) (ver + 1) 0).top (M.blk id) = 0 := by simp [Mem.growRow]
    obtain ⟨q1, q2, q3, q4, q5⟩ := q
    have hst' := h.st.growRow' hid (x := .vec (ver + 1) sz' (cs.take (n' * sz') ++ ys.flatMap fun y => y.pub.cells)) (w' := w.setRow (M.blk id) cur') (b := M.blk id) (cap := M.cap id) (k := ver + 1) (tp := 0) (Below.setRow (Below.refl _ _) f3 _) (by simp) (by simpa using hblt)
     (fun l hl => ⟨f5 l hl, setRow_other w _ _ _ (f5 l hl)⟩) (fun i hi hne => by
      have : M.blk i ≠ M.blk id := fun q => hne (h.st.rowinj i id hi hidN q)
      exact ⟨this, setRow_other w _ _ _ this⟩) (by
      simp only [RowOk, q1, q2, q3, q4, q5]
      exact ⟨trivial, f2, f3, trivial, f5, f6, hsz, cur', te, setRow_heap w _ cur cur' te _ f8, hsz'.trans f9, by rw [hcl, hsz', f9]; exact Nat.mul_le_mul_right _ hroom, hone,
       fun i a b => (hcells cur' _ (by rw [← hc']) i _ _ (Array.getElem?_eq_getElem a) (List.getElem?_eq_getElem b)).mono hext⟩) hext (KeepsObj.setRow f8 _)
    exact .value ⟨_, _, _, hrun, hext, hst', .vec hidN (by rw [q1]; exact Nat.le_refl _) fun _ => ⟨by rw [q2]; simp, by rw [q3]; rfl, hroom⟩⟩
   ·
    -- a new block
    have hypos : 0 < ys.length := by omega
    rcases x2 with ⟨_, q, _⟩ | ⟨bx, ox, cx', _, rfl, _, _, _, hcx⟩
    ·
     subst q; simp at hypos
    have hnew := flat_cell (w := w) x1' hsz hcx
    have hb2 : (n' + ys.length) * info.bytes ≤ 140737488355328 := by rw [hby]; exact hbytes
    have hold : ∀ (j : Nat) (u : Value), (cur.toList.take (n' * sz'))[j]? = some u → w.cell? ((⟨M.blk id, 0, none⟩ : Addr).add j) = some u := by
     intro j u hj
     rw [List.getElem?_take] at hj
     split at hj
     ·
      rw [add_none, Nat.zero_add, cell_of_row w _ j cur te _ f8, ← Array.getElem?_toList]; exact hj
     ·
      cases hj
    have hl1 : (cur.toList.take (n' * sz')).length = n' * info.size := by simp; rw [hisz]; omega
    have hrun := run_append_grow (P := P) w t ty el info v hu hi hv ⟨M.blk id, 0, none⟩ n' (M.cap id) (cur.toList.take (n' * sz')) hl1 hold ⟨bx, ox, none⟩ ys.length cx' (flat ux ys.length) hl2 hnew (by omega) (by omega) (growslice_fits (by omega) hb2)
    have hneed : n' + ys.length ≤ maxLen := by simp [maxLen]; omega
    have hge := grownCap_ge w (n' + ys.length) (M.cap id) el
    have hle := grownCap_le_maxLen w (n' + ys.length) (M.cap id) el hneed
    generalize hcl' : ((cur.toList.take (n' * sz')).toArray ++ (flat ux ys.length).toArray ++ Builtin.zeroCells v.cells (grownCap w (n' + ys.length) (M.cap id) el - (n' + ys.length))) = cells at hrun
    have hclist : cells.toList = cur.toList.take (n' * sz') ++ flat ux ys.length ++ (Builtin.zeroCells v.cells (grownCap w (n' + ys.length) (M.cap id) el - (n' + ys.length))).toList := by rw [← hcl']; simp
    generalize grownCap w (n' + ys.length) (M.cap id) el = gc at *
    have hsize : cells.size = gc * sz' := by
     have : cells.size = cells.toList.length := by simp
     rw [this, hclist]
     simp only [List.length_append, hl1, flat_length x1', Array.length_toList, size_zeroCells, hzs, hisz]
     rw [← Nat.add_mul, ← Nat.add_mul]
     congr 1
     omega
    obtain ⟨d1, d2⟩ := h.st.drew
    have hext : Ext w0 M w.drew (M.growRow id w.drew.heap.size gc (ver + 1) 0) (w.drew.alloc (.cells cells el)) := by
     refine ext_new _ _ (.inl rfl) (fun _ _ => rfl) (Nat.le_refl _) (fun i hi => ?_) (fun b hb => ?_) (fun b hb => foreign_grow' hb)
     ·
      by_cases c : i = id
      ·
       subst c
       simp only [Mem.growRow, if_true, f1]
       exact ⟨by omega, fun q => absurd q (by omega)⟩
      ·
       simp only [Mem.growRow, if_neg c]
       exact ⟨Nat.le_refl _, fun _ => ⟨trivial, trivial, trivial⟩⟩
     ·
      simp only [Mem.growRow]
      rw [if_neg (by omega)]
    have q : (M.growRow id w.drew.heap.size gc (ver + 1) 0).fr id = ver + 1 ∧ (M.growRow id w.drew.heap.size gc (ver + 1) 0).blk id = w.drew.heap.size ∧ (M.growRow id w.drew.heap.size gc (ver + 1) 0).cap id = gc ∧ (M.growRow id w.drew.heap.size gc (ver + 1) 0).rsz id = M.rsz id ∧ (M.growRow id w.drew.heap.size gc (ver + 1) 0).top w.drew.heap.size = 0 := by simp [Mem.growRow]
    obtain ⟨q1, q2, q3, q4, q5⟩ := q
    have hbne : ∀ l, l < M.N → M.bx l ≠ w.drew.heap.size := fun l hl => by have := h.st.box_lt hl; intro q; simp at q; omega
    have hst' := d1.growRow' hid (x := .vec (ver + 1) sz' (cs.take (n' * sz') ++ ys.flatMap fun y => y.pub.cells)) (w' := w.drew.alloc (.cells cells el)) (b := w.drew.heap.size) (cap := gc) (k := ver + 1) (tp := 0) ((Below.refl _ w.drew).alloc h.st.base_le _) (by simp) (by simp)
     (fun l hl => by have := h.st.box_lt hl; exact ⟨hbne l hl, heap_alloc_lt _ _ this⟩) (fun i hi hne => by have := h.st.row_lt hi; exact ⟨fun q => by simp at q; omega, heap_alloc_lt _ _ this⟩) (by
      simp only [RowOk, q1, q2, q3, q4, q5]
      exact ⟨trivial, f2, h.st.base_le, trivial, hbne, hle, hsz, cells, el, heap_alloc_new w.drew _, hsize, by rw [hcl, hsize]; exact Nat.mul_le_mul_right _ hge, hone,
       fun i a b => ((hcells cells _ hclist i _ _ (Array.getElem?_eq_getElem a) (List.getElem?_eq_getElem b)).mono d2).mono hext⟩) hext (KeepsObj.alloc _ _)
    exact .value ⟨_, _, _, hrun, d2.trans hext, hst', .vec hidN (by rw [q1]; exact Nat.le_refl _) fun _ => ⟨by rw [q2]; simp, by rw [q3]; rfl, hge⟩⟩
  | _ => exact hob.elim
theorem Yields'.congr {s s' : Sem Next} {st' : St} {r : AV} (h : Yields' P w0 M st' r w s) (e : s'.run P w = s.run P w) : Yields' P w0 M st' r w s' := by
 obtain ⟨v, w', M', h1, h2⟩ := h
 exact ⟨v, w', M', by rw [e]; exact h1, h2⟩
theorem run_builtin (b : Builtin) (args : Array Operand) (ts : Array TypeId) (dst : Option Tmp) (type : TypeId) (pos : String) (after : Array Edge) (guard : Option (Nat × Bool)) (s : Sem Value)
  (hb : ∀ cs, builtin b ts type cs (args.map a.eval) = (do pure (.value (← s)) : Sem Next)) :
  (execOp a.eval ⟨dst, .call ⟨.builtin b, args, ts⟩, type, pos, after, guard⟩).run P w = ((do pure (.value (← s)) : Sem Next)).run P w := by
 simp only [execOp, resolve, invoke, Sem.run_bind, Sem.run_pure, Result.andThen_ok]
 rw [hb]
 simp
theorem bytesT_spec {t : TypeId} (h : bytesT P t = true) : ∃ el, P.underlying t = some (.slice el) ∧ P.underlying el = some (.int .u8) ∧ tyT P el = some (1, false) := by
 unfold bytesT at h
 split at h
 ·
  rename_i el h1
  simp only [Bool.and_eq_true] at h
  obtain ⟨h2, h3⟩ := h
  refine ⟨el, h1, ?_, ?_⟩
  ·
   split at h2
   ·
    assumption
   ·
    cases h2
  ·
   split at h3
   ·
    assumption
   ·
    cases h3
 ·
  cases h
theorem encode_size (r : Int) : (Utf8.encode r).size ≤ 4 := by
 unfold Utf8.encode
 dsimp only
 (repeat' split) <;> simp [ByteArray.size]
theorem ys_convert (h : Rel w0 n M e st a w) (s d : TypeId) (x : Operand) (hob : (evOp P e true st (.convert s d x)).1) :
  Yields' P w0 M (evOp P e true st (.convert s d x)).2.2 (evOp P e true st (.convert s d x)).2.1 w (do pure (.value (← convert s d (a.eval x)))) := by
 unfold evOp at hob ⊢
 cases hs : intT P s with
 | some k1 =>
  cases hd : intT P d with
  | some k =>
   simp only [hs, hd] at hob ⊢
   obtain ⟨hx, hi, hk⟩ := hob
   obtain ⟨ex, _⟩ := (arg_R h hx).int hi
   rw [ex]
   refine .here h.st (v := .int k (intOfA (argV e x))) ?_ (.flat rfl)
   simp [convert, run_underlying (intT_spec hs), run_underlying (intT_spec hd), Conv.intToInt, inK_wrap hk]
  | none =>
   simp only [hs, hd] at hob ⊢
   obtain ⟨hx, hi, hstr⟩ := hob
   obtain ⟨ex, _⟩ := (arg_R h hx).int hi
   rw [ex]
   exact .here h.st (run_convert_int_string w s d _ _ (by rw [intT_spec hs]; rfl) (strT_spec hstr)) (.flat (decide_eq_true (Nat.le_trans (encode_size _) (by decide))))
 | none =>
  simp only [hs] at hob ⊢
  by_cases hc : (strT P s && strT P d) = true
  ·
   simp only [hc, if_true] at hob ⊢
   simp only [Bool.and_eq_true] at hc
   obtain ⟨hx, hi⟩ := hob
   have hR := arg_R h hx
   refine .here h.st (v := a.eval x) ?_ hR
   obtain ⟨q, hq⟩ : ∃ q, argV e x = .val (.string q) := by
    cases hv : argV e x <;> rw [hv] at hi <;> try cases hi
    rename_i v
    cases v <;> first | exact ⟨_, rfl⟩ | cases hi
   rw [hq] at hR
   obtain ⟨ev, _⟩ := hR.val_inv
   rw [ev]
   simp [convert, run_underlying (strT_spec hc.1), run_underlying (strT_spec hc.2)]
  ·
   simp only [hc, if_false, Bool.false_eq_true] at hob ⊢
   by_cases hc2 : (bytesT P s && strT P d) = true
   ·
    simp only [hc2, if_true] at hob ⊢
    simp only [Bool.and_eq_true] at hc2
    obtain ⟨el, hu, he, hty⟩ := bytesT_spec hc2.1
    split at hob
    ·
     rename_i id ver o n' hx0
     cases hvr : vecR st.rows id ver with
     | none => simp [hvr] at hob
     | some q =>
     obtain ⟨sz', cs⟩ := q
     simp only [hvr] at hob ⊢
     obtain ⟨hx, rfl, hle, hlen, hby⟩ := hob
     have hR := arg_R h hx
     rw [hx0] at hR
     obtain ⟨f1, f2, f3, f4, f5, f6, f7, cur, te, f8, f9, f10, f11, f12⟩ := h.st.row id _ (vecR_spec hvr)
     obtain ⟨v, hev⟩ : ∃ v, a.eval x = v := ⟨_, rfl⟩
     rw [hev] at hR ⊢
     cases hR with
     | @vec _ _ _ _ p cap hid hver hh =>
     obtain ⟨rfl, hcap, hnc⟩ := hh f1.symm
     have hl : ((cs.drop o).take n').length = n' := by simp; omega
     have hsize : (bytesOfA ((cs.drop o).take n')).size = n' := by simp [bytesOfA, ByteArray.size]; omega
     have hfl : flatV (.string (bytesOfA ((cs.drop o).take n'))) = true := by simp [flatV, maxLen, hsize]; exact hlen
     have := run_convert_bytes_back (P := P) w s d el ⟨M.blk id, o * M.rsz id, none⟩ cap (((cs.drop o).take n').map fun x => UInt8.ofNat (intOfA x).toNat) hu he (strT_spec hc2.2) (fun j hj => by
      have hj' : j < n' := by rw [List.length_map, hl] at hj; exact hj
      have e1 : ((cs.drop o).take n')[j]'(by omega) = cs[o + j]'(by omega) := by simp
      have hq := hby _ (List.getElem_mem (l := (cs.drop o).take n') (n := j) (by omega))
      rw [e1] at hq
      have hr := f12 (o + j) (by omega) (by omega)
      rw [add_none, f2, Nat.mul_one, cell_of_row w _ (o + j) cur te _ f8, Array.getElem?_eq_getElem (show o + j < cur.size by omega)]
      simp only [List.getElem_map, e1]
      generalize cs[o + j]'(by omega) = y at hq hr
      cases y with
      | val u =>
       cases u <;> try exact hq.elim
       rename_i k n
       cases k <;> try exact hq.elim
       obtain ⟨n0, n1⟩ : 0 ≤ n ∧ n ≤ 255 := hq
       rw [hr.val_inv.1]
       simp only [intOfA]
       have : (UInt8.ofNat n.toNat).toNat = n.toNat := by simp; omega
       rw [this]
       simp
       omega
      | _ => exact hq.elim)
     rw [List.length_map, hl] at this
     exact .here h.st (v := .string (bytesOfA ((cs.drop o).take n'))) this (.flat hfl)
    rename_i hx0
    obtain ⟨hx, hi, hlen, hby⟩ := hob
    have hR := arg_R h hx
    obtain ⟨xs, o, hxs⟩ := isList_inv hi
    rw [hxs] at hR hlen hby ⊢
    simp only [listOf] at hlen hby ⊢
    have hcs : ∀ y ∈ xs, y.cells.length = 1 := fun y hy => by
     have := hby y hy
     cases y <;> first | rfl | exact this.elim
    obtain ⟨us, h1, h2⟩ := hR.list_open hcs
    have hsize : (bytesOfA xs).size = xs.length := by simp [bytesOfA, ByteArray.size]
    have hfl : flatV (.string (bytesOfA xs)) = true := by simp [flatV, maxLen, hsize]; exact hlen
    rcases h2 with ⟨ev | ⟨ad, ev⟩, rfl, _⟩ | ⟨b, off, cap, sz', ev, _, _, _, hcell⟩
    ·
     rw [ev]
     have := run_convert_bytes_nil (P := P) w s el hu he 0 0 d (strT_spec hc2.2)
     exact .here h.st (v := .string ByteArray.empty) this (.flat rfl)
    ·
     rw [ev]
     have := run_convert_bytes_back (P := P) w s d el ad 0 [] hu he (strT_spec hc2.2) (fun j hj => absurd hj (by simp))
     exact .here h.st (v := .string ByteArray.empty) this (.flat rfl)
    ·
     rw [ev]
     have hb : ∀ i (hi : i < xs.length), ∃ n : Int, 0 ≤ n ∧ n ≤ 255 ∧ xs[i] = .val (.int .u8 n) ∧ us i = .int .u8 n := fun i hi => by
      have hq := hby _ (List.getElem_mem hi)
      have hr := (h1 i hi).2
      cases hv : xs[i] with
      | val u =>
       rw [hv] at hq hr
       cases u <;> try exact hq.elim
       rename_i k n
       cases k <;> try exact hq.elim
       exact ⟨n, hq.1, hq.2, rfl, hr.val_inv.1⟩
      | _ => rw [hv] at hq; exact hq.elim
     have := run_convert_bytes_back (P := P) w s d el ⟨b, off, none⟩ cap (xs.map fun x => UInt8.ofNat (intOfA x).toNat) hu he (strT_spec hc2.2) (fun j hj => by
      have hj' : j < xs.length := by simpa using hj
      obtain ⟨n, n0, n1, e1, e2⟩ := hb j hj'
      have hc := hcell j hj' 0 (by omega)
      rw [e2] at hc
      simp only [Nat.mul_one, Nat.add_zero] at hc
      rw [add_none, hc]
      simp only [List.getElem_map, e1, intOfA, Value.cells]
      have : (UInt8.ofNat n.toNat).toNat = n.toNat := by simp; omega
      rw [this]
      simp
      omega)
     simp only [List.length_map] at this
     exact .here h.st (v := .string (bytesOfA xs)) this (.flat hfl)
   ·
    simp only [hc2, if_false, Bool.false_eq_true] at hob ⊢
    by_cases hc3 : (strT P s && bytesT P d) = true
    ·
     simp only [hc3, if_true] at hob ⊢
     simp only [Bool.and_eq_true] at hc3
     obtain ⟨el, hu, he, hty⟩ := bytesT_spec hc3.2
     obtain ⟨_, hx, hi⟩ := hob
     have hR := arg_R h hx
     obtain ⟨q, hq⟩ : ∃ q, argV e x = .val (.string q) := by
      cases hv : argV e x <;> rw [hv] at hi <;> try cases hi
      rename_i v
      cases v <;> first | exact ⟨_, rfl⟩ | cases hi
     rw [hq] at hR ⊢
     obtain ⟨ev, hfl⟩ := hR.val_inv
     rw [ev]
     simp only [strOf]
     have hql : q.size ≤ maxLen := by simpa [flatV] using hfl
     have hrun := Lib.run_convert_string_bytes (P := P) w s d el q (strT_spec hc3.1) hu he
     have hbel : Below w.heap.size w (Lib.bytesWorld w el q) := ⟨rfl, rfl, rfl, by rw [Lib.bytesWorld_size]; omega, fun k hk => Lib.bytesWorld_at_old w el q k hk⟩
     obtain ⟨r1, r2⟩ := h.st.later hbel w.heap.size q.size (Nat.le_refl _) (.inl (by rw [Lib.bytesWorld_size]; omega))
     have hcap := grownCap_ge w q.size 0 el
     have hcapm := grownCap_le_maxLen w q.size 0 el hql
     have hlen : (ofBytesA q.data.toList).length = q.size := by simp [ofBytesA]
     refine .value ⟨_, _, _, hrun, r2, r1, ?_⟩
     have := R.list (w0 := w0) (M := M.newTop w.heap.size q.size) (w := Lib.bytesWorld w el q) (b := w.heap.size) (off := 0) (cap := grownCap w q.size 0 el) (xs := ofBytesA q.data.toList) (o := .none) 1 (fun i => .int .u8 (q.data.toList.getD i 0).toNat)
      (by rw [hlen]; exact hcap) hcapm (fun i hi => ⟨rfl, fun j hj => ⟨.inr (by rw [hlen] at hi; simp [Mem.newTop]; omega), by
       rw [hlen] at hi
       have hj0 : j = 0 := by omega
       subst hj0
       simp only [Nat.mul_one, Nat.zero_add, Nat.add_zero]
       rw [Lib.bytesWorld_cell w el q i hi]
       rfl⟩⟩) (fun i hi => by
       have hi' : i < q.data.toList.length := by rw [hlen] at hi; exact hi
       simp only [ofBytesA, List.getElem_map]
       rw [show q.data.toList.getD i 0 = q.data.toList[i] from by simp [List.getD, List.getElem?_eq_getElem hi']]
       exact .flat rfl) trivial
     rw [hlen] at this
     exact this
    ·
     simp only [hc3] at hob
     exact hob.elim
theorem replicate_flatten_get {z : List AV} {sz : Nat} (hz : z.length = sz) : ∀ (m j : Nat) (x : AV), ((List.replicate m z).flatten)[j]? = some x → 0 < sz ∧ z[j % sz]? = some x
 | 0, j, x, h => by simp at h
 | m + 1, j, x, h => by
  rw [List.replicate_succ, List.flatten_cons] at h
  by_cases c : j < z.length
  ·
   rw [List.getElem?_append_left c] at h
   exact ⟨by omega, by rw [Nat.mod_eq_of_lt (by omega)]; exact h⟩
  ·
   rw [List.getElem?_append_right (by omega)] at h
   obtain ⟨h1, h2⟩ := replicate_flatten_get hz m _ x h
   refine ⟨h1, ?_⟩
   rw [hz] at h2
   rw [← h2]
   congr 1
   rw [← Nat.mod_eq_sub_mod (by omega)]
theorem ys_makeSlice (h : Rel w0 n M e st a w) (t : TypeId) (len cap : Operand) (hob : (evOp P e true st (.makeSlice t len cap)).1) :
  Yields' P w0 M (evOp P e true st (.makeSlice t len cap)).2.2 (evOp P e true st (.makeSlice t len cap)).2.1 w (do pure (.value (← Instr.makeSlice t (a.eval len) (a.eval cap)))) := by
 unfold evOp at hob ⊢
 cases he : elT P t with
 | none => simp [he] at hob
 | some p =>
 obtain ⟨el, sz, ag, by8⟩ := p
 cases hz : zeroT P el with
 | none => simp [he, hz] at hob
 | some z =>
 simp only [he, hz] at hob ⊢
 obtain ⟨_, hl, hc, il, ic, h0, h1, hbytes, hbig, hsz, hzl, hmk⟩ := hob
 obtain ⟨info, hu, hi, hby, hty⟩ := elT_spec he
 have hisz : info.size = sz := by
  obtain ⟨i', d, h1, h2, _⟩ := tyT_spec hty
  rw [hi] at h1; cases h1; exact h2
 obtain ⟨i', v, hi', hv, hcon, hzs, rfl⟩ := zeroT_spec hz
 rw [hi] at hi'; cases hi'
 obtain ⟨el', _⟩ := (arg_R h hl).int il
 obtain ⟨ec', _⟩ := (arg_R h hc).int ic
 generalize intOfA (argV e len) = l at *
 generalize intOfA (argV e cap) = c at *
 obtain ⟨l', rfl⟩ := Int.eq_ofNat_of_zero_le h0
 obtain ⟨c', rfl⟩ := Int.eq_ofNat_of_zero_le (Int.le_trans h0 h1)
 have hrun := run_make (P := P) w t el info v hu hi hv (kindOfA (argV e len)) (kindOfA (argV e cap)) l' c' h0 h1 (by rw [hby, Int.mul_comm]; omega) (by omega)
 rw [← el', ← ec'] at hrun
 simp only [Int.toNat_natCast, hisz] at hrun
 have hcm : c' ≤ maxLen := by unfold maxLen; omega
 have hms := size_madeCells v.cells (c' * sz)
 have hrow : RowR w0 M w v.cells (ofVal v).cells := (R_ofVal hcon).cells
 have hone := (R_ofVal (w0 := w0) (M := M) (w := w) hcon).cellsOne (fun vs e => by have := notTup_ofVal hcon; rw [e] at this; cases this)
 by_cases hl0 : (l' : Int) = 0
 ·
  rw [if_pos hl0, if_pos hl0]
  have : l' = 0 := by omega
  subst this
  obtain ⟨r1, r2⟩ := h.st.addRow (cs := madeCells v.cells (c' * sz)) (ty := el) (k := 0) (sz := sz) hcm (Nat.zero_le _) hms
  refine .value ⟨_, _, _, hrun, r2, r1, ?_⟩
  have hN := h.st.NR
  exact R.list (xs := []) sz (fun _ => undef) (Nat.zero_le _) hcm (fun i hi => absurd hi (by simp)) (fun i hi => absurd hi (by simp)) ⟨by simp [Mem.addRow, hN], by simp [Mem.addRow, hN], fun _ => by simp [Mem.addRow, hN]⟩
 ·
  rw [if_neg hl0, if_neg hl0]
  by_cases hmk0 : hasMark e t = true
  case neg =>
   rw [if_neg hmk0, if_neg hmk0]
   obtain rfl : sz = 1 := by
    rcases hmk with q | q | q
    ·
     exact absurd q hl0
    ·
     exact absurd q hmk0
    ·
     exact q
   have hvs : v.cells.size = 1 := by rw [hrow.1, hzl]
   obtain ⟨u, hu0⟩ : ∃ u, v.cells[0]? = some u := ⟨_, Array.getElem?_eq_getElem (by omega)⟩
   have hz0 : (ofVal v).cells[0]? = some (nth (ofVal v).cells 0) := by
    rw [List.getElem?_eq_getElem (by omega)]
    simp [nth, List.getD, List.getElem?_eq_getElem (show 0 < (ofVal v).cells.length by omega)]
   have hru : R w0 M w u (nth (ofVal v).cells 0) := hrow.get hu0 hz0
   have hone0 : (nth (ofVal v).cells 0).one = true := hone _ (List.mem_of_getElem? hz0)
   have hucs : u.cells = #[u] := (hru.cells_one hone0).1
   obtain ⟨hst', hx⟩ := h.st.newTop (madeCells v.cells (c' * 1)) el (c' * 1)
   have hlen : (List.replicate l' (nth (ofVal v).cells 0)).length = l' := List.length_replicate
   have hR := R.row (us := fun _ => u) (xs := List.replicate l' (nth (ofVal v).cells 0)) (cs := madeCells v.cells (c' * 1)) (ty := el) (sz := 1) (k := c' * 1) (cap := c') (o := .none)
    (fun i hi => ⟨by rw [hucs]; rfl, by rw [List.getElem_replicate]; exact hru⟩)
    (fun i hi j hj => by
     have hi' : i < l' := by rw [hlen] at hi; exact hi
     have : i * 1 + j < c' * 1 := by omega
     have h3 : (madeCells v.cells (c' * 1))[i * 1 + j]? = some v.cells[(i * 1 + j) % v.cells.size]! := by
      simp only [madeCells, Array.getElem?_map, Array.getElem?_range, if_pos this, Option.map_some]
     obtain rfl : j = 0 := by omega
     rw [h3, hvs, Nat.mod_one, hucs, getElem!_pos v.cells 0 (by omega)]
     rw [Array.getElem?_eq_getElem (by omega)] at hu0
     simpa using hu0)
    (by rw [hlen]; omega) hcm (by rw [hlen]; omega) (M.newTop w.heap.size (c' * 1)) (by simp [Mem.newTop]) hx trivial
   rw [hlen] at hR
   exact .value ⟨_, _, _, hrun, hx, hst', hR⟩
  rw [if_pos hmk0, if_pos hmk0]
  obtain ⟨r1, r2⟩ := h.st.addVec (cs := madeCells v.cells (c' * sz)) (ty := el) (cap := c') (sz := sz) (xs := (List.replicate l' (ofVal v).cells).flatten) hcm hsz hms
   (by rw [hms]; simp only [List.length_flatten, List.map_replicate, List.sum_replicate_nat, hzl]; exact Nat.mul_le_mul_right _ (by omega))
   (fun x hx => by
    obtain ⟨q, hq, hx⟩ := List.mem_flatten.1 hx
    rw [List.eq_of_mem_replicate hq] at hx
    exact hone x hx)
   (fun i u x hu' hx => by
    obtain ⟨_, h2⟩ := replicate_flatten_get hzl l' i x hx
    have h3 : u = v.cells[i % v.cells.size]! := by
     obtain ⟨q1, q2⟩ := Array.getElem?_eq_some_iff.1 hu'
     rw [← q2]; simp [madeCells]
    have hvs : v.cells.size = sz := by rw [hrow.1, hzl]
    have h4 : v.cells[i % sz]? = some u := by
     have hlt : i % sz < v.cells.size := by rw [hvs]; exact Nat.mod_lt _ hsz
     rw [h3, hvs, getElem!_pos v.cells (i % sz) hlt, Array.getElem?_eq_getElem hlt]
    exact hrow.get h4 h2)
  refine .value ⟨_, _, _, hrun, r2, r1, ?_⟩
  have hN := h.st.NR
  exact .vec (by simp [Mem.addRow, hN]) (Nat.zero_le _) fun _ => ⟨by simp [Mem.addRow, hN], by simp [Mem.addRow, hN], by omega⟩
theorem ys_buildVec (h : Rel w0 n M e st a w) (t : TypeId) (m : Nat) (ps : Array (Nat × Operand)) (hmk : hasMark e t = true) (hob : (evOp P e true st (.buildSlice t m ps)).1) :
  Yields' P w0 M (evOp P e true st (.buildSlice t m ps)).2.2 (evOp P e true st (.buildSlice t m ps)).2.1 w (do pure (.value (← Instr.buildSlice t m (ps.map fun (i, x) => (i, a.eval x))))) := by
 unfold evOp at hob ⊢
 cases he : elT P t with
 | none => simp [he] at hob
 | some p =>
  obtain ⟨el, sz, ag, by8⟩ := p
  simp only [he, hmk] at hob ⊢
  obtain ⟨_, hps, hr, hbig, hpos, hz, hcs, hnt⟩ := hob
  obtain ⟨i, hu, hi, _, hty⟩ := elT_spec he
  obtain ⟨z, hz'⟩ := Option.isSome_iff_exists.1 hz
  obtain ⟨i', v, hi', hv, hc, hs, rfl⟩ := zeroT_spec hz'
  have hl : ps.toList.length = m := by simpa using congrArg List.length hr
  have hcell : ∀ p ∈ ps.toList, (a.eval p.2).cells.size = sz := fun p hp => by
   rw [(arg_R h (hps p hp)).cells.1]
   exact hcs _ (List.mem_map.2 ⟨p, hp, rfl⟩)
  obtain ⟨zc, hzc⟩ : ∃ zc : Array Value, if m * sz = 0 then zc = #[] else zc = v.cells := by
   by_cases h0 : m * sz = 0
   ·
    exact ⟨#[], by rw [if_pos h0]⟩
   ·
    exact ⟨v.cells, by rw [if_neg h0]⟩
  obtain ⟨cs', a1, a2, a3, a4⟩ := fill_seq sz (ps.toList.map fun p => a.eval p.2) 0 ((Array.range (m * sz)).map (zc[· % zc.size]!)) (fun u hu => by obtain ⟨p, hp, rfl⟩ := List.mem_map.1 hu; exact hcell p hp) (by simp [hl])
  have hm : m ≤ maxLen := by
   have : m * 1 ≤ m * sz := Nat.mul_le_mul_left _ hpos
   simp [maxLen]; omega
  let us : Nat → Value := fun i => (ps.toList.map fun p => a.eval p.2).getD i undef
  have hus : ∀ i (hi : i < (ps.toList.map fun p => argV e p.2).length), (us i).cells.size = sz ∧ R w0 M w (us i) (ps.toList.map fun p => argV e p.2)[i] := fun i hi => by
   have hi' : i < ps.toList.length := by simpa using hi
   have hi2 : i < ps.size := by simpa using hi'
   have e1 : us i = a.eval (ps.toList[i]).2 := by simp [us, List.getD, Array.getElem?_eq_getElem hi2]
   rw [e1]
   refine ⟨hcell _ (List.getElem_mem _), ?_⟩
   simp only [List.getElem_map]
   exact arg_R h (hps _ (List.getElem_mem _))
  have hlv : (ps.toList.map fun p => argV e p.2).length = m := by simp [← hl]
  have hfl := fm_length (ys := ps.toList.map fun p => argV e p.2) (sz := sz) hcs
  rw [hlv] at hfl
  have hsz' : cs'.size = m * sz := by rw [a2]; simp
  have hflat : ∀ j, j < m * sz → (flat us m)[j]? = cs'[j]? := fun j hj => by
   have hk : j / sz < m := (Nat.div_lt_iff_lt_mul hpos).2 hj
   have hr' := Nat.mod_lt j hpos
   have ej : j / sz * sz + j % sz = j := by rw [Nat.mul_comm]; exact Nat.div_add_mod j sz
   have f := flat_get (us := us) (m := m) (sz := sz) (fun i hi => (hus i (by rw [hlv]; exact hi)).1) (j / sz) hk (j % sz) hr'
   rw [ej] at f
   have hk' : j / sz < ps.toList.length := by omega
   have hk2 : j / sz < ps.size := by simpa using hk'
   have f2 := a4 (j / sz) (us (j / sz)) (by simp [us, List.getD, Array.getElem?_eq_getElem hk2]) (j % sz) hr'
   rw [Nat.zero_add, ej] at f2
   rw [f, f2]
  obtain ⟨hst', hx⟩ := h.st.addVec (cs := cs') (ty := el) (cap := m) (sz := sz) (xs := (ps.toList.map fun p => argV e p.2).flatMap fun y => y.pub.cells) hm hpos hsz' (by rw [hfl, hsz']; exact Nat.le_refl _) (fm_one (fun i hi => (hus i hi).2) hnt)
   (fun i v x hv' hx' => by
    have hi : i < m * sz := by rw [← hsz']; exact (Array.getElem?_eq_some_iff.1 hv').1
    rw [← hflat i hi] at hv'
    rw [← hlv] at hv'
    exact fm_R hpos hus hcs hv' hx')
  have hN := h.st.NR
  refine .value ⟨.slice (some ⟨w.heap.size, 0, none⟩) m m, _, _, ?_, hx, hst', .vec (by simp [Mem.addRow, hN]) (Nat.zero_le _) fun _ => ⟨by simp [Mem.addRow, hN], by simp [Mem.addRow, hN], Nat.le_refl _⟩⟩
  have e0 : ¬ (m * sz > 2 ^ 24) := by omega
  have efl : (ps.map fun (i, x) => (i, a.eval x)).toList = ((ps.toList.map fun p => a.eval p.2).zipIdx 0).map fun x => (x.2, x.1) := by
   rw [Array.toList_map]
   exact parts_zip hr a.eval
  by_cases h0 : m * sz = 0
  ·
   rw [if_pos h0] at hzc
   subst hzc
   simp only [Instr.buildSlice, Sem.run_bind, run_underlying hu, Result.andThen_ok, run_sizeOf' hty, if_neg e0, if_pos h0, Sem.run_pure, efl, a1, newRow, run_newObj]
   rfl
  ·
   rw [if_neg h0] at hzc
   subst hzc
   simp only [Instr.buildSlice, Sem.run_bind, run_underlying hu, Result.andThen_ok, run_sizeOf' hty, if_neg e0, if_neg h0, Sem.run_pure, zeroValue, typeInfo, run_program, hi', hv, efl, a1, newRow, run_newObj]
   rfl
theorem op_sound (h : Rel w0 n M e st a w) (o : Oper) (hob : (evOp P e true st o.op).1) :
  Yields' P w0 M (evOp P e true st o.op).2.2 (evOp P e true st o.op).2.1 w (execOp a.eval o) := by
 obtain ⟨dst, op, type, pos, after, guard⟩ := o
 cases op with
 | move x => exact yields_same h.st rfl (arg_R h hob)
 | assign x => exact yields_same h.st rfl (arg_R h hob)
 | pick c x y => exact ys_pick h c x y hob
 | alloc t => exact ys_alloc h t hob
 | box t x => exact ys_box h t x hob
 | build t ps => exact ys_build h t ps hob
 | buildSlice t m ps =>
  cases hmk : hasMark e t with
  | false => exact ys_buildSlice h t m ps hmk hob
  | true => exact ys_buildVec h t m ps hmk hob
 | load t x =>
  have := ys_load h t x hob
  have e : (evOp P e true st (.load t x)).2.2 = st := by simp only [evOp]; split <;> rfl
  simp only [e]
  exact this
 | store t x v => exact ys_store h t x v hob
 | nilCheck x => exact ys_nilCheck h ⟨dst, .nilCheck x, type, pos, after, guard⟩ x rfl hob
 | binOp op t x y u => exact ys_binOp h op t x y u hob
 | unOp op t x => exact ys_unOp h op t x hob
 | convert s d x => exact ys_convert h s d x hob
 | makeFunc f fi cap =>
  cases f with
  | func f => exact ys_makeFunc h f fi cap hob
  | _ => exact hob.elim
 | slice t x lo hi mx => exact ys_slice h t x lo hi mx hob
 | makeSlice t len cap => exact ys_makeSlice h t len cap hob
 | fieldAddr t x f => exact ys_fieldAddr h t x f hob
 | field t x f => exact ys_field h t x f hob
 | indexAddr t x i => exact ys_indexAddr h t x i hob
 | index t x i => exact ys_index h t x i hob
 | extract x i => exact ys_extract h x i hob
 | makeMap t r => exact ys_makeMap h t r hob
 | lookup t m k ok => exact ys_lookup h t m k ok hob
 | mapUpdate t m k v => exact ys_mapUpdate h t m k v hob
 | call c =>
  obtain ⟨callee, args, ts⟩ := c
  cases callee with
  | builtin b =>
   cases b with
   | len =>
    simp only [evOp] at hob ⊢
    split at hob
    ·
     rename_i x t hx ht
     obtain ⟨h1, h2⟩ := hob
     have ea : args = #[x] := Array.toList_inj.1 (by simpa using hx)
     have et : ts = #[t] := Array.toList_inj.1 (by simpa using ht)
     subst ea; subst et
     exact (ys_len h x t type h1 h2).congr (run_builtin .len #[x] #[t] dst type pos after guard _ (fun _ => by simp [builtin]))
    ·
     exact hob.elim
   | append =>
    simp only [evOp] at hob ⊢
    split at hob
    ·
     rename_i s x t t' hx ht
     obtain ⟨_, h1, h2, rfl, h3⟩ := hob
     have ea : args = #[s, x] := Array.toList_inj.1 (by simpa using hx)
     have et : ts = #[t, t] := Array.toList_inj.1 (by simpa using ht)
     subst ea; subst et
     exact (ys_append h s x t type h1 h2 h3).congr (run_builtin .append #[s, x] #[t, t] dst type pos after guard _ (fun _ => by simp [builtin]))
    ·
     exact hob.elim
   | clear =>
    simp only [evOp] at hob ⊢
    split at hob
    ·
     rename_i x t hx ht
     have ea : args = #[x] := Array.toList_inj.1 (by simpa using hx)
     have et : ts = #[t] := Array.toList_inj.1 (by simpa using ht)
     subst ea; subst et
     split at hob
     ·
      rename_i id ver o n' el sz ag by8 ex he
      cases hvr : vecR st.rows id ver with
      | none => simp only [hvr] at hob
      | some p =>
       obtain ⟨sz', cs⟩ := p
       simp only [hvr] at hob ⊢
       obtain ⟨_, h1, h2, h3, h4⟩ := hob
       exact (ys_clear h x t type he ex hvr h1 h2 h3 h4).congr (run_builtin .clear #[x] #[t] dst type pos after guard _ (fun _ => by simp [builtin]))
     ·
      exact hob.elim
    ·
     exact hob.elim
   | min =>
    simp only [evOp] at hob ⊢
    split at hob
    ·
     rename_i x y hx
     obtain ⟨h1, h2, h3, h4, _⟩ := hob
     have ea : args = #[x, y] := Array.toList_inj.1 (by simpa using hx)
     subst ea
     exact (ys_min h x y ts type h1 h2 h3 h4).congr (run_builtin .min #[x, y] ts dst type pos after guard _ (fun _ => by simp [builtin]))
    ·
     exact hob.elim
   | max =>
    simp only [evOp] at hob ⊢
    split at hob
    ·
     rename_i x y hx
     obtain ⟨h1, h2, h3, h4⟩ := hob
     have ea : args = #[x, y] := Array.toList_inj.1 (by simpa using hx)
     subst ea
     exact (ys_max h x y ts type h1 h2 h3 h4).congr (run_builtin .max #[x, y] ts dst type pos after guard _ (fun _ => by simp [builtin]))
    ·
     exact hob.elim
   | _ => exact hob.elim
  | _ => exact hob.elim
 | _ => exact hob.elim
end
def FW (ro : Option Nat) : Fence := { Fence.wide with round := ro }
theorem FW_fn (ro : Option Nat) (f : FuncId) : (FW ro).fn f := trivial
theorem FW_depth (ro : Option Nat) : (FW ro).depth.isSome = true → ∀ n, 1 ≤ n := fun h => by cases h
theorem callsIn_FW {ro : Option Nat} {n : Nat} {P : Program} {f : FuncId} {args : Array Value} {w : World} {Q : Ending → World → Prop} (h : Calls P f args w Q) : CallsIn (FW ro) n P f args w Q := by
 cases ro with
 | none => exact callsIn_wide.2 h
 | some l => exact CallsIn.inRound (F := Fence.wide) l (callsIn_wide.2 h)
theorem calls_of_FW {n : Nat} {P : Program} {f : FuncId} {args : Array Value} {w : World} {Q : Ending → World → Prop} (h : CallsIn (FW none) n P f args w Q) : Calls P f args w Q := callsIn_wide.1 h
def Enters (P : Program) (f : FuncId) : Prop := ∀ args w, (callFunc f args).run P w = .ok (.enter f args) w
def Comes' (w0 : World) (M : Mem) (w : World) (Post : AV → St → Prop) (en : Ending) (w' : World) : Prop :=
 ∃ v M' r st', en = .returned v ∧ Post r st' ∧ Ext w0 M w M' w' ∧ RelSt w0 M' st' w' ∧ R w0 M' w' v r
def ACalls (P : Program) (w0 : World) (f : FuncId) (args : List AV) (st : St) (Post : AV → St → Prop) : Prop :=
 Enters P f ∧ ∀ (M : Mem) (w : World) (vals : Array Value), RelSt w0 M st w → RowR w0 M w vals args → Calls P f vals w (Comes' w0 M w Post)
theorem Comes'.mono {w0 : World} {M : Mem} {w : World} {Post Post' : AV → St → Prop} (hp : ∀ r s, Post r s → Post' r s) {en : Ending} {w' : World} (h : Comes' w0 M w Post en w') : Comes' w0 M w Post' en w' :=
 let ⟨v, M', r, st', a1, a2, a3, a4, a5⟩ := h; ⟨v, M', r, st', a1, hp _ _ a2, a3, a4, a5⟩
theorem ACalls.mono {P : Program} {w0 : World} {f : FuncId} {args : List AV} {st : St} {Post Post' : AV → St → Prop} (h : ACalls P w0 f args st Post) (hp : ∀ r s, Post r s → Post' r s) : ACalls P w0 f args st Post' :=
 ⟨h.1, fun M w vals h1 h2 => (h.2 M w vals h1 h2).mono fun _ _ h => h.mono hp⟩
def YRound (P : Program) (w0 : World) (k : Nat) (args : List AV) (st : St) (Post : AV → St → Prop) : Prop :=
 ∀ (M : Mem) (w : World) (vals : Array Value), RelSt w0 M st w → RowR w0 M w vals args →
  ∃ fn tmps asg body, (Instr.yield (M.lb k) vals).run P w = .ok (.round (M.lb k) fn tmps asg body) w ∧ ∀ n, RoundIn Fence.wide n P (M.lb k) fn tmps asg body w (Comes' w0 M w Post)
def VCalls (P : Program) (w0 : World) (fv : AV) (args : List AV) (st : St) (Post : AV → St → Prop) : Prop :=
 match fv with
 | .clo f cs => ACalls P w0 f (args ++ cs) st Post
 | .yld k => YRound P w0 k args st Post
 | _ => False
def putE (e : Env) (dst : Option Nat) (c : Bool) (v : AV) : Env :=
 match dst with
 | some d => (d, c, v) :: e
 | none => e
def dstOk (n : Nat) : Option Nat → Prop
 | some d => d < n
 | none => True
def guardC (all : List Oper) (e : Env) : Option (Nat × Bool) → Bool
 | none => true
 | some (j, want) => match (all[j]?).bind (·.dst) with
  | some d => match look e d with
   | some (cj, .val (.bool b)) => cj && (b == want)
   | _ => false
  | none => false
def guardOk (all : List Oper) (e : Env) : Option (Nat × Bool) → Prop
 | none => True
 | some (j, _) => match (all[j]?).bind (·.dst) with
  | some d => match look e d with
   | some (_, v) => isB v = true
   | none => False
  | none => False
def tmpsOf : List Operand → List Nat
 | [] => []
 | .tmp t :: r => t :: tmpsOf r
 | _ :: r => tmpsOf r
def looksG (all : List Oper) : Option (Nat × Bool) → List Nat
 | none => []
 | some (j, _) => ((all[j]?).bind (·.dst)).toList
def looks (all : List Oper) (o : Oper) : List Nat := 1000000 :: (tmpsOf o.op.operands.toList ++ looksG all o.guard)
def view (d : Bool) (all : List Oper) (o : Oper) (e : Env) : Env := if d then keepL (looks all o) e else e
def callK (P : Program) (w0 : World) (c d : Bool) (fv : AV) (args : List AV) (st : St) (k : AV → St → Prop) : Prop :=
 (∃ v, (c = true → VCalls P w0 fv args st fun r s => r = v ∧ s = st) ∧ k v st) ∨
 (d = false ∧ ∃ Post, (c = true → VCalls P w0 fv args st Post) ∧ ∀ v st', (c = true → Post v st') → (c = false → st' = st) → k v st')
theorem callK_intro {P : Program} {w0 : World} {c d : Bool} {f : FuncId} {cs args : List AV} {st : St} {k : AV → St → Prop} (v : AV)
  (h : ACalls P w0 f (args ++ cs) st fun r s => r = v ∧ s = st) (hk : k v st) : callK P w0 c d (.clo f cs) args st k := .inl ⟨v, fun _ => h, hk⟩
def argP (e : Env) (x : AV) : AV := if hasMark e 0 = true then x else x.pub
theorem R.argP {w0 : World} {M : Mem} {w : World} {v : Value} {x : AV} (e : Env) (h : R w0 M w v x) : R w0 M w v (Go.Ev.argP e x) := by
 unfold Go.Ev.argP
 split
 ·
  exact h
 ·
  exact h.pub
def globV (e : Env) (g : Nat) : AV :=
 match look e (2000000 + g) with
 | some (_, x) => x
 | none => .junk
def GlobR (P : Program) (w0 : World) (t : TypeId) (g : Nat) (x : AV) : Prop :=
 ∀ (M : Mem) (w : World), Below w0.heap.size w0 w → ∃ v, (Instr.loadAt t (.pointer (some ⟨g, 0, none⟩))).run P w = .ok v w ∧ R w0 M w v x
def evS (P : Program) (w0 : World) (n : Nat) (d : Bool) (all : List Oper) (R : List Oper → Env → St → Prop) (K : Env → St → Prop) : List Oper → Env → St → Prop
 | [], e, st => K e st
 | o :: os, e, st =>
  guardOk all (view d all o e) o.guard ∧ dstOk n o.dst ∧
  match o.op with
  | .call ⟨.value f, args, _⟩ =>
   (guardC all (view d all o e) o.guard = true → argOk (view d all o e) true f ∧ ∀ x ∈ args.toList, argOk (view d all o e) true x) ∧
   callK P w0 (guardC all (view d all o e) o.guard) d (argV (view d all o e) f) (args.toList.map fun x => argP (view d all o e) (argV (view d all o e) x)) st
    fun v st' => R os (putE e o.dst (guardC all (view d all o e) o.guard) v) st'
  | .load t (.global g) => (d = false ∧ (guardC all (view d all o e) o.guard = true → GlobR P w0 t g (globV e g))) ∧ evS P w0 n d all R K os (putE e o.dst (guardC all (view d all o e) o.guard) (globV e g)) st
  | op => match evOp P (view d all o e) (guardC all (view d all o e) o.guard) st op with
   | (ob, v, st') => (guardC all (view d all o e) o.guard = true → ob) ∧ ((guardC all (view d all o e) o.guard = false ∨ d = true) → st' = st) ∧ evS P w0 n d all R K os (putE e o.dst (guardC all (view d all o e) o.guard) v) st'
def evK (P : Program) (w0 : World) (n : Nat) (d : Bool) (all : List Oper) (K : Env → St → Prop) : Nat → List Oper → Env → St → Prop
 | 0, _, _, _ => False
 | c + 1, os, e, st => evS P w0 n d all (evK P w0 n d all K c) K os e st
theorem evK_succ {P : Program} {w0 : World} {n : Nat} {d : Bool} {all : List Oper} {K : Env → St → Prop} {c : Nat} {os : List Oper} {e : Env} {st : St} : evK P w0 n d all K (c + 1) os e st = evS P w0 n d all (evK P w0 n d all K c) K os e st := rfl
def isCallF : Op → Bool
 | .call ⟨.value _, _, _⟩ => true
 | _ => false
def isGl : Op → Bool
 | .load _ (.global _) => true
 | _ => false
theorem evS_other {P : Program} {w0 : World} {n : Nat} {d : Bool} {all : List Oper} {R : List Oper → Env → St → Prop} {K : Env → St → Prop} {o : Oper} {os : List Oper} {e : Env} {st : St} (hc : ¬ isCallF o.op = true) (hgl : ¬ isGl o.op = true) :
  evS P w0 n d all R K (o :: os) e st = (guardOk all (view d all o e) o.guard ∧ dstOk n o.dst ∧ match evOp P (view d all o e) (guardC all (view d all o e) o.guard) st o.op with
   | (ob, v, st') => (guardC all (view d all o e) o.guard = true → ob) ∧ ((guardC all (view d all o e) o.guard = false ∨ d = true) → st' = st) ∧ evS P w0 n d all R K os (putE e o.dst (guardC all (view d all o e) o.guard) v) st') := by
 obtain ⟨dst, op, type, pos, after, guard⟩ := o
 cases op with
 | call cc =>
  obtain ⟨callee, args, ts⟩ := cc
  cases callee with
  | value f => exact absurd rfl hc
  | _ => rfl
 | load t y =>
  cases y with
  | global g => exact absurd rfl hgl
  | _ => rfl
 | _ => rfl
section
variable {P : Program} {w0 : World} {n : Nat} {M : Mem} {e : Env} {st : St} {a : Act} {w : World}
theorem one_sound (h : Rel w0 n M e st a w) (ro : Option Nat) (m : Nat) (o : Oper) (hob : (evOp P e true st o.op).1) (Q : Exit → Act → World → Prop) (K : Act → World → Prop)
  (hK : ∀ v w' M', Ext w0 M w M' w' → RelSt w0 M' (evOp P e true st o.op).2.2 w' → R w0 M' w' v (evOp P e true st o.op).2.1 → K (a.put o.dst v) w') : o.wpIn (FW ro) m P a w K Q := by
 have hd : ∀ c, o.op ≠ .defer c := by
  intro c hh
  rw [hh] at hob
  exact hob
 obtain ⟨v, w', M', hr, h1, h2, h3⟩ := op_sound (P := P) h o hob
 refine ⟨fun f _ => FW_fn ro f, ?_⟩
 have hs : Oper.semAt (FW ro).round a.eval o = execOp a.eval o := by
  cases ro with
  | none => rfl
  | some l => exact Oper.semAt_some l a.eval o hd
 rw [hs]
 rcases hr with hr | ⟨hr, rfl⟩
 ·
  rw [hr]; exact hK v w' M' h1 h2 h3
 ·
  rw [hr]; exact hK _ w' M' h1 h2 h3
theorem clo_inv {v : Value} {f : FuncId} {xs : List AV} (h : R w0 M w v (.clo f xs)) : ∃ cs, v = .func (.func f) #[] cs ∧ RowR w0 M w cs xs := by
 cases h with
 | clo hl h => exact ⟨_, rfl, hl, h⟩
theorem yld_inv {v : Value} {k : Nat} (h : R w0 M w v (.yld k)) : v = .func (.yield (M.lb k)) #[] #[] := by
 cases h with
 | yld hk => rfl
theorem row_pub (h : Rel w0 n M e st a w) {args : Array Operand} (hargs : ∀ x ∈ args.toList, argOk e true x) : RowR w0 M w (args.map a.eval) (args.toList.map fun x => argP e (argV e x)) := by
 refine .mk (by simp) (fun i u y hu hy => ?_)
 by_cases c : i < args.size
 ·
  simp only [Array.getElem?_map, Array.getElem?_eq_getElem c, Option.map_some, Option.some.injEq] at hu
  simp only [List.getElem?_map, Array.getElem?_toList, Array.getElem?_eq_getElem c, Option.map_some, Option.some.injEq] at hy
  subst hu; subst hy
  exact (arg_R h (hargs _ (by simp))).argP e
 ·
  simp [Array.getElem?_eq_none (Nat.le_of_not_lt c)] at hu
theorem RowR.append {cs ds : Array Value} {xs ys : List AV} (h : RowR w0 M w cs xs) (k : RowR w0 M w ds ys) : RowR w0 M w (cs ++ ds) (xs ++ ys) := by
 refine .mk (by simp [h.1, k.1]) (fun i u y hu hy => ?_)
 by_cases c : i < cs.size
 ·
  rw [Array.getElem?_append_left c] at hu
  rw [List.getElem?_append_left (h.1 ▸ c)] at hy
  exact h.get hu hy
 ·
  rw [Array.getElem?_append_right (by omega)] at hu
  rw [List.getElem?_append_right (by have := h.1; omega)] at hy
  rw [h.1] at hu
  exact k.get hu hy
theorem call_sound (h : Rel w0 n M e st a w) (ro : Option Nat) (m : Nat) {dst : Option Tmp} {f : Operand} {args : Array Operand} {ts : Array TypeId} {type : TypeId} {pos : String} {after : Array Edge} {guard : Option (Nat × Bool)}
  (hf : argOk e true f) (hargs : ∀ x ∈ args.toList, argOk e true x) {Post : AV → St → Prop} (hv : VCalls P w0 (argV e f) (args.toList.map fun x => argP e (argV e x)) st Post) (Q : Exit → Act → World → Prop) (K : Act → World → Prop)
  (hK : ∀ r s, Post r s → ∀ v w' M', Ext w0 M w M' w' → RelSt w0 M' s w' → R w0 M' w' v r → K (a.put dst v) w') :
  (⟨dst, .call ⟨.value f, args, ts⟩, type, pos, after, guard⟩ : Oper).wpIn (FW ro) m P a w K Q := by
 have hrow := row_pub h hargs
 have hR := arg_R h hf
 refine ⟨fun f _ => FW_fn ro f, ?_⟩
 have hs : Oper.semAt (FW ro).round a.eval ⟨dst, .call ⟨.value f, args, ts⟩, type, pos, after, guard⟩ = execOp a.eval ⟨dst, .call ⟨.value f, args, ts⟩, type, pos, after, guard⟩ := by
  cases ro with
  | none => rfl
  | some l => exact Oper.semAt_some l a.eval _ (fun c hh => by cases hh)
 rw [hs]
 cases hx : argV e f with
 | clo g xs =>
  rw [hx] at hR hv
  obtain ⟨cs, ef, hcs⟩ := clo_inv hR
  have hrun : (execOp a.eval ⟨dst, .call ⟨.value f, args, ts⟩, type, pos, after, guard⟩).run P w = .ok (.enter g (args.map a.eval ++ cs)) w := by
   simp [execOp, resolve, ef, Deferred.ofValue, invoke, hv.1 (args.map a.eval ++ cs) w]
  rw [hrun]
  refine ⟨fun q => FW_depth ro q m, callsIn_FW ((hv.2 M w _ h.st (hrow.append hcs)).mono ?_)⟩
  rintro en w' ⟨v', M', r, s, rfl, hp, h1, h2, h3⟩
  exact hK r s hp v' w' M' h1 h2 h3
 | yld k =>
  rw [hx] at hR hv
  have ef := yld_inv hR
  obtain ⟨fn, tmps, asg, body, hy, hround⟩ := hv M w _ h.st hrow
  have hrun : (execOp a.eval ⟨dst, .call ⟨.value f, args, ts⟩, type, pos, after, guard⟩).run P w = .ok (.round (M.lb k) fn tmps asg body) w := by
   simp [execOp, resolve, ef, Deferred.ofValue, invoke, hy]
  rw [hrun]
  refine ⟨fun q => FW_depth ro q m, ?_⟩
  have := hround (m - 1)
  refine RoundIn.mono (F := FW ro) (by cases ro <;> exact this) ?_
  rintro en w' ⟨v', M', r, s, rfl, hp, h1, h2, h3⟩
  exact hK r s hp v' w' M' h1 h2 h3
 | _ => rw [hx] at hv; exact hv.elim
theorem getD_put (a : Act) (dst : Option Nat) (v : Value) (s : Nat) (hd : dstOk a.tmps.size dst) : (a.put dst v).tmps.getD s undef = if dst = some s then v else a.tmps.getD s undef := by
 cases dst with
 | none => simp [Act.put]
 | some d =>
  simp only [dstOk] at hd
  simp only [Act.put, Option.some.injEq]
  by_cases c : d = s
  ·
   subst c
   simp [hd]
  ·
   rw [if_neg c]
   simp [Array.getElem?_setIfInBounds_ne c]
theorem size_put (a : Act) (dst : Option Nat) (v : Value) : (a.put dst v).tmps.size = a.tmps.size := by cases dst <;> simp [Act.put]
theorem defers_put (a : Act) (dst : Option Nat) (v : Value) : (a.put dst v).defers = a.defers := by cases dst <;> rfl
theorem Rel.put (h : Rel w0 n M e st a w) {M' : Mem} {w' : World} {st' : St} (hx : Ext w0 M w M' w') (hst : RelSt w0 M' st' w') {dst : Option Nat} (hd : dstOk n dst) {c : Bool} {v : Value} {r : AV} (hv : entryOk w0 M' w' v (c, r)) :
  Rel w0 n M' (putE e dst c r) st' (a.put dst v) w' := by
 refine ⟨hst, by rw [size_put]; exact h.size, fun s x hs => ?_⟩
 rw [getD_put a dst v s (by rw [h.size]; exact hd)]
 cases dst with
 | none => exact (h.env s x hs).mono hx
 | some d =>
  simp only [putE, look] at hs
  simp only [Option.some.injEq]
  by_cases q : d = s
  ·
   rw [if_pos q] at hs ⊢
   cases hs
   exact hv
  ·
   rw [if_neg q] at hs ⊢
   exact (h.env s x hs).mono hx
theorem yielded_some {ops : Array Oper} {ts : Array Value} {j d : Nat} (h : (ops[j]?).bind (·.dst) = some d) : yielded ops ts j = match ts.getD d undef with | .bool b => some b | _ => none := by
 unfold yielded
 simp only [h]
 rw [Array.getD_eq_getD_getElem?]
 change (match ts[(d : Nat)]? with | some (.bool b) => some b | _ => none) = _
 cases ts[(d : Nat)]? with
 | none => rfl
 | some v => cases v <;> rfl
theorem wanted_spec (h : Rel w0 n M e st a w) {all : List Oper} {o : Oper} (hg : guardOk all e o.guard) : Region.wanted o (yielded all.toArray a.tmps) = guardC all e o.guard := by
 unfold Region.wanted guardC
 cases hgd : o.guard with
 | none => rfl
 | some p =>
  obtain ⟨j, want⟩ := p
  rw [hgd] at hg
  simp only [guardOk] at hg
  have e0 : (all.toArray[j]?).bind (·.dst) = (all[j]?).bind (·.dst) := by simp
  dsimp only
  cases hd : (all[j]?).bind (·.dst) with
  | none => simp [hd] at hg
  | some d =>
   rw [yielded_some (e0.trans hd)]
   simp only [hd] at hg ⊢
   cases hl : look e d with
   | none => simp [hl] at hg
   | some x =>
    obtain ⟨cj, v⟩ := x
    simp only [hl] at hg ⊢
    have hen := h.env d _ hl
    cases v with
    | val u =>
     cases u <;> try cases hg
     rename_i b
     unfold entryOk at hen
     cases cj with
     | true =>
      rw [if_pos rfl] at hen
      obtain ⟨e1, _⟩ := hen.val_inv
      rw [e1]
      cases b <;> cases want <;> rfl
     | false =>
      rw [if_neg (by simp)] at hen
      rw [hen]
      rfl
    | _ => cases hg
def subE (e' e : Env) : Prop := ∀ s x, look e' s = some x → look e s = some x
theorem Rel.sub {e' : Env} (h : Rel w0 n M e st a w) (hs : subE e' e) : Rel w0 n M e' st a w := ⟨h.st, h.size, fun s x hx => h.env s x (hs s x hx)⟩
theorem look_keepL : ∀ (K : List Nat) (e : Env) (s : Nat) (x : Bool × AV), look (keepL K e) s = some x → look e s = some x
 | [], _, _, _, h => by simp [keepL, look] at h
 | k :: K, e, s, x, h => by
  simp only [keepL] at h
  cases hk : look e k with
  | none =>
   simp only [hk] at h
   exact look_keepL K e s x h
  | some y =>
   obtain ⟨c, v⟩ := y
   simp only [hk, look] at h
   by_cases q : k = s
   ·
    rw [if_pos q] at h
    subst q
    rw [hk]; exact h
   ·
    rw [if_neg q] at h
    exact look_keepL K e s x h
theorem sub_keepL (K : List Nat) (e : Env) : subE (keepL K e) e := look_keepL K e
theorem mem_keepL : ∀ (K : List Nat) (e : Env) (s : Nat) (x : Bool × AV), look (keepL K e) s = some x → s ∈ K
 | [], _, _, _, h => by simp [keepL, look] at h
 | k :: K, e, s, x, h => by
  simp only [keepL] at h
  cases hk : look e k with
  | none =>
   simp only [hk] at h
   exact List.mem_cons_of_mem _ (mem_keepL K e s x h)
  | some y =>
   obtain ⟨c, v⟩ := y
   simp only [hk, look] at h
   by_cases q : k = s
   ·
    exact q ▸ List.mem_cons_self
   ·
    rw [if_neg q] at h
    exact List.mem_cons_of_mem _ (mem_keepL K e s x h)
theorem sub_view (d : Bool) (all : List Oper) (o : Oper) (e : Env) : subE (view d all o e) e := by
 unfold view
 split
 ·
  exact sub_keepL _ _
 ·
  exact fun _ _ h => h
theorem evK_sound (ro : Option Nat) (m : Nat) (d : Bool) (all : List Oper) (KK : Env → St → Prop) (Q : Exit → Act → World → Prop) : ∀ (c : Nat) (os : List Oper) (e : Env) (st : St) (a : Act) (w : World) (M : Mem), Rel w0 n M e st a w →
  evK P w0 n d all KK c os e st → (∀ e' st' a' w' M', KK e' st' → Rel w0 n M' e' st' a' w' → Ext w0 M w M' w' → a'.defers = a.defers → Q .normal a' w') → wpListIn (FW ro) m P all.toArray Q os a w
 | 0, _, _, _, _, _, _, _, h, _ => h.elim
 | c + 1, os, e, st, a, w, M, hr, h, hQ => by
  have key : ∀ (os : List Oper) (e : Env) (st : St) (a : Act) (w : World) (M : Mem), Rel w0 n M e st a w → evS P w0 n d all (evK P w0 n d all KK c) KK os e st →
    (∀ e' st' a' w' M', KK e' st' → Rel w0 n M' e' st' a' w' → Ext w0 M w M' w' → a'.defers = a.defers → Q .normal a' w') → wpListIn (FW ro) m P all.toArray Q os a w := by
   intro os
   induction os with
   | nil => exact fun e st a w M hr h hQ => hQ e st a w M h hr (.refl _ _ _) rfl
   | cons o os ih =>
    intro e st a w M hr h hQ
    have hv := sub_view d all o e
    have hr1 := hr.sub hv
    by_cases hc : isCallF o.op = true
    ·
     obtain ⟨dst, op, type, pos, after, guard⟩ := o
     cases op <;> try cases hc
     rename_i cc
     obtain ⟨callee, args, ts⟩ := cc
     cases callee <;> try cases hc
     rename_i f
     simp only [evS] at h
     obtain ⟨hg, hd, h1, hk⟩ := h
     unfold wpListIn
     rw [wanted_spec hr1 hg]
     have go : ∀ v s, evK P w0 n d all KK c os (putE e dst (guardC all (view d all ⟨dst, .call ⟨.value f, args, ts⟩, type, pos, after, guard⟩ e) guard) v) s → ∀ u w' M', Ext w0 M w M' w' → RelSt w0 M' s w' →
       entryOk w0 M' w' u (guardC all (view d all ⟨dst, .call ⟨.value f, args, ts⟩, type, pos, after, guard⟩ e) guard, v) → wpListIn (FW ro) m P all.toArray Q os (a.put dst u) w' := by
      intro v s hev u w' M' hx hst hu
      exact evK_sound ro m d all KK Q c os _ _ _ _ M' (hr.put hx hst hd hu) hev (fun e' st' a' w'' M'' k1 k2 k3 k4 => hQ e' st' a' w'' M'' k1 k2 (hx.trans k3) (k4.trans (defers_put a dst u)))
     cases hcc : guardC all (view d all ⟨dst, .call ⟨.value f, args, ts⟩, type, pos, after, guard⟩ e) guard with
     | true =>
      rw [hcc] at h1 hk go
      obtain ⟨b1, b2⟩ := h1 rfl
      rw [if_pos rfl]
      rcases hk with ⟨v, k1, k2⟩ | ⟨_, Post, k1, k2⟩
      ·
       refine call_sound hr1 ro m b1 b2 (k1 rfl) Q _ (fun r s hp u w' M' hx hst hu => ?_)
       obtain ⟨rfl, rfl⟩ := hp
       exact go _ _ k2 u w' M' hx hst hu
      ·
       exact call_sound hr1 ro m b1 b2 (k1 rfl) Q _ (fun r s hp u w' M' hx hst hu => go _ _ (k2 r s (fun _ => hp) (fun q => by cases q)) u w' M' hx hst hu)
     | false =>
      rw [hcc] at h1 hk go
      rw [if_neg (by simp)]
      refine ⟨fun g _ => FW_fn ro g, ?_⟩
      rcases hk with ⟨v, k1, k2⟩ | ⟨_, Post, k1, k2⟩
      ·
       exact go _ _ k2 undef w M (.refl _ _ _) hr.st rfl
      ·
       exact go .junk st (k2 .junk st (fun q => by cases q) (fun _ => rfl)) undef w M (.refl _ _ _) hr.st rfl
    by_cases hgl : isGl o.op = true
    ·
     obtain ⟨dst, op, type, pos, after, guard⟩ := o
     cases op <;> try cases hgl
     rename_i t y
     cases y <;> try cases hgl
     rename_i g
     simp only [evS] at h
     obtain ⟨hg, hd, ⟨_, h1⟩, hk⟩ := h
     unfold wpListIn
     rw [wanted_spec hr1 hg]
     cases hcc : guardC all (view d all ⟨dst, .load t (.global g), type, pos, after, guard⟩ e) guard with
     | true =>
      rw [hcc] at h1 hk
      rw [if_pos rfl]
      obtain ⟨v, k1, k2⟩ := h1 rfl M w hr.st.below
      refine ⟨fun f _ => FW_fn ro f, ?_⟩
      have hs : Oper.semAt (FW ro).round a.eval ⟨dst, .load t (.global g), type, pos, after, guard⟩ = execOp a.eval ⟨dst, .load t (.global g), type, pos, after, guard⟩ := by
       cases ro with
       | none => rfl
       | some l => exact Oper.semAt_some l a.eval _ (fun c hh => by cases hh)
      have hrun : (execOp a.eval ⟨dst, .load t (.global g), type, pos, after, guard⟩).run P w = .ok (.value v) w := by
       have ea : a.eval (.global g) = .pointer (some ⟨g, 0, none⟩) := rfl
       simp [execOp, ea, k1]
      rw [hs, hrun]
      exact ih _ _ _ _ M (hr.put (.refl _ _ _) hr.st hd (c := true) (show entryOk w0 M w v (true, _) from k2)) hk (fun e' st' a' w'' M'' q1 q2 q3 q4 => hQ e' st' a' w'' M'' q1 q2 q3 (q4.trans (defers_put a dst v)))
     | false =>
      rw [hcc] at hk
      rw [if_neg (by simp)]
      refine ⟨fun f _ => FW_fn ro f, ih _ _ _ _ M (hr.put (.refl _ _ _) hr.st hd (c := false) (show entryOk w0 M w undef (false, _) from rfl)) hk (fun e' st' a' w'' M'' q1 q2 q3 q4 => hQ e' st' a' w'' M'' q1 q2 q3 (q4.trans (defers_put a dst undef)))⟩
    ·
     rw [evS_other hc hgl] at h
     obtain ⟨hg, hd, h1, h0, hrest⟩ := h
     unfold wpListIn
     rw [wanted_spec hr1 hg]
     have go : ∀ u w' M', Ext w0 M w M' w' → RelSt w0 M' (evOp P (view d all o e) (guardC all (view d all o e) o.guard) st o.op).2.2 w' →
       entryOk w0 M' w' u (guardC all (view d all o e) o.guard, (evOp P (view d all o e) (guardC all (view d all o e) o.guard) st o.op).2.1) → wpListIn (FW ro) m P all.toArray Q os (a.put o.dst u) w' := by
      intro u w' M' hx hst hu
      exact ih _ _ _ _ M' (hr.put hx hst hd hu) hrest (fun e' st' a' w'' M'' k1 k2 k3 k4 => hQ e' st' a' w'' M'' k1 k2 (hx.trans k3) (k4.trans (defers_put a o.dst u)))
     cases hcc : guardC all (view d all o e) o.guard with
     | true =>
      rw [hcc] at h1 go
      rw [if_pos rfl]
      exact one_sound hr1 ro m o (h1 rfl) Q _ (fun v w' M' hx hst hv => go v w' M' hx hst hv)
     | false =>
      rw [hcc] at h0 go
      rw [if_neg (by simp)]
      refine ⟨fun g _ => FW_fn ro g, go undef w M (.refl _ _ _) ?_ rfl⟩
      have q : (evOp P (view d all o e) false st o.op).2.2 = st := h0 (.inl rfl)
      rw [q]
      exact hr.st
  exact key os e st a w M hr h hQ
end
def Marked (W0 : World) (ds : List Deferred) (w : World) : Prop :=
 ∃ Ds : List Nat, Ds.Nodup ∧ ds = Ds.map (fun D => { target := .collected D, args := #[] }) ∧ ∀ D ∈ Ds, W0.heap.size ≤ D ∧ w.heap[D]? = some (.deferred (some []))
abbrev AQ := Exit → Env → St → Prop
structure At (w0 : World) (n : Nat) (M0 : Mem) (W0 : World) (e : Env) (st : St) (a : Act) (w : World) (M : Mem) : Prop where
 rel : Rel w0 n M e st a w
 ext : Ext w0 M0 W0 M w
 marks : Marked W0 a.defers w
def Lands (w0 : World) (n : Nat) (M0 : Mem) (W0 : World) (Q : AQ) (x : Exit) (a' : Act) (w' : World) : Prop :=
 ∃ M' e' st', At w0 n M0 W0 e' st' a' w' M' ∧ Q x e' st'
def awp (P : Program) (w0 : World) (n : Nat) (M0 : Mem) (W0 : World) (ro : Option Nat) (c : Code) (Q : AQ) (e : Env) (st : St) : Prop :=
 ∀ m M a w, At w0 n M0 W0 e st a w M → c.wpIn (FW ro) m P (Lands w0 n M0 W0 Q) a w
def thenA (K : Env → St → Prop) (Q : AQ) : AQ
 | .normal, e, st => K e st
 | x, e, st => Q x e st
def inBlockA (id : Nat) (Q : AQ) : AQ
 | .exit i, e, st => if i = id then Q .normal e st else Q (.exit i) e st
 | x, e, st => Q x e st
section
variable {P : Program} {w0 : World} {n : Nat} {M0 : Mem} {W0 : World} {ro : Option Nat} {Q : AQ} {e : Env} {st : St}
theorem awp_mono {c : Code} {Q' : AQ} (h : awp P w0 n M0 W0 ro c Q e st) (hq : ∀ x e s, Q x e s → Q' x e s) : awp P w0 n M0 W0 ro c Q' e st :=
 fun m M a w hr => wpIn_mono (h m M a w hr) fun _ _ _ ⟨M', e', s', h1, h3⟩ => ⟨M', e', s', h1, hq _ _ _ h3⟩
theorem At.sub {M : Mem} {a : Act} {w : World} {e' : Env} (h : At w0 n M0 W0 e st a w M) (hs : subE e' e) : At w0 n M0 W0 e' st a w M := ⟨h.rel.sub hs, h.ext, h.marks⟩
theorem Marked.later {M M' : Mem} {ds : List Deferred} {w w' : World} (h : Marked W0 ds w) (hx : Ext w0 M w M' w') (hl : RelSt w0 M st w) : Marked W0 ds w' := by
 obtain ⟨Ds, h1, h2, h3⟩ := h
 refine ⟨Ds, h1, h2, fun D hD => ⟨(h3 D hD).1, hx.objs D _ (h3 D hD).2 rfl fun k hk e => ?_⟩⟩
 have hk' : k < st.loops.length := by rw [← hl.loop.NL]; exact hk
 obtain ⟨_, hr⟩ := hl.loop.record k _ (List.getElem?_eq_getElem hk')
 rw [e] at hr
 exact hr.nodef (h3 D hD).2
theorem awp_sub {c : Code} (e' : Env) (h : awp P w0 n M0 W0 ro c Q e' st) (hs : subE e' e) : awp P w0 n M0 W0 ro c Q e st := fun m M a w hr => h m M a w (hr.sub hs)
theorem awp_region (c : Nat) (L : List Nat) {id : Nat} {l : List Oper} (h : evK P w0 n false l (fun e' st' => Q .normal (keepL L e') st') c l e st) : awp P w0 n M0 W0 ro (.region id l.toArray false) Q e st := by
 intro m M a w hr
 refine wpIn_region_lit (evK_sound ro m false l _ _ c l e st a w M hr.rel h fun e' st' a' w' M' k1 k2 k3 k4 => ⟨M', _, _, ⟨k2.sub (sub_keepL L _), hr.ext.trans k3, ?_⟩, k1⟩)
 rw [k4]
 exact hr.marks.later k3 hr.rel.st
theorem awp_skip (h : Q .normal e st) : awp P w0 n M0 W0 ro .skip Q e st := fun _ M _ _ hr => wpIn_skip ⟨M, e, st, hr, h⟩
theorem awp_exit {id : Nat} (h : Q (.exit id) e st) : awp P w0 n M0 W0 ro (.exit id) Q e st := fun _ M _ _ hr => wpIn_exit ⟨M, e, st, hr, h⟩
theorem awp_ret (h : Q .ret e st) : awp P w0 n M0 W0 ro .ret Q e st := fun _ M _ _ hr => wpIn_ret ⟨M, e, st, hr, h⟩
theorem awp_seq {x y : Code} (h : ∀ K : Env → St → Prop, (∀ e s, awp P w0 n M0 W0 ro y Q e s → K e s) → awp P w0 n M0 W0 ro x (thenA K Q) e st) : awp P w0 n M0 W0 ro (.seq x y) Q e st := by
 intro m M a w hr
 refine wpIn_seq (wpIn_mono (h (awp P w0 n M0 W0 ro y Q) (fun _ _ h => h) m M a w hr) ?_)
 rintro ex a' w' ⟨M', e', s', h1, h3⟩
 cases ex with
 | normal => exact h3 m M' a' w' h1
 | _ => exact ⟨M', e', s', h1, h3⟩
theorem awp_mid {x y : Code} (I : Env → St → Prop) (hx : ∀ K : Env → St → Prop, (∀ e s, I e s → K e s) → awp P w0 n M0 W0 ro x (thenA K Q) e st) (hy : ∀ e s, I e s → awp P w0 n M0 W0 ro y Q e s) : awp P w0 n M0 W0 ro (.seq x y) Q e st :=
 awp_seq fun K hK => awp_mono (hx I fun _ _ h => h) fun ex e s h => by
  cases ex with
  | normal => exact hK e s (hy e s h)
  | _ => exact h
theorem awp_block {id : Nat} {c : Code} (h : awp P w0 n M0 W0 ro c (inBlockA id Q) e st) : awp P w0 n M0 W0 ro (.block id c) Q e st := by
 intro m M a w hr
 refine wpIn_block (wpIn_mono (h m M a w hr) ?_)
 rintro ex a' w' ⟨M', e', s', h1, h3⟩
 cases ex with
 | exit i =>
  simp only [inBlockA] at h3
  simp only [Exit.inBlock]
  split at h3 <;> rename_i hc
  ·
   rw [if_pos hc]; exact ⟨M', e', s', h1, h3⟩
  ·
   rw [if_neg hc]; exact ⟨M', e', s', h1, h3⟩
 | _ => exact ⟨M', e', s', h1, h3⟩
theorem awp_cond {c : Operand} {x y : Code} (b : Bool) (hc : argOk e true c) (hb : argV e c = .val (.bool b)) (ht : b = true → awp P w0 n M0 W0 ro x Q e st) (hf : b = false → awp P w0 n M0 W0 ro y Q e st) : awp P w0 n M0 W0 ro (.cond c x y) Q e st := by
 intro m M a w hr
 have hv := arg_R hr.rel hc
 rw [hb] at hv
 have ev : a.eval c = .bool b := hv.val_inv.1
 exact wpIn_cond_split ev (fun h => ht h m M a w hr) (fun h => hf h m M a w hr)
theorem exists_least (p : Nat → Prop) (h : ∃ k, p k) : ∃ k, p k ∧ ∀ m, p m → k ≤ m := by
 obtain ⟨k, hk⟩ := h
 induction k using Nat.strongRecOn with
 | _ k ih =>
  by_cases c : ∃ m, m < k ∧ p m
  ·
   obtain ⟨m, h1, h2⟩ := c
   exact ih m h1 h2
  ·
   exact ⟨k, hk, fun m hm => by
    by_cases c' : m < k
    ·
     exact absurd ⟨m, c', hm⟩ c
    ·
     omega⟩
theorem awp_loop {c : Code} (I : Nat → Env → St → Prop) (k0 : Nat) (h0 : I k0 e st) (round : ∀ k e s, I k e s → ∀ K : Env → St → Prop, (∀ k' e' s', k' < k → I k' e' s' → K e' s') → awp P w0 n M0 W0 ro c (thenA K Q) e s) : awp P w0 n M0 W0 ro (.loop c) Q e st := by
 intro m M a w hr
 let J : Nat → Act → World → Prop := fun k a' w' => ∃ M' e' s', At w0 n M0 W0 e' s' a' w' M' ∧ I k e' s'
 let μ : Act → World → Nat := fun a' w' => by
  classical exact if h : ∃ k, J k a' w' then Classical.choose (exists_least (fun k => J k a' w') h) else 0
 have hμ : ∀ a' w' k, J k a' w' → J (μ a' w') a' w' ∧ μ a' w' ≤ k := by
  intro a' w' k hk
  have hex : ∃ k, J k a' w' := ⟨k, hk⟩
  have := Classical.choose_spec (exists_least (fun k => J k a' w') hex)
  have e : μ a' w' = Classical.choose (exists_least (fun k => J k a' w') hex) := by simp only [μ, dif_pos hex]
  rw [e]
  exact ⟨this.1, this.2 k hk⟩
 refine wpIn_loop (fun a' w' => ∃ k, J k a' w') μ ⟨k0, M, e, st, hr, h0⟩ ?_
 rintro a1 w1 ⟨k, hk⟩
 obtain ⟨⟨M1, e1, s1, r1, i1⟩, _⟩ := hμ a1 w1 k hk
 refine wpIn_mono (round _ e1 s1 i1 (fun e' s' => ∃ k', k' < _ ∧ I k' e' s') (fun k' _ _ h1 h2 => ⟨k', h1, h2⟩) m M1 a1 w1 r1) ?_
 rintro ex a' w' ⟨M', e', s', h1, h3⟩
 cases ex with
 | normal =>
  obtain ⟨k', hlt, hI⟩ := h3
  have hJ : J k' a' w' := ⟨M', e', s', h1, hI⟩
  exact ⟨⟨k', hJ⟩, Nat.lt_of_le_of_lt (hμ a' w' k' hJ).2 hlt⟩
 | _ => exact ⟨M', e', s', h1, h3⟩
def Own.under (nr : Nat) : Own → Prop
 | .row id => id < nr
 | _ => True
inductive Under (nb nr nl : Nat) : AV → Prop
 | val (v : Value) : Under nb nr nl (.val v)
 | list {xs : List AV} {o : Own} (h : ∀ x ∈ xs, Under nb nr nl x) (ho : o.under nr) : Under nb nr nl (.list xs o)
 | elem {x : AV} {k : Nat} (h : Under nb nr nl x) : Under nb nr nl (.elem x k)
 | box {l k : Nat} (h : l < nb) : Under nb nr nl (.box l k)
 | clo {f : FuncId} {xs : List AV} (h : ∀ x ∈ xs, Under nb nr nl x) : Under nb nr nl (.clo f xs)
 | agg {xs : List AV} (h : ∀ x ∈ xs, Under nb nr nl x) : Under nb nr nl (.agg xs)
 | tup {xs : List AV} (h : ∀ x ∈ xs, Under nb nr nl x) : Under nb nr nl (.tup xs)
 | yld {k : Nat} (h : k < nl) : Under nb nr nl (.yld k)
 | mp {k : Nat} (h : k < nl) : Under nb nr nl (.mp k)
 | tab {l : List (Int × FuncId)} : Under nb nr nl (.tab l)
 | vec {id ver o n : Nat} (h : id < nr) : Under nb nr nl (.vec id ver o n)
 | vel {id ver o : Nat} (h : id < nr) : Under nb nr nl (.vel id ver o)
theorem under_val {nb nr nl : Nat} (v : Value) : Under nb nr nl (.val v) ↔ True := iff_true_intro (.val v)
theorem under_list {nb nr nl : Nat} {xs : List AV} {o : Own} : Under nb nr nl (.list xs o) ↔ (∀ x ∈ xs, Under nb nr nl x) ∧ o.under nr := ⟨fun h => by cases h with | list a b => exact ⟨a, b⟩, fun h => .list h.1 h.2⟩
theorem under_elem {nb nr nl : Nat} {x : AV} {k : Nat} : Under nb nr nl (.elem x k) ↔ Under nb nr nl x := ⟨fun h => by cases h; assumption, .elem⟩
theorem under_box {nb nr nl l k : Nat} : Under nb nr nl (.box l k) ↔ l < nb := ⟨fun h => by cases h; assumption, .box⟩
theorem under_clo {nb nr nl : Nat} {f : FuncId} {xs : List AV} : Under nb nr nl (.clo f xs) ↔ ∀ x ∈ xs, Under nb nr nl x := ⟨fun h => by cases h; assumption, .clo⟩
theorem under_agg {nb nr nl : Nat} {xs : List AV} : Under nb nr nl (.agg xs) ↔ ∀ x ∈ xs, Under nb nr nl x := ⟨fun h => by cases h; assumption, .agg⟩
theorem under_tup {nb nr nl : Nat} {xs : List AV} : Under nb nr nl (.tup xs) ↔ ∀ x ∈ xs, Under nb nr nl x := ⟨fun h => by cases h; assumption, .tup⟩
theorem under_yld {nb nr nl k : Nat} : Under nb nr nl (.yld k) ↔ k < nl := ⟨fun h => by cases h; assumption, .yld⟩
theorem under_mp {nb nr nl k : Nat} : Under nb nr nl (.mp k) ↔ k < nl := ⟨fun h => by cases h; assumption, .mp⟩
theorem under_vec {nb nr nl id ver o n : Nat} : Under nb nr nl (.vec id ver o n) ↔ id < nr := ⟨fun h => by cases h; assumption, .vec⟩
theorem under_vel {nb nr nl id ver o : Nat} : Under nb nr nl (.vel id ver o) ↔ id < nr := ⟨fun h => by cases h; assumption, .vel⟩
def Mem.cut (M : Mem) (nb nr nl : Nat) : Mem := { M with N := nb, NR := nr, NL := nl }
theorem R.cut {M : Mem} {w : World} {v : Value} {x : AV} {nb nr nl : Nat} (hnl : nl ≤ M.NL) (h : R w0 M w v x) (hu : Under nb nr nl x) : R w0 (M.cut nb nr nl) w v x := by
 induction h with
 | flat h => exact .flat h
 | agg hl h1 _ ih => exact .agg hl h1 fun i a b => ih i a b (under_agg.1 hu _ (List.getElem_mem _))
 | tup hl _ ih => exact .tup hl fun i a b => ih i a b (under_tup.1 hu _ (List.getElem_mem _))
 | nil ho => exact .nil ho
 | emp ho => exact .emp ho
 | @list b off cap xs o sz us hc hm hcell _ ho ih =>
  obtain ⟨h1, h2⟩ := under_list.1 hu
  refine .list sz us hc hm hcell (fun i hi => ih i hi (h1 _ (List.getElem_mem _))) ?_
  cases o with
  | none => trivial
  | full => exact ho
  | seed => exact ho
  | row id => exact ⟨h2, ho.2⟩
 | elem u k hcell _ ih => exact .elem u k hcell (ih (under_elem.1 hu))
 | box _ => exact .box (M := M.cut nb nr nl) (under_box.1 hu)
 | clo hl _ ih => exact .clo hl fun i a b => ih i a b (under_clo.1 hu _ (List.getElem_mem _))
 | yld _ => exact .yld (M := M.cut nb nr nl) (under_yld.1 hu)
 | mp _ => exact .mp (M := M.cut nb nr nl) (under_mp.1 hu)
 | tab h hk hn => exact .tab (M := M.cut nb nr nl) h hk fun k q => hn k (Nat.lt_of_lt_of_le q hnl)
 | vec hi hv h => exact .vec (M := M.cut nb nr nl) (under_vec.1 hu) hv h
 | vel hi hv h => exact .vel (M := M.cut nb nr nl) (under_vel.1 hu) hv h
theorem R.under {M : Mem} {w : World} {v : Value} {x : AV} (h : R w0 M w v x) : Under M.N M.NR M.NL x := by
 have key : ∀ {cs : Array Value} {xs : List AV}, cs.size = xs.length → (∀ i (_ : i < cs.size) (h2 : i < xs.length), Under M.N M.NR M.NL xs[i]) → ∀ x ∈ xs, Under M.N M.NR M.NL x := by
  intro cs xs hl h x hx
  obtain ⟨i, hi, rfl⟩ := List.mem_iff_getElem.1 hx
  exact h i (hl ▸ hi) hi
 induction h with
 | flat h => exact .val _
 | agg hl h1 _ ih => exact .agg (key hl ih)
 | tup hl _ ih => exact .tup (key hl ih)
 | nil ho => exact .list (fun _ h => by cases h) (by rename_i o; cases o <;> first | trivial | exact absurd rfl (ho _))
 | emp ho => exact .list (fun _ h => by cases h) (by rename_i o; cases o <;> first | trivial | exact absurd rfl (ho _))
 | @list b off cap xs o sz us hc hm hcell _ ho ih =>
  refine .list (fun x hx => ?_) ?_
  ·
   obtain ⟨i, hi, rfl⟩ := List.mem_iff_getElem.1 hx
   exact ih i hi
  ·
   cases o with
   | row id => exact ho.1
   | _ => trivial
 | elem u k hcell _ ih => exact .elem ih
 | box h => exact .box h
 | clo hl _ ih => exact .clo (key hl ih)
 | yld h => exact .yld h
 | mp h => exact .mp h
 | tab _ _ _ => exact .tab
 | vec hi _ _ => exact .vec hi
 | vel hi _ _ => exact .vel hi
def calmE (nb nr nl : Nat) : Env → Prop
 | [] => True
 | (_, c, v) :: e => (c = true → Under nb nr nl v) ∧ calmE nb nr nl e
theorem calmE_look {nb nr nl : Nat} : ∀ {e : Env} {s : Nat} {x : Bool × AV}, calmE nb nr nl e → look e s = some x → x.1 = true → Under nb nr nl x.2
 | (k, c, v) :: e, s, x, h, hl, ht => by
  simp only [look] at hl
  by_cases q : k = s
  ·
   rw [if_pos q] at hl; cases hl; exact h.1 ht
  ·
   rw [if_neg q] at hl; exact calmE_look h.2 hl ht
def St.cut (s : St) (nb nr nl : Nat) : St := ⟨s.boxes.take nb, s.rows.take nr, s.loops.take nl⟩
def RowA.cells : RowA → List AV
 | .vec _ _ cs => cs
 | _ => []
structure Calm (nb nr nl : Nat) (s : St) : Prop where
 rows : ∀ r ∈ s.rows, ∀ x ∈ r.cells, Under nb nr nl x
 boxes : ∀ cs ∈ s.boxes, ∀ x ∈ cs, Under nb nr nl x
 loops : ∀ la ∈ s.loops, ∀ k x, look la.e k = some x → x.1 = true → Under nb nr nl x.2
theorem RelSt.calm {M : Mem} {w : World} (h : RelSt w0 M st w) : Calm st.boxes.length st.rows.length st.loops.length st where
 rows := by
  intro r hr x hx
  obtain ⟨l, hl, rfl⟩ := List.mem_iff_getElem.1 hr
  have hk := h.row l _ (List.getElem?_eq_getElem hl)
  cases hrow : st.rows[l] with
  | vec ver sz cs =>
   rw [hrow] at hk hx
   obtain ⟨_, _, _, _, _, _, _, c, _, _, _, hsz, _, hR⟩ := hk
   obtain ⟨i, hi, rfl⟩ := List.mem_iff_getElem.1 hx
   have hi' : i < cs.length := hi
   have := (hR i (by omega) hi').under
   rwa [h.N, h.NR, h.loop.NL] at this
  | _ => rw [hrow] at hx; cases hx
 boxes := by
  intro cs hcs x hx
  obtain ⟨l, hl, rfl⟩ := List.mem_iff_getElem.1 hcs
  obtain ⟨_, _, c, _, _, hsz, _, hR⟩ := h.box l _ (List.getElem?_eq_getElem hl)
  obtain ⟨i, hi, rfl⟩ := List.mem_iff_getElem.1 hx
  have := (hR i (hsz ▸ hi) hi).under
  rwa [h.N, h.NR, h.loop.NL] at this
 loops := by
  intro la hla k x hx ht
  obtain ⟨l, hl, rfl⟩ := List.mem_iff_getElem.1 hla
  have := (h.loop.record l _ (List.getElem?_eq_getElem hl)).2.ent k x hx
  obtain ⟨v, this⟩ := this
  unfold entryOk at this
  rw [if_pos ht] at this
  have := this.under
  rwa [h.N, h.NR, h.loop.NL] at this
theorem entryOk.cut {M : Mem} {w : World} {nb nr nl : Nat} (hnl : nl ≤ M.NL) {v : Value} {x : Bool × AV} (h : entryOk w0 M w v x) (hu : x.1 = true → Under nb nr nl x.2) : entryOk w0 (M.cut nb nr nl) w v x := by
 unfold entryOk at *
 split
 ·
  rename_i c; rw [if_pos c] at h; exact h.cut hnl (hu c)
 ·
  rename_i c; rw [if_neg c] at h; exact h
theorem RelSt.cut {M : Mem} {w : World} (h : RelSt w0 M st w) {nb nr nl : Nat} (h1 : nb ≤ st.boxes.length) (h2 : nr ≤ st.rows.length) (h3 : nl ≤ st.loops.length) (hc : Calm nb nr nl (st.cut nb nr nl)) :
  RelSt w0 (M.cut nb nr nl) (st.cut nb nr nl) w where
 below := h.below
 N := by simp [Mem.cut, St.cut]; omega
 NR := by simp [Mem.cut, St.cut]; omega
 top := h.top
 inj := fun l l' k k' e => h.inj l l' (by have := h.N; simp only [Mem.cut] at k; omega) (by have := h.N; simp only [Mem.cut] at k'; omega) e
 box := fun l cs hl => by
  simp only [St.cut] at hl
  have hl' : l < nb := by
   have := (List.getElem?_eq_some_iff.1 hl).1
   simp at this; omega
  have hmem : cs ∈ st.boxes.take nb := List.mem_of_getElem? hl
  rw [List.getElem?_take_of_lt hl'] at hl
  obtain ⟨a1, a2, c, ty, a3, a4, a5, a6⟩ := h.box l cs hl
  exact ⟨a1, a2, c, ty, a3, a4, a5, fun i b1 b2 => (a6 i b1 b2).cut (by have := h.loop.NL; omega) (hc.boxes cs hmem _ (List.getElem_mem _))⟩
 row := fun id x hk => by
  simp only [St.cut] at hk
  have hid : id < nr := by
   have := (List.getElem?_eq_some_iff.1 hk).1
   simp at this; omega
  have hmem : x ∈ st.rows.take nr := List.mem_of_getElem? hk
  rw [List.getElem?_take_of_lt hid] at hk
  have hrow := h.row id x hk
  have hNle : nb ≤ M.N := by have := h.N; omega
  cases x with
  | grow n sz =>
   obtain ⟨a1, a2, a3, a4, a5, a6, a7, a8⟩ := hrow
   exact ⟨a1, a2, a3, a4, fun l hl => a5 l (Nat.lt_of_lt_of_le hl hNle), a6, a7, a8⟩
  | vec v sz cs =>
   obtain ⟨a1, a2, a3, a4, a5, a6, a7, c, ty, a8, a9, b1, b2, b3⟩ := hrow
   exact ⟨a1, a2, a3, a4, fun l hl => a5 l (Nat.lt_of_lt_of_le hl hNle), a6, a7, c, ty, a8, a9, b1, b2, fun i h1 h2 => (b3 i h1 h2).cut (by have := h.loop.NL; omega) (hc.rows _ hmem _ (List.getElem_mem _))⟩
  | dead v =>
   obtain ⟨a1, a2, a3, a4⟩ := hrow
   exact ⟨a1, a2, fun l hl => a3 l (Nat.lt_of_lt_of_le hl hNle), a4⟩
 rowinj := fun i j hi hj e => h.rowinj i j (by have := h.NR; simp only [Mem.cut] at hi; omega) (by have := h.NR; simp only [Mem.cut] at hj; omega) e
 loop := {
  NL := by simp [Mem.cut, St.cut]; omega
  inj := fun i j hi hj e => h.loop.inj i j (by have := h.loop.NL; simp only [Mem.cut] at hi; omega) (by have := h.loop.NL; simp only [Mem.cut] at hj; omega) e
  record := fun k la hk => by
   simp only [St.cut] at hk
   have hk' : k < nl := by
    have := (List.getElem?_eq_some_iff.1 hk).1
    simp at this; omega
   have hmem : la ∈ st.loops.take nl := List.mem_of_getElem? hk
   rw [List.getElem?_take_of_lt hk'] at hk
   obtain ⟨a1, a2⟩ := h.loop.record k la hk
   exact ⟨a1, a2.map (fun _ q _ => q) fun s x v hs a9 => a9.cut (by have := h.loop.NL; omega) (hc.loops la hmem s x hs)⟩ }
theorem Ext.cut {M1 : Mem} {w1 w2 : World} {M2 : Mem} (h : Ext w0 M1 w1 M2 w2) {nb nr nl : Nat} (h1 : M1.N ≤ nb) (h2 : M1.NR ≤ nr) (h3 : M1.NL ≤ nl) (h4 : nl ≤ M2.NL) (h5 : nb ≤ M2.N) (h6 : nr ≤ M2.NR) : Ext w0 M1 w1 (M2.cut nb nr nl) w2 :=
 ⟨h1, h.bx, h2, h.rows, h.cell, h.size, h3, h.lb, fun k a b => h.lnew k a (Nat.lt_of_lt_of_le b h4), h.objs, fun b q1 q2 => by
  obtain ⟨a1, a2, a3⟩ := h.keep b q1 q2
  exact ⟨a1, ⟨fun l hl => a2.1 l (Nat.lt_of_lt_of_le hl h5), fun i hi => a2.2.1 i (Nat.lt_of_lt_of_le hi h6), fun k hk => a2.2.2 k (Nat.lt_of_lt_of_le hk h4)⟩, a3⟩⟩
theorem Rel.cut {M : Mem} {a : Act} {w : World} (h : Rel w0 n M e st a w) {nb nr nl : Nat} (h1 : nb ≤ st.boxes.length) (h2 : nr ≤ st.rows.length) (h3 : nl ≤ st.loops.length) (hc : Calm nb nr nl (st.cut nb nr nl)) (he : calmE nb nr nl e) :
  Rel w0 n (M.cut nb nr nl) e (st.cut nb nr nl) a w :=
 ⟨h.st.cut h1 h2 h3 hc, h.size, fun s x hs => (h.env s x hs).cut (by have := h.st.loop.NL; omega) (calmE_look he hs)⟩
theorem awp_cut {c : Code} (nb nr nl : Nat) (h1 : nb ≤ st.boxes.length) (h2 : nr ≤ st.rows.length) (h3 : nl ≤ st.loops.length) (k1 : M0.N ≤ nb) (k2 : M0.NR ≤ nr) (k3 : M0.NL ≤ nl) (hc : Calm nb nr nl (st.cut nb nr nl)) (he : calmE nb nr nl e)
  (h : awp P w0 n M0 W0 ro c Q e (st.cut nb nr nl)) : awp P w0 n M0 W0 ro c Q e st :=
 fun m M a w hr => h m _ a w ⟨hr.rel.cut h1 h2 h3 hc he, hr.ext.cut k1 k2 k3 (by rw [hr.rel.st.loop.NL]; exact h3) (by rw [hr.rel.st.N]; exact h1) (by rw [hr.rel.st.NR]; exact h2), hr.marks⟩
end
section
variable {P : Program} {w0 : World} {n : Nat} {M : Mem} {e : Env} {st : St} {a : Act} {w : World}
def resOk (P : Program) (e : Env) (st : St) : ResultVar → Prop
 | .tmp t => argOk e true (.tmp t)
 | .cell t ty => (evOp P e true st (.load ty (.tmp t))).1
def resV (P : Program) (e : Env) (st : St) : ResultVar → AV
 | .tmp t => (argV e (.tmp t)).pub
 | .cell t ty => (evOp P e true st (.load ty (.tmp t))).2.1.pub
def retV : List AV → AV
 | [x] => x
 | l => .tup l
def bodyA (P : Program) (rs : List ResultVar) (Post : AV → St → Prop) : AQ := fun x e st =>
 match x with
 | .normal | .ret => (∀ r ∈ rs, resOk P e st r) ∧ Post (retV (rs.map (resV P e st))) st
 | _ => False
theorem load_sound (h : Rel w0 n M e st a w) (t : TypeId) (x : Operand) (hob : (evOp P e true st (.load t x)).1) :
  ∃ v, (do loadVar t (← asAddr (a.eval x)) : Sem Value).run P w = .ok v w ∧ R w0 M w v (evOp P e true st (.load t x)).2.1 := by
 unfold evOp at hob ⊢
 cases ht : tyT P t with
 | none => simp [ht] at hob
 | some p =>
  obtain ⟨sz, ag⟩ := p
  simp only [ht] at hob ⊢
  obtain ⟨hx, hr, hle, h1⟩ := hob
  obtain ⟨b, o, ev, hone, hc⟩ := ref_spec h.st (arg_R h hx) hr
  rw [ev]
  have key : ∀ j, j < sz → ∃ u, w.cell? ⟨b, o + offAt (argV e x) + j, none⟩ = some u ∧ ∀ hj, R w0 M w u ((cellsAt st (argV e x))[offAt (argV e x) + j]'hj) := by
   intro j hj
   obtain ⟨u, h2, h3⟩ := hc (offAt (argV e x) + j) (by omega)
   exact ⟨u, by rw [← h2, Nat.add_assoc], fun _ => h3⟩
  let f : Nat → Value := fun j => ((w.cell? ⟨b, o + offAt (argV e x) + j, none⟩).getD undef)
  have hf : ∀ j, j < sz → w.cell? ⟨b, o + offAt (argV e x) + j, none⟩ = some (f j) := fun j hj => by
   obtain ⟨u, hu, _⟩ := key j hj
   simp [f, hu]
  refine ⟨if ag then .agg ((List.range sz).map f).toArray else f 0, ?_, (loadA_R hone hle h1 (fun j hj => ?_))⟩
  ·
   simp only [asAddr, Sem.run_bind, Sem.run_pure, Result.andThen_ok]
   exact run_loadVar' ht hf h1
  ·
   by_cases hjs : j < sz
   ·
    obtain ⟨u, hu, hR⟩ := key j hjs
    have : f j = u := by simp [f, hu]
    rw [this]
    exact hR hj
   ·
    obtain ⟨u, hu, hR⟩ := hc (offAt (argV e x) + j) hj
    have : f j = u := by simp [f, Nat.add_assoc, hu]
    rw [this]
    exact hR
theorem run_mapM_at {α : Type} (f : α → Sem Value) (g : α → Value) : ∀ (l : List α), (∀ x ∈ l, (f x).run P w = .ok (g x) w) → (l.mapM f).run P w = .ok (l.map g) w
 | [], _ => by simp
 | x :: l, h => by simp [h x (by simp), run_mapM_at f g l (fun y hy => h y (by simp [hy]))]
theorem retV_sound {V : ResultVar → AV} (rs : List ResultVar) (g : ResultVar → Value) (hg : ∀ r ∈ rs, R w0 M w (g r) (V r)) :
  R w0 M w (if h : (rs.map g).toArray.size = 1 then (rs.map g).toArray[0] else .tuple (rs.map g).toArray) (retV (rs.map V)) := by
 match rs, hg with
 | [], _ => exact .tup rfl (fun i h1 _ => absurd h1 (by simp))
 | [r], hg => exact (hg r (by simp))
 | r :: r' :: l, hg =>
  have : ¬ ((List.map g (r :: r' :: l)).toArray.size = 1) := by simp
  rw [dif_neg this]
  refine .tup (by simp) (fun i h1 h2 => ?_)
  have hi : i < (r :: r' :: l).length := by simpa using h2
  have e1 : (List.map g (r :: r' :: l)).toArray[i] = g (r :: r' :: l)[i] := by rw [List.getElem_toArray, List.getElem_map]
  have e2 : (List.map V (r :: r' :: l))[i]'h2 = V (r :: r' :: l)[i] := by rw [List.getElem_map]
  have := (hg (r :: r' :: l)[i] (List.getElem_mem _))
  rw [← e1, ← e2] at this
  exact this
theorem res_sound (h : Rel w0 n M e st a w) {fn : Func} {rs : List ResultVar} (hfn : fn.results = rs.toArray) (hrs : ∀ r ∈ rs, resOk P e st r) :
  ∃ v, (results fn a.tmps).run P w = .ok v w ∧ R w0 M w v (retV (rs.map (resV P e st))) := by
 let f : ResultVar → Sem Value := fun
  | .tmp t => pure (a.tmps.getD t undef)
  | .cell b t => do loadVar t (← asAddr (a.tmps.getD b undef))
 have hone : ∀ r ∈ rs, ∃ v, (f r).run P w = .ok v w ∧ R w0 M w v (resV P e st r) := by
  intro r hr
  have := hrs r hr
  cases r with
  | tmp t => exact ⟨_, rfl, (arg_R h (x := .tmp t) this).pub⟩
  | cell b t =>
   obtain ⟨v, h1, h2⟩ := load_sound h t (.tmp b) this
   exact ⟨v, h1, h2.pub⟩
 classical
 let g : ResultVar → Value := fun r => if hr : r ∈ rs then Classical.choose (hone r hr) else undef
 have hg : ∀ r ∈ rs, (f r).run P w = .ok (g r) w ∧ R w0 M w (g r) (resV P e st r) := by
  intro r hr
  have := Classical.choose_spec (hone r hr)
  have e : g r = Classical.choose (hone r hr) := by simp only [g, dif_pos hr]
  rw [e]; exact this
 have hm : (fn.results.mapM f).run P w = .ok ((rs.map g).toArray) w := by
  rw [hfn, Array.mapM_eq_mapM_toList]
  simp only [Sem.run_map, run_mapM_at f g rs (fun r hr => (hg r hr).1), Result.andThen_ok]
 have hrun : (results fn a.tmps).run P w = .ok (if h : (rs.map g).toArray.size = 1 then (rs.map g).toArray[0] else .tuple (rs.map g).toArray) w := by
  unfold results
  simp only [Sem.run_bind]
  refine Eq.trans (congrArg (fun x => Result.andThen x _) hm) ?_
  simp only [Result.andThen_ok, Sem.run_pure]
 refine ⟨_, hrun, ?_⟩
 exact retV_sound rs g fun r hr => (hg r hr).2
def argsE : Nat → List AV → Env
 | _, [] => []
 | k, x :: l => (k, true, x) :: argsE (k + 1) l
theorem look_argsE : ∀ (l : List AV) (k s : Nat) (x : Bool × AV), look (argsE k l) s = some x → ∃ i, s = k + i ∧ ∃ y, l[i]? = some y ∧ x = (true, y)
 | [], _, _, _, h => by cases h
 | y :: l, k, s, x, h => by
  simp only [argsE, look] at h
  by_cases c : k = s
  ·
   rw [if_pos c] at h; cases h; exact ⟨0, c.symm, y, rfl, rfl⟩
  ·
   rw [if_neg c] at h
   obtain ⟨i, h1, z, h2, h3⟩ := look_argsE l (k + 1) s x h
   exact ⟨i + 1, by omega, z, h2, h3⟩
theorem leaves_marks {M0 : Mem} {W0 : World} {fn : Func} {RR : Ending → World → Prop} {m : Nat} {tmps : Array Value} : ∀ (Ds : List Nat) (M : Mem) (w : World), Ds.Nodup → (∀ D ∈ Ds, W0.heap.size ≤ D ∧ w.heap[D]? = some (.deferred (some []))) →
  W0.heap.size ≥ w0.heap.size → RelSt w0 M st w → Ext w0 M0 W0 M w →
  (∀ w', RelSt w0 M st w' → Ext w0 M0 W0 M w' → (∀ v x, R w0 M w v x → R w0 M w' v x) → ∃ v, (results fn tmps).run P w' = .ok v w' ∧ RR (.returned v) w') →
  LeavesInM (FW none) m P fn tmps RR (Ds.map fun D => { target := .collected D, args := #[] }) .returning w
 | [], M, w, _, _, _, hr, hx, hk => hk w hr hx fun _ _ h => h
 | D :: Ds, M, w, hn, hD, hw, hr, hx, hk => by
  obtain ⟨d1, d2⟩ := hD D (by simp)
  have hne : ∀ k, k < M.NL → M.lb k ≠ D := by
   intro k hk' e
   have hk'' : k < st.loops.length := by rw [← hr.loop.NL]; exact hk'
   obtain ⟨_, hr'⟩ := hr.loop.record k _ (List.getElem?_eq_getElem hk'')
   rw [e] at hr'
   exact hr'.nodef d2
  have hs : SameW M w (w.putObj D (.deferred none)) := ⟨fun b off v => cell_putObj d2 rfl, fun b es ck hb _ => by rw [World.putObj_heap_other (fun e => by subst e; rw [d2] at hb; cases hb)]; exact hb⟩
  have hx' : Ext w0 M0 W0 M (w.putObj D (.deferred none)) :=
   ⟨hx.N, hx.bx, hx.NR, hx.rows, fun b off v h1 h2 => let ⟨a, b'⟩ := hx.cell b off v h1 h2; ⟨hs.1 _ _ _ a, b'⟩, by have := hx.size; simpa using this, hx.NL, hx.lb, hx.lnew, fun b o h1 h2 h3 => by
    have hb : b < W0.heap.size := (Array.getElem?_eq_some_iff.1 h1).1
    rw [World.putObj_heap_other (by omega)]
    exact hx.objs b o h1 h2 h3, fun b q1 q2 => by
    obtain ⟨a1, a2⟩ := hx.keep b q1 q2
    rw [World.putObj_heap_other (by omega)]
    exact ⟨a1, a2⟩⟩
  refine ⟨by simp, .inl ⟨D, _, rfl, run_takeDeferred d2, ?_⟩⟩
  have hn' := List.nodup_cons.1 hn
  refine leaves_marks Ds M _ hn'.2 (fun E hE => ?_) hw (hr.putObj _ d2 (by omega) hne) hx' (fun w' k1 k2 k3 => hk w' k1 k2 fun v x h => k3 v x (h.same hs))
  obtain ⟨e1, e2⟩ := hD E (List.mem_cons_of_mem _ hE)
  have hne' : E ≠ D := fun e => hn'.1 (by rw [← e]; exact hE)
  exact ⟨e1, by rw [World.putObj_heap_other hne']; exact e2⟩
theorem acalls_of {f : FuncId} {fn : Func} {c : Code} {args : List AV} {rs : List ResultVar} {Post : AV → St → Prop} (hf : P.funcs[f]? = some fn) (hb : fn.body = some c) (hrs : fn.results = rs.toArray) (hn : fn.ntmps = n)
  (hen : Enters P f) (ha : args.length ≤ n)
  (h : ∀ (M0 : Mem) (W0 : World), M0.N = st.boxes.length → M0.NR = st.rows.length → M0.NL = st.loops.length → Calm st.boxes.length st.rows.length st.loops.length st → (∀ x ∈ args, Under st.boxes.length st.rows.length st.loops.length x) →
   awp P w0 n M0 W0 none c (bodyA P rs Post) (argsE 0 args) st) : ACalls P w0 f args st Post := by
 refine ⟨hen, fun M w vals hst hrow => ?_⟩
 have hsz : vals.size = args.length := hrow.1
 have hu : ∀ x ∈ args, Under st.boxes.length st.rows.length st.loops.length x := by
  intro x hx
  obtain ⟨i, hi, rfl⟩ := List.mem_iff_getElem.1 hx
  have := (hrow.get (i := i) (Array.getElem?_eq_getElem (by omega)) (List.getElem?_eq_getElem hi)).under
  rwa [hst.N, hst.NR, hst.loop.NL] at this
 have hrel : Rel w0 n M (argsE 0 args) st { tmps := vals ++ Array.replicate (fn.ntmps - vals.size) undef, defers := [] } w := by
  refine ⟨hst, by simp; omega, fun s x hs => ?_⟩
  obtain ⟨i, h1, y, h2, rfl⟩ := look_argsE _ _ _ _ hs
  have hi : i < args.length := (List.getElem?_eq_some_iff.1 h2).1
  have hs' : s = i := by omega
  subst hs'
  simp only [entryOk, if_true]
  have e1 : (vals ++ Array.replicate (fn.ntmps - vals.size) undef).getD s undef = vals[s]'(by omega) := by
   simp [Array.getD_eq_getD_getElem?, Array.getElem?_append_left (show s < vals.size by omega), Array.getElem?_eq_getElem (show s < vals.size by omega)]
  rw [e1]
  exact hrow.get (Array.getElem?_eq_getElem (by omega)) h2
 refine calls_of_FW (n := 0) (callsIn_of_wp_marks hf hb trivial (wpIn_mono (h M w hst.N hst.NR hst.loop.NL hst.calm hu 0 M _ w ⟨hrel, .refl _ _ _, [], by simp⟩) ?_))
 rintro ex a' w' ⟨M', e', s', h1, h3⟩
 have done : ∀ (hr : ∀ r ∈ rs, resOk P e' s' r) (hp : Post (retV (rs.map (resV P e' s'))) s'),
   LeavesInM (FW none) 0 P fn a'.tmps (Comes' w0 M w Post) a'.defers .returning w' := by
  intro hr hp
  obtain ⟨Ds, m1, m2, m3⟩ := h1.marks
  rw [m2]
  refine leaves_marks Ds M' w' m1 m3 hst.base_le h1.rel.st h1.ext fun w2 k1 k2 k3 => ?_
  have hrel2 : Rel w0 n M' e' s' a' w2 := ⟨k1, h1.rel.size, fun s x hs => by
   have := h1.rel.env s x hs
   unfold entryOk at *
   split
   ·
    rename_i c; rw [if_pos c] at this; exact k3 _ _ this
   ·
    rename_i c; rw [if_neg c] at this; exact this⟩
  obtain ⟨v, q1, q2⟩ := res_sound hrel2 hrs hr
  exact ⟨v, q1, v, M', _, s', rfl, hp, k2, k1, q2⟩
 cases ex with
 | normal => exact done h3.1 h3.2
 | ret => exact done h3.1 h3.2
 | _ => exact h3.elim
def finA (st : St) (Post : AV → St → Prop) (r : AV) (s : St) : Prop :=
 st.boxes.length ≤ s.boxes.length ∧ st.rows.length ≤ s.rows.length ∧ st.loops.length ≤ s.loops.length ∧ Calm st.boxes.length st.rows.length st.loops.length (s.cut st.boxes.length st.rows.length st.loops.length) ∧
  Under st.boxes.length st.rows.length st.loops.length r ∧ Post r (s.cut st.boxes.length st.rows.length st.loops.length)
theorem ACalls.fin {f : FuncId} {args : List AV} {Post : AV → St → Prop} (h : ACalls P w0 f args st (finA st Post)) : ACalls P w0 f args st Post := by
 refine ⟨h.1, fun M w vals hst hrow => (h.2 M w vals hst hrow).mono ?_⟩
 rintro en w' ⟨v, M', r, st', h1, ⟨b1, b2, b3, b4, b5, b6⟩, h3, h4, h5⟩
 exact ⟨v, M'.cut st.boxes.length st.rows.length st.loops.length, r, _, h1, b6, h3.cut (by have := hst.N; omega) (by have := hst.NR; omega) (by have := hst.loop.NL; omega) (by rw [h4.loop.NL]; exact b3) (by rw [h4.N]; exact b1) (by rw [h4.NR]; exact b2), h4.cut b1 b2 b3 b4, h5.cut (by have := h4.loop.NL; omega) b5⟩
theorem enters_of {f : FuncId} {fn : Func} {c : Code} (hf : P.funcs[f]? = some fn) (hb : fn.body = some c) (hn : fn.name ≠ "runtime.NumGoroutine") : Enters P f := by
 intro args w
 simp [callFunc, hf, hb, hn]
end
section
variable {P : Program} {w0 : World} {n : Nat}
def OneOk (P : Program) (w0 : World) (e1 : Env) (c : Bool) (st : St) (o : Oper) (v : AV) : Prop :=
 match o.op with
 | .call ⟨.value f, args, _⟩ => c = true → argOk e1 true f ∧ (∀ x ∈ args.toList, argOk e1 true x) ∧ VCalls P w0 (argV e1 f) (args.toList.map fun x => argP e1 (argV e1 x)) st fun r s => r = v ∧ s = st
 | op => (c = true → (evOp P e1 c st op).1) ∧ (evOp P e1 c st op).2.1 = v ∧ (evOp P e1 c st op).2.2 = st
theorem oneOk_other {e1 : Env} {c : Bool} {st : St} {o : Oper} {v : AV} (hc : ¬ isCallF o.op = true) :
  OneOk P w0 e1 c st o v = ((c = true → (evOp P e1 c st o.op).1) ∧ (evOp P e1 c st o.op).2.1 = v ∧ (evOp P e1 c st o.op).2.2 = st) := by
 obtain ⟨dst, op, type, pos, after, guard⟩ := o
 cases op with
 | call cc =>
  obtain ⟨callee, args, ts⟩ := cc
  cases callee with
  | value f => exact absurd rfl hc
  | _ => rfl
 | _ => rfl
theorem oneOk_sound {M : Mem} {e1 : Env} {st : St} {a : Act} {w : World} (h : Rel w0 n M e1 st a w) (ro : Option Nat) (m : Nat) {all : List Oper} {o : Oper} {v : AV} (hg : guardOk all e1 o.guard) (hv : OneOk P w0 e1 (guardC all e1 o.guard) st o v)
  (Q : Exit → Act → World → Prop) (K : Act → World → Prop) (hK : ∀ u w' M', Ext w0 M w M' w' → RelSt w0 M' st w' → entryOk w0 M' w' u (guardC all e1 o.guard, v) → K (a.put o.dst u) w') :
  if Region.wanted o (yielded all.toArray a.tmps) then o.wpIn (FW ro) m P a w K Q else (∀ f, o.about P w a.eval = some f → (FW ro).fn f) ∧ K (a.put o.dst undef) w := by
 rw [wanted_spec h hg]
 cases hcc : guardC all e1 o.guard with
 | true =>
  rw [hcc] at hv hK
  rw [if_pos rfl]
  by_cases hc : isCallF o.op = true
  ·
   obtain ⟨dst, op, type, pos, after, guard⟩ := o
   cases op <;> try cases hc
   rename_i cc
   obtain ⟨callee, args, ts⟩ := cc
   cases callee <;> try cases hc
   rename_i f
   obtain ⟨b1, b2, b3⟩ := hv rfl
   refine call_sound h ro m b1 b2 b3 Q _ (fun r s hp u w' M' hx hst hu => ?_)
   obtain ⟨rfl, rfl⟩ := hp
   exact hK u w' M' hx hst hu
  ·
   rw [oneOk_other hc] at hv
   obtain ⟨b1, b2, b3⟩ := hv
   refine one_sound h ro m o (b1 rfl) Q _ (fun u w' M' hx hst hu => ?_)
   rw [b3] at hst
   rw [b2] at hu
   exact hK u w' M' hx hst hu
 | false =>
  rw [hcc] at hK
  rw [if_neg (by simp)]
  exact ⟨fun g _ => FW_fn ro g, hK undef w M (.refl _ _ _) h.st rfl⟩
structure Trail (P : Program) (w0 : World) (n : Nat) (all os : List Oper) (e : Env) (st : St) (E : Nat → Env) (C : Nat → Bool) (V : Nat → AV) : Prop where
 zero : E 0 = e
 step : ∀ j o, os[j]? = some o → E (j + 1) = putE (E j) o.dst (C j) (V j) ∧ guardOk all (view true all o (E j)) o.guard ∧ dstOk n o.dst ∧ guardC all (view true all o (E j)) o.guard = C j ∧
  OneOk P w0 (view true all o (E j)) (C j) st o (V j)
theorem trail_cons {all os : List Oper} {e : Env} {st : St} {o : Oper} {E : Nat → Env} {C : Nat → Bool} {V : Nat → AV} {v : AV} (hg : guardOk all (view true all o e) o.guard) (hd : dstOk n o.dst)
  (ho : OneOk P w0 (view true all o e) (guardC all (view true all o e) o.guard) st o v) (T : Trail P w0 n all os (putE e o.dst (guardC all (view true all o e) o.guard) v) st E C V) :
  Trail P w0 n all (o :: os) e st (fun | 0 => e | j + 1 => E j) (fun | 0 => guardC all (view true all o e) o.guard | j + 1 => C j) (fun | 0 => v | j + 1 => V j) := by
 refine ⟨rfl, fun j q hq => ?_⟩
 cases j with
 | zero =>
  simp only [List.getElem?_cons_zero, Option.some.injEq] at hq
  subst hq
  exact ⟨T.zero, hg, hd, rfl, ho⟩
 | succ j =>
  simp only [List.getElem?_cons_succ] at hq
  exact T.step j q hq
theorem trail_of {all : List Oper} {st : St} {KK : Env → St → Prop} : ∀ (c : Nat) (os : List Oper) (e : Env), evK P w0 n true all KK c os e st → ∃ E C V, Trail P w0 n all os e st E C V ∧ KK (E os.length) st
 | 0, _, _, h => h.elim
 | c + 1, os, e, h => by
  have key : ∀ (os : List Oper) (e : Env), evS P w0 n true all (evK P w0 n true all KK c) KK os e st → ∃ E C V, Trail P w0 n all os e st E C V ∧ KK (E os.length) st := by
   intro os
   induction os with
   | nil => exact fun e h => ⟨fun _ => e, fun _ => false, fun _ => .junk, ⟨rfl, fun j o hh => by simp at hh⟩, h⟩
   | cons o os ih =>
    intro e h
    by_cases hc : isCallF o.op = true
    ·
     obtain ⟨dst, op, type, pos, after, guard⟩ := o
     cases op <;> try cases hc
     rename_i cc
     obtain ⟨callee, args, ts⟩ := cc
     cases callee <;> try cases hc
     rename_i f
     simp only [evS] at h
     obtain ⟨hg, hd, h1, hk⟩ := h
     rcases hk with ⟨v, k1, k2⟩ | ⟨hf, _⟩
     ·
      obtain ⟨E, C, V, T, hKK⟩ := trail_of c os _ k2
      exact ⟨_, _, _, trail_cons hg hd (fun hcc => ⟨(h1 hcc).1, (h1 hcc).2, k1 hcc⟩) T, hKK⟩
     ·
      cases hf
    by_cases hgl : isGl o.op = true
    ·
     obtain ⟨dst, op, type, pos, after, guard⟩ := o
     cases op <;> try cases hgl
     rename_i t y
     cases y <;> try cases hgl
     simp only [evS] at h
     exact absurd h.2.2.1.1 (by simp)
    ·
     rw [evS_other hc hgl] at h
     obtain ⟨hg, hd, h1, h0, hrest⟩ := h
     have hst := h0 (.inr rfl)
     simp only at hst
     rw [hst] at hrest
     obtain ⟨E, C, V, T, hKK⟩ := ih _ hrest
     exact ⟨_, _, _, trail_cons hg hd (by rw [oneOk_other hc]; exact ⟨h1, rfl, hst⟩) T, hKK⟩
  exact key os e h
theorem trail_look {all os : List Oper} {e : Env} {st : St} {E : Nat → Env} {C : Nat → Bool} {V : Nat → AV} (T : Trail P w0 n all os e st E C V)
  (uniq : ∀ (i j : Nat) (o p : Oper) (s : Nat), os[i]? = some o → os[j]? = some p → o.dst = some s → p.dst = some s → i = j) (s : Nat) : ∀ j, j ≤ os.length →
  ((∀ i o, i < j → os[i]? = some o → o.dst ≠ some s) → look (E j) s = look e s) ∧ (∀ i o, i < j → os[i]? = some o → o.dst = some s → look (E j) s = some (C i, V i))
 | 0, _ => ⟨fun _ => by rw [T.zero], fun i o h => absurd h (by omega)⟩
 | j + 1, hj => by
  obtain ⟨ih1, ih2⟩ := trail_look T uniq s j (by omega)
  have ho : os[j]? = some os[j] := List.getElem?_eq_getElem (by omega)
  have hstep := (T.step j _ ho).1
  have hne : os[j].dst ≠ some s → look (E (j + 1)) s = look (E j) s := by
   intro hne
   rw [hstep]
   cases hd : os[j].dst with
   | none => rfl
   | some d =>
    rw [hd] at hne
    simp only [putE, look]
    rw [if_neg (fun h => hne (by rw [h]))]
  refine ⟨fun h => ?_, fun i o hi hio hd => ?_⟩
  ·
   rw [hne (h j _ (by omega) ho)]
   exact ih1 fun i o hi => h i o (by omega)
  ·
   by_cases c : i = j
   ·
    subst c
    rw [ho] at hio
    cases hio
    rw [hstep, hd]
    simp only [putE, look, if_true]
   ·
    rw [hne (fun h => c (uniq i j o _ s hio ho hd h))]
    exact ih2 i o (by omega) hio hd
theorem wpAnyIn_of_seq {F : Fence} {m : Nat} {md : Region.Mode} {ops : Array Oper} {Q' : Exit → Act → World → Prop} : ∀ (l : List Oper) (k : Nat) (listed : Array Bool) (a : Act) (w : World), (∀ j, l[j]? = ops[k + j]?) →
  Region.seqB md ops l.length k listed = true → wpListIn F m P ops Q' l a w → wpAnyIn F m P md ops Q' l.length listed a w
 | [], _, _, _, _, _, hB, h => ⟨by simpa [Region.seqB] using hB, h⟩
 | o :: l, k, listed, a, w, hl, hB, h => by
  have h0 : ops[k]? = some o := by simpa using (hl 0).symm
  simp only [List.length_cons, Region.seqB, Bool.and_eq_true, decide_eq_true_eq] at hB
  refine ⟨fun h1 => (by rw [hB.1] at h1; cases h1), fun i hi => ?_⟩
  rw [hB.1] at hi
  have hik : i = k := by simpa using hi
  subst hik
  have hw : wpOpIn F m P ops Q' i (wpListIn F m P ops Q' l) a w := by unfold wpOpIn; simp only [h0]; exact h
  exact wpOpIn_mono (fun a' w' h' => wpAnyIn_of_seq l (i + 1) _ a' w' (fun j => by have := hl (j + 1); simpa [Nat.add_assoc, Nat.add_comm 1 j] using this) hB.2 h') hw
def waitsB (o : Oper) (j : Nat) : Bool := o.after.any fun e => Region.binds .any e && e.on == j
theorem waitsB_spec {o : Oper} {j : Nat} (h : waitsB o j = true) : ∃ e ∈ o.after, Region.binds .any e = true ∧ e.on = j := by
 obtain ⟨e, he, hb⟩ := Array.any_eq_true'.1 h
 simp only [Bool.and_eq_true, beq_iff_eq] at hb
 exact ⟨e, he, hb.1, hb.2⟩
def meetB (l : List Oper) (i j : Nat) (o p : Oper) : Bool :=
 match p.dst with
 | some s => (decide (i = j) || o.dst != some s) && (!(looks l o).contains s || (decide (j < i) && waitsB o j))
 | none => true
def headB (l : List Oper) (h : Nat) : Bool :=
 (List.range h).all fun i => match l[i]? with
  | some o => (o.after.toList.all fun e => !Region.binds .any e || decide (e.on < i)) && (List.range h).all fun j => match l[j]? with
   | some p => meetB l i j o p
   | none => true
  | none => true
def tailB (l : List Oper) (h : Nat) : Bool :=
 (List.range (l.length - h)).all fun k => (List.range (h + k)).all fun j => (List.range (h + k + 1)).any fun q => decide (j < q) && (match l[q]? with | some o => waitsB o j | none => false)
def drawB (l : List Oper) (h : Nat) : Bool :=
 decide (h ≤ l.length) && headB l h && tailB l h && Region.seqB .any l.toArray (l.length - h) h (Array.replicate h true ++ Array.replicate (l.length - h) false)
theorem headB_spec {l : List Oper} {h : Nat} (hB : headB l h = true) {i : Nat} {o : Oper} (hi : i < h) (ho : l[i]? = some o) :
  (∀ e ∈ o.after, Region.binds .any e = true → e.on < i) ∧ ∀ j p s, j < h → l[j]? = some p → p.dst = some s → (o.dst = some s → i = j) ∧ (s ∈ looks l o → j < i ∧ waitsB o j = true) := by
 have h1 := List.all_eq_true.1 hB i (List.mem_range.2 hi)
 simp only [ho, Bool.and_eq_true] at h1
 refine ⟨fun e he hb => ?_, fun j p s hj hp hs => ?_⟩
 ·
  have := List.all_eq_true.1 h1.1 e (by simpa using he)
  simpa [hb] using this
 ·
  have h2 := List.all_eq_true.1 h1.2 j (List.mem_range.2 hj)
  simp only [hp, meetB, hs, Bool.and_eq_true, Bool.or_eq_true, decide_eq_true_eq, bne_iff_ne, Bool.not_eq_true'] at h2
  refine ⟨fun hd => h2.1.resolve_right (fun c => c hd), fun hm => ?_⟩
  rcases h2.2 with h3 | h3
  ·
   have : (looks l o).contains s = true := by simpa using hm
   rw [h3] at this; cases this
  ·
   exact h3
theorem getD_false {listed : Array Bool} {i : Nat} (h : listed.getD i true = false) : ∃ hi : i < listed.size, listed[i] = false := by
 by_cases c : i < listed.size
 ·
  exact ⟨c, by simpa [c] using h⟩
 ·
  simp [Array.getD_eq_getD_getElem?, Array.getElem?_eq_none (Nat.le_of_not_lt c)] at h
theorem getD_true {listed : Array Bool} {i : Nat} (h : listed.getD i false = true) : ∃ hi : i < listed.size, listed[i] = true := by
 by_cases c : i < listed.size
 ·
  exact ⟨c, by simpa [c] using h⟩
 ·
  simp [Array.getD_eq_getD_getElem?, Array.getElem?_eq_none (Nat.le_of_not_lt c)] at h
theorem getD_set' {listed : Array Bool} {i j : Nat} (hi : i < listed.size) (b : Bool) : (listed.setIfInBounds i true).getD j b = if i = j then true else listed.getD j b := by
 by_cases c : i = j
 ·
  subst c; simp [hi]
 ·
  rw [if_neg c]
  simp [Array.getElem?_setIfInBounds_ne c]
structure DInv (w0 : World) (n : Nat) (l : List Oper) (h : Nat) (e : Env) (st : St) (C : Nat → Bool) (V : Nat → AV) (M1 : Mem) (w1 : World) (ds : List Deferred) (listed : Array Bool) (a : Act) (w : World) (M : Mem) : Prop where
 size : listed.size = l.length
 tail : ∀ t, h ≤ t → t < l.length → listed.getD t true = false
 closed : ∀ j oj, l[j]? = some oj → listed.getD j false = true → ∀ e ∈ oj.after, Region.binds .any e = true → listed.getD e.on false = true
 rel : RelSt w0 M st w
 tmps : a.tmps.size = n
 defers : a.defers = ds
 ext : Ext w0 M1 w1 M w
 old : ∀ s x, (∀ i o, i < h → l[i]? = some o → o.dst ≠ some s) → look e s = some x → entryOk w0 M w (a.tmps.getD s undef) x
 new : ∀ i o s, i < h → l[i]? = some o → o.dst = some s → listed.getD i false = true → entryOk w0 M w (a.tmps.getD s undef) (C i, V i)
theorem least_false {listed : Array Bool} {h : Nat} (hn : ¬ ∀ j, j < h → listed.getD j false = true) : ∃ j, j < h ∧ listed.getD j false = false ∧ ∀ i, i < j → listed.getD i false = true := by
 induction h with
 | zero => exact absurd (fun j hj => absurd hj (by omega)) hn
 | succ h ih =>
  by_cases c : ∀ j, j < h → listed.getD j false = true
  ·
   refine ⟨h, by omega, ?_, c⟩
   cases hq : listed.getD h false with
   | false => rfl
   | true =>
    exact absurd (fun j hj => by
     by_cases e : j = h
     ·
      exact e ▸ hq
     ·
      exact c j (by omega)) hn
  ·
   obtain ⟨j, h1, h2, h3⟩ := ih c
   exact ⟨j, by omega, h2, h3⟩
theorem any_draw {l : List Oper} {h : Nat} {e : Env} {st : St} {E : Nat → Env} {C : Nat → Bool} {V : Nat → AV} {M1 : Mem} {w1 : World} {ds : List Deferred} {ro : Option Nat} {m : Nat} {Q : Exit → Act → World → Prop}
  (T : Trail P w0 n l (l.take h) e st E C V) (hB : drawB l h = true)
  (hend : ∀ a w M, Rel w0 n M (E h) st a w → Ext w0 M1 w1 M w → a.defers = ds → wpListIn (FW ro) m P l.toArray Q (l.drop h) a w) :
  ∀ fuel listed a w M, fuel = listed.toList.count false → DInv w0 n l h e st C V M1 w1 ds listed a w M → wpAnyIn (FW ro) m P .any l.toArray Q fuel listed a w := by
 simp only [drawB, Bool.and_eq_true, decide_eq_true_eq] at hB
 obtain ⟨⟨⟨hle, hH⟩, hT⟩, hS⟩ := hB
 have hlen : (l.take h).length = h := by simp; omega
 have hidx : ∀ j, j < h → (l.take h)[j]? = l[j]? := fun j hj => List.getElem?_take_of_lt hj
 have hlt : ∀ {j : Nat} {o : Oper}, (l.take h)[j]? = some o → j < h := fun {j o} hj => by
  have := (List.getElem?_eq_some_iff.1 hj).1; omega
 have uniq : ∀ (i j : Nat) (o p : Oper) (s : Nat), (l.take h)[i]? = some o → (l.take h)[j]? = some p → o.dst = some s → p.dst = some s → i = j := by
  intro i j o p s hi hj hs hs'
  have a1 := hlt hi
  have a2 := hlt hj
  rw [hidx _ a1] at hi
  rw [hidx _ a2] at hj
  exact ((headB_spec hH a1 hi).2 j p s a2 hj hs').1 hs
 have look1 : ∀ s j, j ≤ h → _ := fun s j hj => trail_look T uniq s j (by omega)
 have done : ∀ (listed : Array Bool) (a : Act) (w : World) (M : Mem) (fuel : Nat), fuel = listed.toList.count false → DInv w0 n l h e st C V M1 w1 ds listed a w M → (∀ j, j < h → listed.getD j false = true) →
   wpAnyIn (FW ro) m P .any l.toArray Q fuel listed a w := by
  intro listed a w M fuel hf inv hall
  have hl : listed = Array.replicate h true ++ Array.replicate (l.length - h) false := by
   apply Array.ext
   ·
    simp [inv.size]; omega
   ·
    intro i h1 h2
    by_cases c : i < h
    ·
     have := hall i c
     simp only [Array.getD_eq_getD_getElem?, Array.getElem?_eq_getElem h1, Option.getD_some] at this
     rw [this, Array.getElem_append_left (by simpa using c)]
     simp
    ·
     have := inv.tail i (by omega) (by rw [← inv.size]; exact h1)
     simp only [Array.getD_eq_getD_getElem?, Array.getElem?_eq_getElem h1, Option.getD_some] at this
     rw [this, Array.getElem_append_right (by simpa using c)]
     simp
  have hfl : fuel = (l.drop h).length := by
   rw [hf, hl]
   simp [List.count_append, List.count_replicate]
  have hrel : Rel w0 n M (E h) st a w := by
   refine ⟨inv.rel, inv.tmps, fun s x hs => ?_⟩
   by_cases c : ∃ j p, j < h ∧ l[j]? = some p ∧ p.dst = some s
   ·
    obtain ⟨j, p, hj, hp, hd⟩ := c
    have := (look1 s h (Nat.le_refl _)).2 j p hj (by rw [hidx _ hj]; exact hp) hd
    rw [this] at hs
    cases hs
    exact inv.new j p s hj hp hd (hall j hj)
   ·
    have := (look1 s h (Nat.le_refl _)).1 (fun j p hj hp hd => c ⟨j, p, hj, by rw [← hidx _ hj]; exact hp, hd⟩)
    rw [this] at hs
    exact inv.old s x (fun j p hj hp hd => c ⟨j, p, hj, hp, hd⟩) hs
  rw [hfl]
  refine wpAnyIn_of_seq (l.drop h) h listed a w (fun j => by simp [List.getElem?_drop]) ?_ (hend a w M hrel inv.ext inv.defers)
  rw [hl, List.length_drop]
  exact hS
 have hwaits : ∀ (listed : Array Bool) (t : Nat) (o : Oper), (∀ j oj, l[j]? = some oj → listed.getD j false = true → ∀ e ∈ oj.after, Region.binds .any e = true → listed.getD e.on false = true) →
   l[t]? = some o → h ≤ t → (∀ e ∈ o.after, Region.binds .any e = true → listed.getD e.on false = true) → ∀ d j, j + d + 1 = t → listed.getD j false = true := by
  intro listed t o hcl ho ht haft d
  induction d using Nat.strongRecOn with
  | _ d ih =>
   intro j hj
   have htl : t < l.length := (List.getElem?_eq_some_iff.1 ho).1
   have h1 := List.all_eq_true.1 (List.all_eq_true.1 hT (t - h) (List.mem_range.2 (by omega))) j (List.mem_range.2 (by omega))
   obtain ⟨q, hq, h2⟩ := List.any_eq_true.1 h1
   have hq' : q ≤ t := by have := List.mem_range.1 hq; omega
   simp only [Bool.and_eq_true, decide_eq_true_eq] at h2
   obtain ⟨hjq, h3⟩ := h2
   cases hoq : l[q]? with
   | none => simp [hoq] at h3
   | some oq =>
    simp only [hoq] at h3
    obtain ⟨ed, he1, he2, he3⟩ := waitsB_spec h3
    by_cases c : q = t
    ·
     subst c
     rw [ho] at hoq; cases hoq
     exact he3 ▸ haft ed he1 he2
    ·
     have := ih (t - q - 1) (by omega) q (by omega)
     exact he3 ▸ hcl q oq hoq this ed he1 he2
 intro fuel
 induction fuel with
 | zero =>
  intro listed a w M hf inv
  refine done listed a w M 0 hf inv (fun j hj => ?_)
  cases hq : listed.getD j false with
  | true => rfl
  | false =>
   exfalso
   have hj' : j < listed.size := by rw [inv.size]; omega
   have : false ∈ listed.toList := by
    have e1 : listed[j] = false := by simpa [hj'] using hq
    rw [← e1]; simp
   have := List.count_pos_iff.2 this
   omega
 | succ fuel ih =>
  intro listed a w M hf inv
  by_cases hall : ∀ j, j < h → listed.getD j false = true
  ·
   exact done listed a w M _ hf inv hall
  ·
   obtain ⟨k, hk1, hk2, hk3⟩ := least_false hall
   have hk' : k < listed.size := by rw [inv.size]; omega
   have hkl : l[k]? = some l[k] := List.getElem?_eq_getElem (by omega)
   have hready : k ∈ Region.ready .any l.toArray listed := by
    refine mem_ready.2 ⟨by simpa [hk'] using hk2, l[k], by simp, fun ed he hb => hk3 _ ((headB_spec hH hk1 hkl).1 ed he hb)⟩
   refine ⟨fun h0 => absurd hready (by rw [h0]; simp), fun i hi => ?_⟩
   obtain ⟨hun, o, ho, haft⟩ := mem_ready.1 hi
   have ho' : l[i]? = some o := by simpa using ho
   have hil : i < l.length := (List.getElem?_eq_some_iff.1 ho').1
   have hih : i < h := by
    refine Nat.lt_of_not_le fun hge => ?_
    have := hwaits listed i o inv.closed ho' hge haft (i - k - 1) k (by omega)
    rw [hk2] at this; cases this
   obtain ⟨t1, t2, t3, t4, t5⟩ := T.step i o (by rw [hidx _ hih]; exact ho')
   have hspec := headB_spec hH hih ho'
   have hrel : Rel w0 n M (view true l o (E i)) st a w := by
    refine ⟨inv.rel, inv.tmps, fun s x hs => ?_⟩
    simp only [view, if_true] at hs
    have hm := mem_keepL _ _ _ _ hs
    have hl := look_keepL _ _ _ _ hs
    by_cases c : ∃ j p, j < h ∧ l[j]? = some p ∧ p.dst = some s
    ·
     obtain ⟨j, p, hj, hp, hd⟩ := c
     obtain ⟨hji, hw⟩ := (hspec.2 j p s hj hp hd).2 hm
     obtain ⟨ed, he1, he2, he3⟩ := waitsB_spec hw
     have hlj : listed.getD j false = true := he3 ▸ haft ed he1 he2
     have := (look1 s i (by omega)).2 j p hji (by rw [hidx _ hj]; exact hp) hd
     rw [this] at hl
     cases hl
     exact inv.new j p s hj hp hd hlj
    ·
     have := (look1 s i (by omega)).1 (fun j p hj hp hd => c ⟨j, p, by omega, by rw [← hidx _ (by omega)]; exact hp, hd⟩)
     rw [this] at hl
     exact inv.old s x (fun j p hj hp hd => c ⟨j, p, hj, hp, hd⟩) hl
   unfold wpOpIn
   simp only [ho]
   have hi' : i < listed.size := by rw [inv.size]; omega
   refine oneOk_sound hrel ro m t2 (by rw [t4]; exact t5) Q _ fun v w' M' hx hst hv => ?_
   rw [t4] at hv
   refine ih _ _ _ M' ?_ ?_
   ·
    have hiu : listed[i] = false := by simpa [hi'] using hun
    have hpos : 0 < listed.toList.count false := List.count_pos_iff.2 (by rw [← hiu]; simp)
    rw [Array.toList_setIfInBounds, List.count_set (by simpa using hi')]
    simp only [Array.getElem_toList, hiu]
    rw [if_pos (show (false == false) = true from rfl), if_neg (show ¬ (true == false) = true by decide)]
    omega
   ·
    have keep : ∀ s x, o.dst ≠ some s → entryOk w0 M w (a.tmps.getD s undef) x → entryOk w0 M' w' ((a.put o.dst v).tmps.getD s undef) x := by
     intro s x hne h1
     rw [getD_put a o.dst v s (by rw [inv.tmps]; exact t3), if_neg hne]
     exact h1.mono hx
    refine ⟨by simp [inv.size], fun t h1 h2 => ?_, fun j oj hj hl ed he hb => ?_, hst, by rw [size_put]; exact inv.tmps, by rw [defers_put]; exact inv.defers, inv.ext.trans hx, fun s x h1 h2 => ?_, fun j p s hj hp hd hl => ?_⟩
    ·
     rw [getD_set' hi', if_neg (by omega)]; exact inv.tail t h1 h2
    ·
     rw [getD_set' hi'] at hl ⊢
     split
     ·
      rfl
     ·
      by_cases c : i = j
      ·
       subst c
       rw [ho'] at hj; cases hj
       exact haft ed he hb
      ·
       rw [if_neg c] at hl
       exact inv.closed j oj hj hl ed he hb
    ·
     exact keep s x (h1 i o hih ho') (inv.old s x h1 h2)
    ·
     by_cases c : i = j
     ·
      subst c
      rw [ho'] at hp; cases hp
      rw [getD_put a o.dst v s (by rw [inv.tmps]; exact t3), if_pos hd]
      exact hv
     ·
      rw [getD_set' hi', if_neg c] at hl
      refine keep s _ (fun hs => c ((hspec.2 j p s hj hp hd).1 hs)) (inv.new j p s hj hp hd hl)
theorem awp_draw {M0 : Mem} {W0 : World} {ro : Option Nat} {Q : AQ} {e : Env} {st : St} (hm : P.follows .mixedOrders = true) (h : Nat) (c1 c2 : Nat) (L : List Nat) {id : Nat} {l : List Oper} (hB : drawB l h = true)
  (hev : evK P w0 n true l (fun e1 s1 => evK P w0 n false l (fun e2 s2 => Q .normal (keepL L e2) s2) c2 (l.drop h) e1 s1) c1 (l.take h) e st) : awp P w0 n M0 W0 ro (.region id l.toArray true) Q e st := by
 intro m M a w hr
 obtain ⟨E, C, V, T, h2⟩ := trail_of _ _ _ hev
 have hle : h ≤ l.length := by
  simp only [drawB, Bool.and_eq_true, decide_eq_true_eq] at hB; exact hB.1.1.1
 have hlen : (l.take h).length = h := by simp; omega
 rw [hlen] at h2
 obtain ⟨d1, d2⟩ := hr.rel.st.drew
 refine wpIn_region_any hm (any_draw T hB (M1 := M) (w1 := w) (ds := a.defers) (fun a1 w1 M1 hr1 hx1 hd1 => ?_) _ _ a _ M (by simp) ?_)
 ·
  refine evK_sound ro m false l _ _ c2 _ _ st a1 w1 M1 hr1 h2 fun e2 s2 a2 w2 M2 k2 r2 x2 q2 => ⟨M2, _, _, ⟨r2.sub (sub_keepL L _), hr.ext.trans (hx1.trans x2), ?_⟩, k2⟩
  rw [q2, hd1]
  exact hr.marks.later (hx1.trans x2) hr.rel.st
 ·
  exact ⟨by simp, fun t _ ht => by simp [Array.getD_eq_getD_getElem?, ht], fun j _ _ hl => by
   exfalso
   by_cases c : j < l.length
   ·
    simp [Array.getD_eq_getD_getElem?, c] at hl
   ·
    simp [Array.getD_eq_getD_getElem?, c] at hl, d1, hr.rel.size, rfl, d2, fun s x _ hs => (hr.rel.env s x hs).mono d2, fun j _ _ _ _ _ hl => by
   exfalso
   by_cases c : j < l.length
   ·
    simp [Array.getD_eq_getD_getElem?, c] at hl
   ·
    simp [Array.getD_eq_getD_getElem?, c] at hl⟩
end
def St.ext (s X : St) : St := ⟨s.boxes ++ X.boxes, s.rows ++ X.rows, s.loops ++ X.loops⟩
def St.push (s : St) (la : LoopA) : St := { s with loops := s.loops ++ [la] }
def bindE : Env → List Nat → List AV → Env
 | e, p :: ps, x :: xs => bindE ((p, true, x) :: e) ps xs
 | e, _, _ => e
section
variable {P : Program} {w0 : World} {n : Nat} {M : Mem} {e : Env} {st : St} {a : Act} {w : World}
theorem Rel.bind : ∀ (ps : List Nat) (vs : List Value) (xs : List AV) (e : Env) (a : Act), Rel w0 n M e st a w → ps.length = xs.length → (∀ p ∈ ps, p < n) → vs.length = xs.length → (∀ (i : Nat) (v : Value) (x : AV), vs[i]? = some v → xs[i]? = some x → R w0 M w v x) →
  Rel w0 n M (bindE e ps xs) st { tmps := (ps.zip vs).foldl (fun t (p, v) => t.setIfInBounds p v) a.tmps, defers := a.defers } w
 | [], [], [], _, _, h, _, _, _, _ => h
 | p :: ps, v :: vs, x :: xs, e, a, h, h1, h2, h3, h4 => by
  simp only [List.zip_cons_cons, List.foldl_cons, bindE]
  have hp : p < n := h2 p (by simp)
  have := h.put (M' := M) (w' := w) (st' := st) (.refl _ _ _) h.st (dst := some p) hp (c := true) (v := v) (r := x) (h4 0 v x rfl rfl)
  exact Rel.bind ps vs xs _ (a.put (some p) v) this (by simpa using h1) (fun q hq => h2 q (by simp [hq])) (by simpa using h3) (fun i u y hu hy => h4 (i + 1) u y hu hy)
 | [], _ :: _, [], _, _, _, _, _, h, _ => by simp at h
 | [], _, _ :: _, _, _, _, h, _, _, _ => by simp at h
 | _ :: _, _, [], _, _, _, h, _, _, _ => by simp at h
 | _ :: _, [], _ :: _, _, _, _, _, _, h, _ => by simp at h
theorem RelSt.setLoop (h : RelSt w0 M st w) {k : Nat} {la : LoopA} (hk : st.loops[k]? = some la) (s : LoopState) (p : Option Code) {r : Loop} (hr : w.heap[M.lb k]? = some (.loop r)) :
  RelSt w0 M { st with loops := st.loops.set k { la with st := s, pend := p } } (w.putObj (M.lb k) (.loop { r with state := s, pending := p })) ∧ Ext w0 M w M (w.putObj (M.lb k) (.loop { r with state := s, pending := p })) := by
 have hkl : k < st.loops.length := (List.getElem?_eq_some_iff.1 hk).1
 have hkN : k < M.NL := by rw [h.loop.NL]; exact hkl
 have hlt : M.lb k < w.heap.size := (Array.getElem?_eq_some_iff.1 hr).1
 obtain ⟨g0, gL⟩ := h.loop.record k la hk
 obtain ⟨gk, g2, g3, g4, g5, g6, g7, g8⟩ := gL.isLoop hr
 generalize ho' : Obj.loop { r with state := s, pending := p } = o'
 have hs : SameW M w (w.putObj (M.lb k) o') := ⟨fun b off v => cell_putObj hr rfl, fun b es ck hb hn => by rw [World.putObj_heap_other (fun e => hn k hkN e.symm)]; exact hb⟩
 have hc : ∀ {b : Nat} {c : Array Value} {ty : TypeId}, w.heap[b]? = some (.cells c ty (0, 0)) → (w.putObj (M.lb k) o').heap[b]? = some (.cells c ty (0, 0)) := by
  intro b c ty hb
  rw [World.putObj_heap_other (fun e => by subst e; rw [hr] at hb; cases hb)]
  exact hb
 refine ⟨⟨Below.putObj h.below g0 _, h.N, h.NR, fun b hb => h.top b (by simpa using hb), h.inj, fun l cs hl' => ?_, fun id x hm => (h.row id x hm).same hs hc (by simp), h.rowinj, ⟨by simp [h.loop.NL], h.loop.inj, fun j lj hj => ?_⟩⟩,
  ⟨Nat.le_refl _, fun _ _ => rfl, Nat.le_refl _, fun _ _ => ⟨Nat.le_refl _, fun _ => ⟨rfl, rfl, rfl⟩⟩, fun b off v h1 h2 => ⟨hs.1 b off v h2, h1⟩, by simp, Nat.le_refl _, fun _ _ => rfl, fun _ _ _ => by omega, fun b o h1 _ h3 => ?_, fun b _ q => ⟨World.putObj_heap_other (fun e => q.2.2 k hkN e.symm), q, rfl⟩⟩⟩
 ·
  obtain ⟨a1, a2, c, ty, a3, a4, a5, a6⟩ := h.box l cs hl'
  exact ⟨a1, a2, c, ty, hc a3, a4, a5, fun i b1 b2 => (a6 i b1 b2).same hs⟩
 ·
  by_cases q : j = k
  ·
   subst q
   rw [List.getElem?_set_self hkl] at hj
   cases hj
   exact ⟨g0, .ofLoop gk ⟨{ r with state := s, pending := p }, by rw [← ho']; exact World.putObj_heap_same hlt, rfl, rfl, g4, g5, g6, g7, fun s x hs' => (g8 s x hs').same hs⟩⟩
  ·
   rw [List.getElem?_set_ne (Ne.symm q)] at hj
   have hjN : j < M.NL := by rw [h.loop.NL]; exact (List.getElem?_eq_some_iff.1 hj).1
   obtain ⟨a1, a2⟩ := h.loop.record j lj hj
   exact ⟨a1, a2.map (fun o z _ => by rw [World.putObj_heap_other (fun e => q (h.loop.inj j k hjN hkN e))]; exact z) fun s x v _ a9 => a9.same hs⟩
 ·
  rw [World.putObj_heap_other (fun e => h3 k hkN e.symm)]
  exact h1
def Mem.newLoop (M : Mem) (b : Nat) : Mem := { M with NL := M.NL + 1, lb := fun k => if k = M.NL then b else M.lb k }
theorem Rel.newLoop (h : Rel w0 n M e st a w) (fn : FuncId) (ps : Array Tmp) (asg body : Code) :
  RelSt w0 (M.newLoop (w.heap.size + 1)) (st.push ⟨e, n, ps, asg, body, .ready, none, none⟩) ((w.alloc (.deferred (some []))).alloc (.loop { state := .ready, pending := none, fn, tmps := a.tmps, params := ps, assign := asg, body, defers := w.heap.size })) ∧
  Ext w0 M w (M.newLoop (w.heap.size + 1)) ((w.alloc (.deferred (some []))).alloc (.loop { state := .ready, pending := none, fn, tmps := a.tmps, params := ps, assign := asg, body, defers := w.heap.size })) := by
 generalize hr : ({ state := .ready, pending := none, fn, tmps := a.tmps, params := ps, assign := asg, body, defers := w.heap.size } : Loop) = r
 have hkeep : KeepsObj w ((w.alloc (.deferred (some []))).alloc (.loop r)) := (KeepsObj.alloc _ _).trans (KeepsObj.alloc _ _)
 have hcell : ∀ (b off : Nat) (v : Value), w.cell? ⟨b, off, none⟩ = some v → ((w.alloc (.deferred (some []))).alloc (.loop r)).cell? ⟨b, off, none⟩ = some v := by
  intro b off v hv
  have hlt := World.block_lt_of_cell? w _ hv
  rw [World.cell?_alloc_lt _ _ _ (by simp; exact Nat.lt_succ_of_lt hlt), World.cell?_alloc_lt _ _ _ hlt]
  exact hv
 have hlb : ∀ k, k < M.NL → (M.newLoop (w.heap.size + 1)).lb k = M.lb k := fun k hk => by simp [Mem.newLoop]; omega
 have hnew : (M.newLoop (w.heap.size + 1)).lb M.NL = w.heap.size + 1 := by simp [Mem.newLoop]
 have hx : Ext w0 M w (M.newLoop (w.heap.size + 1)) ((w.alloc (.deferred (some []))).alloc (.loop r)) :=
  ⟨Nat.le_refl _, fun _ _ => rfl, Nat.le_refl _, fun _ _ => ⟨Nat.le_refl _, fun _ => ⟨rfl, rfl, rfl⟩⟩, fun b off v h1 h2 => ⟨hcell b off v h2, h1⟩, by simp; omega, Nat.le_succ _, hlb, fun k h1 h2 => by
   have : k = M.NL := by simp only [Mem.newLoop] at h2; omega
   rw [this, hnew]; omega, fun b o h1 h2 _ => hkeep b o h1 h2, fun b q1 q => ⟨by rw [heap_alloc_lt _ _ (by simp; omega), heap_alloc_lt _ _ q1], ⟨q.1, q.2.1, fun k hk => by
    by_cases c : k = M.NL
    ·
     subst c; rw [hnew]; omega
    ·
     have hk' : k < M.NL := by simp only [Mem.newLoop] at hk; omega
     rw [hlb k hk']; exact q.2.2 k hk'⟩, rfl⟩⟩
 have hh : ∀ {b : Nat}, b < w.heap.size → ((w.alloc (.deferred (some []))).alloc (.loop r)).heap[b]? = w.heap[b]? := fun {b} hb => by
  rw [heap_alloc_lt _ _ (by simp; omega), heap_alloc_lt _ _ hb]
 refine ⟨⟨(h.st.below.alloc h.st.base_le _).alloc (by have := h.st.base_le; simp; omega) _, h.st.N, h.st.NR, fun b hb => h.st.top b (by simp at hb; omega), h.st.inj, fun l cs hl => ?_, fun id x hm => (h.st.row id x hm).keep hx rfl rfl rfl rfl rfl (h.st.row id x hm).ne (hh (h.st.row id x hm).lt), h.st.rowinj, ⟨by simp [Mem.newLoop, St.push, h.st.loop.NL], fun k k' hk hk' q => ?_, fun k la hk => ?_⟩⟩, hx⟩
 ·
  obtain ⟨a1, a2, c, ty, a3, a4, a5, a6⟩ := h.st.box l cs hl
  exact ⟨a1, a2, c, ty, by rw [show (M.newLoop (w.heap.size + 1)).bx l = M.bx l from rfl, hh (Array.getElem?_eq_some_iff.1 a3).1]; exact a3, a4, a5, fun i b1 b2 => (a6 i b1 b2).mono hx⟩
 ·
  have hlt : ∀ j, j < M.NL → M.lb j < w.heap.size := fun j hj => by
   exact (h.st.loop.record j _ (List.getElem?_eq_getElem (by rw [← h.st.loop.NL]; exact hj))).2.lt
  simp only [Mem.newLoop] at hk hk'
  by_cases c : k = M.NL
  ·
   by_cases c' : k' = M.NL
   ·
    omega
   ·
    subst c
    rw [hnew, hlb k' (by omega)] at q
    have := hlt k' (by omega)
    omega
  ·
   by_cases c' : k' = M.NL
   ·
    subst c'
    rw [hnew, hlb k (by omega)] at q
    have := hlt k (by omega)
    omega
   ·
    rw [hlb k (by omega), hlb k' (by omega)] at q
    exact h.st.loop.inj k k' (by omega) (by omega) q
 ·
  simp only [St.push] at hk
  by_cases c : k = st.loops.length
  ·
   subst c
   simp only [List.getElem?_concat_length, Option.some.injEq] at hk
   subst hk
   rw [← h.st.loop.NL, hnew]
   refine ⟨by have := h.st.base_le; omega, .ofLoop rfl ⟨r, ?_, ?_⟩⟩
   ·
    have := World.alloc_heap_new (w.alloc (.deferred (some []))) (.loop r)
    rwa [World.size_alloc] at this
   ·
    have et : r.tmps = a.tmps := by rw [← hr]
    exact ⟨by rw [← hr], by rw [← hr], by rw [← hr], by rw [← hr], by rw [← hr], by rw [et]; exact h.size, fun s x hs => by rw [et]; exact (h.env s x hs).mono hx⟩
  ·
   have hk' : k < st.loops.length := by
    have := (List.getElem?_eq_some_iff.1 hk).1
    simp at this; omega
   rw [List.getElem?_append_left hk'] at hk
   obtain ⟨a1, a2⟩ := h.st.loop.record k la hk
   rw [hlb k (by rw [h.st.loop.NL]; exact hk')]
   exact ⟨a1, a2.map (fun o q1 q2 => hkeep _ _ q1 q2) fun s x v _ a9 => a9.mono hx⟩
def leftBy : Exit → Option (Option Code)
 | .normal => some none
 | .ret => some (some .ret)
 | .exit id => some (some (.exit id))
 | _ => none
end
attribute [go_sem] globV eqAll eqCell.eq_1 eqCell.eq_2 eqCell.eq_3 cellsOfA fixSt hasMark argP view looks looksG Op.operands Call.operands Array.toList_append Option.toArray evS guardOk dstOk guardC evOp argOk argV look putE keepL thenA inBlockA bodyA resOk resV retV ofVal ofCell constOk cellOk flatV evLen bndOf bndOk inK Own.under argsE calmE St.ext St.push St.cut bindE loadA nth evBin.eq_1 evBin.eq_2 evBin.eq_3 evBin.eq_4 evBin.eq_5 evBin.eq_6 evBin.eq_7 evBin.eq_8 evBin.eq_9 evBin.eq_10 evBin.eq_11 evBin.eq_12 evBin.eq_13 evBin.eq_14 evBin.eq_15 evBin.eq_16 evBin.eq_17 evBin.eq_18 evBin.eq_19 evBB.eq_1 evBB.eq_2 evUn.eq_1 evUn.eq_2
@[go_sem] theorem ev_isNilO_tmp (k : Nat) : isNilO (.tmp k) = false := rfl
@[go_sem] theorem ev_isNilO_const (v : Value) : isNilO (.const v) = isNilV v := rfl
@[go_sem] theorem ev_isNilV_int (k : IntKind) (n : Int) : isNilV (.int k n) = false := rfl
@[go_sem] theorem ev_isNilV_str (s : ByteArray) : isNilV (.string s) = false := rfl
@[go_sem] theorem ev_isNilV_bool (b : Bool) : isNilV (.bool b) = false := rfl
@[go_sem] theorem ev_isNilV_nil : isNilV .nilIface = true := rfl
@[go_sem] theorem ev_isNilV_if (t : TypeId) (v : Value) : isNilV (.iface t v) = false := rfl
@[go_sem] theorem ev_isNilR_tmp (k : Nat) : isNilR (.tmp k) = false := rfl
@[go_sem] theorem ev_isNilR_const (v : Value) : isNilR (.const v) = isNilRV v := rfl
@[go_sem] theorem ev_isNilRV_int (k : IntKind) (n : Int) : isNilRV (.int k n) = false := rfl
@[go_sem] theorem ev_isNilRV_str (s : ByteArray) : isNilRV (.string s) = false := rfl
@[go_sem] theorem ev_isNilRV_bool (b : Bool) : isNilRV (.bool b) = false := rfl
@[go_sem] theorem ev_isNilRV_nil : isNilRV .nilIface = false := rfl
@[go_sem] theorem ev_isNilRV_if (t : TypeId) (v : Value) : isNilRV (.iface t v) = false := rfl
@[go_sem] theorem ev_evNil_eql (v : Value) : evNil .eql v = (isIfV v = true, isNilV v) := rfl
@[go_sem] theorem ev_evNil_neq (v : Value) : evNil .neq v = (isIfV v = true, !isNilV v) := rfl
@[go_sem] theorem ev_isPlain_val (v : Value) : isPlain (.val v : AV) = true := rfl
@[go_sem] theorem ev_isPlain_list (xs : List AV) (o : Own) : isPlain (.list xs o : AV) = false := rfl
@[go_sem] theorem ev_isPlain_elem (x : AV) (k : Nat) : isPlain (.elem x k : AV) = false := rfl
@[go_sem] theorem ev_isPlain_box (l k : Nat) : isPlain (.box l k : AV) = false := rfl
@[go_sem] theorem ev_isPlain_clo (f : FuncId) (cs : List AV) : isPlain (.clo f cs : AV) = false := rfl
@[go_sem] theorem ev_isPlain_agg (cs : List AV) : isPlain (.agg cs : AV) = false := rfl
@[go_sem] theorem ev_isPlain_tup (vs : List AV) : isPlain (.tup vs : AV) = false := rfl
@[go_sem] theorem ev_isPlain_yld (k : Nat) : isPlain (.yld k : AV) = false := rfl
@[go_sem] theorem ev_isPlain_mp (k : Nat) : isPlain (.mp k : AV) = false := rfl
@[go_sem] theorem ev_isPlain_tab (l : List (Int × FuncId)) : isPlain (.tab l : AV) = false := rfl
@[go_sem] theorem ev_isPlain_vec (id ver o n : Nat) : isPlain (.vec id ver o n : AV) = false := rfl
@[go_sem] theorem ev_isPlain_vel (id ver o : Nat) : isPlain (.vel id ver o : AV) = false := rfl
@[go_sem] theorem ev_plainOf_val (v : Value) : plainOf (.val v : AV) = v := rfl
@[go_sem] theorem ev_isB_list (xs : List AV) (o : Own) : isB (.list xs o : AV) = false := rfl
@[go_sem] theorem ev_isB_elem (x : AV) (k : Nat) : isB (.elem x k : AV) = false := rfl
@[go_sem] theorem ev_isB_box (l k : Nat) : isB (.box l k : AV) = false := rfl
@[go_sem] theorem ev_isB_clo (f : FuncId) (cs : List AV) : isB (.clo f cs : AV) = false := rfl
@[go_sem] theorem ev_isB_agg (cs : List AV) : isB (.agg cs : AV) = false := rfl
@[go_sem] theorem ev_isB_tup (vs : List AV) : isB (.tup vs : AV) = false := rfl
@[go_sem] theorem ev_isB_yld (k : Nat) : isB (.yld k : AV) = false := rfl
@[go_sem] theorem ev_isB_mp (k : Nat) : isB (.mp k : AV) = false := rfl
@[go_sem] theorem ev_isB_tab (l : List (Int × FuncId)) : isB (.tab l : AV) = false := rfl
@[go_sem] theorem ev_isB_vec (id ver o n : Nat) : isB (.vec id ver o n : AV) = false := rfl
@[go_sem] theorem ev_isB_vel (id ver o : Nat) : isB (.vel id ver o : AV) = false := rfl
@[go_sem] theorem ev_isInt_list (xs : List AV) (o : Own) : isInt (.list xs o : AV) = false := rfl
@[go_sem] theorem ev_isInt_elem (x : AV) (k : Nat) : isInt (.elem x k : AV) = false := rfl
@[go_sem] theorem ev_isInt_box (l k : Nat) : isInt (.box l k : AV) = false := rfl
@[go_sem] theorem ev_isInt_clo (f : FuncId) (cs : List AV) : isInt (.clo f cs : AV) = false := rfl
@[go_sem] theorem ev_isInt_agg (cs : List AV) : isInt (.agg cs : AV) = false := rfl
@[go_sem] theorem ev_isInt_tup (vs : List AV) : isInt (.tup vs : AV) = false := rfl
@[go_sem] theorem ev_isInt_yld (k : Nat) : isInt (.yld k : AV) = false := rfl
@[go_sem] theorem ev_isInt_mp (k : Nat) : isInt (.mp k : AV) = false := rfl
@[go_sem] theorem ev_isInt_tab (l : List (Int × FuncId)) : isInt (.tab l : AV) = false := rfl
@[go_sem] theorem ev_isInt_vec (id ver o n : Nat) : isInt (.vec id ver o n : AV) = false := rfl
@[go_sem] theorem ev_isInt_vel (id ver o : Nat) : isInt (.vel id ver o : AV) = false := rfl
@[go_sem] theorem ev_isStr_list (xs : List AV) (o : Own) : isStr (.list xs o : AV) = false := rfl
@[go_sem] theorem ev_isStr_elem (x : AV) (k : Nat) : isStr (.elem x k : AV) = false := rfl
@[go_sem] theorem ev_isStr_box (l k : Nat) : isStr (.box l k : AV) = false := rfl
@[go_sem] theorem ev_isStr_clo (f : FuncId) (cs : List AV) : isStr (.clo f cs : AV) = false := rfl
@[go_sem] theorem ev_isStr_agg (cs : List AV) : isStr (.agg cs : AV) = false := rfl
@[go_sem] theorem ev_isStr_tup (vs : List AV) : isStr (.tup vs : AV) = false := rfl
@[go_sem] theorem ev_isStr_yld (k : Nat) : isStr (.yld k : AV) = false := rfl
@[go_sem] theorem ev_isStr_mp (k : Nat) : isStr (.mp k : AV) = false := rfl
@[go_sem] theorem ev_isStr_tab (l : List (Int × FuncId)) : isStr (.tab l : AV) = false := rfl
@[go_sem] theorem ev_isStr_vec (id ver o n : Nat) : isStr (.vec id ver o n : AV) = false := rfl
@[go_sem] theorem ev_isStr_vel (id ver o : Nat) : isStr (.vel id ver o : AV) = false := rfl
@[go_sem] theorem ev_isB_bool (b : Bool) : isB (.val (.bool b)) = true := rfl
@[go_sem] theorem ev_isB_int (k : IntKind) (n : Int) : isB (.val (.int k n)) = false := rfl
@[go_sem] theorem ev_isB_str (s : ByteArray) : isB (.val (.string s)) = false := rfl
@[go_sem] theorem ev_isB_undef : isB (.val undef) = false := rfl
@[go_sem] theorem ev_boolOf (b : Bool) : boolOf (.val (.bool b)) = b := rfl
@[go_sem] theorem ev_isInt (k : IntKind) (n : Int) : isInt (.val (.int k n)) = true := rfl
@[go_sem] theorem ev_intOfA (k : IntKind) (n : Int) : intOfA (.val (.int k n)) = n := rfl
@[go_sem] theorem ev_kindOfA (k : IntKind) (n : Int) : kindOfA (.val (.int k n)) = k := rfl
@[go_sem] theorem ev_isStr (s : ByteArray) : isStr (.val (.string s)) = true := rfl
@[go_sem] theorem ev_strOf (s : ByteArray) : strOf (.val (.string s)) = s := rfl
@[go_sem] theorem ev_byteOk (n : Int) : byteOk (.val (.int .u8 n)) = (0 ≤ n ∧ n ≤ 255) := rfl
@[go_sem] theorem ev_listOf_list (xs : List AV) (o : Own) : listOf (.list xs o : AV) = xs := rfl
@[go_sem] theorem ev_isList_val (v : Value) : isList (.val v : AV) = false := rfl
@[go_sem] theorem ev_isList_list (xs : List AV) (o : Own) : isList (.list xs o : AV) = true := rfl
@[go_sem] theorem ev_isList_elem (x : AV) (k : Nat) : isList (.elem x k : AV) = false := rfl
@[go_sem] theorem ev_isList_box (l k : Nat) : isList (.box l k : AV) = false := rfl
@[go_sem] theorem ev_isList_clo (f : FuncId) (cs : List AV) : isList (.clo f cs : AV) = false := rfl
@[go_sem] theorem ev_isList_agg (cs : List AV) : isList (.agg cs : AV) = false := rfl
@[go_sem] theorem ev_isList_tup (vs : List AV) : isList (.tup vs : AV) = false := rfl
@[go_sem] theorem ev_isList_yld (k : Nat) : isList (.yld k : AV) = false := rfl
@[go_sem] theorem ev_isList_mp (k : Nat) : isList (.mp k : AV) = false := rfl
@[go_sem] theorem ev_isList_tab (l : List (Int × FuncId)) : isList (.tab l : AV) = false := rfl
@[go_sem] theorem ev_isList_vec (id ver o n : Nat) : isList (.vec id ver o n : AV) = false := rfl
@[go_sem] theorem ev_isList_vel (id ver o : Nat) : isList (.vel id ver o : AV) = false := rfl
@[go_sem] theorem ev_offAt_val (v : Value) : offAt (.val v : AV) = 0 := rfl
@[go_sem] theorem ev_offAt_list (xs : List AV) (o : Own) : offAt (.list xs o : AV) = 0 := rfl
@[go_sem] theorem ev_offAt_elem (x : AV) (k : Nat) : offAt (.elem x k : AV) = k := rfl
@[go_sem] theorem ev_offAt_box (l k : Nat) : offAt (.box l k : AV) = k := rfl
@[go_sem] theorem ev_offAt_clo (f : FuncId) (cs : List AV) : offAt (.clo f cs : AV) = 0 := rfl
@[go_sem] theorem ev_offAt_agg (cs : List AV) : offAt (.agg cs : AV) = 0 := rfl
@[go_sem] theorem ev_offAt_tup (vs : List AV) : offAt (.tup vs : AV) = 0 := rfl
@[go_sem] theorem ev_offAt_yld (k : Nat) : offAt (.yld k : AV) = 0 := rfl
@[go_sem] theorem ev_offAt_mp (k : Nat) : offAt (.mp k : AV) = 0 := rfl
@[go_sem] theorem ev_offAt_tab (l : List (Int × FuncId)) : offAt (.tab l : AV) = 0 := rfl
@[go_sem] theorem ev_offAt_vec (id ver o n : Nat) : offAt (.vec id ver o n : AV) = 0 := rfl
@[go_sem] theorem ev_offAt_vel (id ver o : Nat) : offAt (.vel id ver o : AV) = o := rfl
@[go_sem] theorem ev_isBox_val (v : Value) : isBox (.val v : AV) = false := rfl
@[go_sem] theorem ev_isBox_list (xs : List AV) (o : Own) : isBox (.list xs o : AV) = false := rfl
@[go_sem] theorem ev_isBox_elem (x : AV) (k : Nat) : isBox (.elem x k : AV) = false := rfl
@[go_sem] theorem ev_isBox_box (l k : Nat) : isBox (.box l k : AV) = true := rfl
@[go_sem] theorem ev_isBox_clo (f : FuncId) (cs : List AV) : isBox (.clo f cs : AV) = false := rfl
@[go_sem] theorem ev_isBox_agg (cs : List AV) : isBox (.agg cs : AV) = false := rfl
@[go_sem] theorem ev_isBox_tup (vs : List AV) : isBox (.tup vs : AV) = false := rfl
@[go_sem] theorem ev_isBox_yld (k : Nat) : isBox (.yld k : AV) = false := rfl
@[go_sem] theorem ev_isBox_mp (k : Nat) : isBox (.mp k : AV) = false := rfl
@[go_sem] theorem ev_isBox_tab (l : List (Int × FuncId)) : isBox (.tab l : AV) = false := rfl
@[go_sem] theorem ev_isBox_vec (id ver o n : Nat) : isBox (.vec id ver o n : AV) = false := rfl
@[go_sem] theorem ev_isBox_vel (id ver o : Nat) : isBox (.vel id ver o : AV) = true := rfl
@[go_sem] theorem ev_notTup_val (v : Value) : notTup (.val v : AV) = true := rfl
@[go_sem] theorem ev_notTup_list (xs : List AV) (o : Own) : notTup (.list xs o : AV) = true := rfl
@[go_sem] theorem ev_notTup_elem (x : AV) (k : Nat) : notTup (.elem x k : AV) = true := rfl
@[go_sem] theorem ev_notTup_box (l k : Nat) : notTup (.box l k : AV) = true := rfl
@[go_sem] theorem ev_notTup_clo (f : FuncId) (cs : List AV) : notTup (.clo f cs : AV) = true := rfl
@[go_sem] theorem ev_notTup_agg (cs : List AV) : notTup (.agg cs : AV) = true := rfl
@[go_sem] theorem ev_notTup_tup (vs : List AV) : notTup (.tup vs : AV) = false := rfl
@[go_sem] theorem ev_notTup_yld (k : Nat) : notTup (.yld k : AV) = true := rfl
@[go_sem] theorem ev_notTup_mp (k : Nat) : notTup (.mp k : AV) = true := rfl
@[go_sem] theorem ev_notTup_tab (l : List (Int × FuncId)) : notTup (.tab l : AV) = true := rfl
@[go_sem] theorem ev_notTup_vec (id ver o n : Nat) : notTup (.vec id ver o n : AV) = true := rfl
@[go_sem] theorem ev_notTup_vel (id ver o : Nat) : notTup (.vel id ver o : AV) = true := rfl
@[go_sem] theorem ev_isAggA_val (v : Value) : isAggA (.val v : AV) = false := rfl
@[go_sem] theorem ev_isAggA_list (xs : List AV) (o : Own) : isAggA (.list xs o : AV) = false := rfl
@[go_sem] theorem ev_isAggA_elem (x : AV) (k : Nat) : isAggA (.elem x k : AV) = false := rfl
@[go_sem] theorem ev_isAggA_box (l k : Nat) : isAggA (.box l k : AV) = false := rfl
@[go_sem] theorem ev_isAggA_clo (f : FuncId) (cs : List AV) : isAggA (.clo f cs : AV) = false := rfl
@[go_sem] theorem ev_isAggA_agg (cs : List AV) : isAggA (.agg cs : AV) = true := rfl
@[go_sem] theorem ev_isAggA_tup (vs : List AV) : isAggA (.tup vs : AV) = false := rfl
@[go_sem] theorem ev_isAggA_yld (k : Nat) : isAggA (.yld k : AV) = false := rfl
@[go_sem] theorem ev_isAggA_mp (k : Nat) : isAggA (.mp k : AV) = false := rfl
@[go_sem] theorem ev_isAggA_tab (l : List (Int × FuncId)) : isAggA (.tab l : AV) = false := rfl
@[go_sem] theorem ev_isAggA_vec (id ver o n : Nat) : isAggA (.vec id ver o n : AV) = false := rfl
@[go_sem] theorem ev_isAggA_vel (id ver o : Nat) : isAggA (.vel id ver o : AV) = false := rfl
@[go_sem] theorem ev_AV_cells_val (v : Value) : AV.cells (.val v : AV) = [.val v] := rfl
@[go_sem] theorem ev_AV_cells_list (xs : List AV) (o : Own) : AV.cells (.list xs o : AV) = [.list xs o] := rfl
@[go_sem] theorem ev_AV_cells_elem (x : AV) (k : Nat) : AV.cells (.elem x k : AV) = [.elem x k] := rfl
@[go_sem] theorem ev_AV_cells_box (l k : Nat) : AV.cells (.box l k : AV) = [.box l k] := rfl
@[go_sem] theorem ev_AV_cells_clo (f : FuncId) (cs : List AV) : AV.cells (.clo f cs : AV) = [.clo f cs] := rfl
@[go_sem] theorem ev_AV_cells_agg (cs : List AV) : AV.cells (.agg cs : AV) = cs := rfl
@[go_sem] theorem ev_AV_cells_tup (vs : List AV) : AV.cells (.tup vs : AV) = [.tup vs] := rfl
@[go_sem] theorem ev_AV_cells_yld (k : Nat) : AV.cells (.yld k : AV) = [.yld k] := rfl
@[go_sem] theorem ev_AV_cells_mp (k : Nat) : AV.cells (.mp k : AV) = [.mp k] := rfl
@[go_sem] theorem ev_AV_cells_tab (l : List (Int × FuncId)) : AV.cells (.tab l : AV) = [.tab l] := rfl
@[go_sem] theorem ev_AV_cells_vec (id ver o n : Nat) : AV.cells (.vec id ver o n : AV) = [.vec id ver o n] := rfl
@[go_sem] theorem ev_AV_cells_vel (id ver o : Nat) : AV.cells (.vel id ver o : AV) = [.vel id ver o] := rfl
@[go_sem] theorem ev_AV_pub_val (v : Value) : AV.pub (.val v : AV) = .val v := rfl
@[go_sem] theorem ev_AV_pub_list (xs : List AV) (o : Own) : AV.pub (.list xs o : AV) = .list xs .none := rfl
@[go_sem] theorem ev_AV_pub_elem (x : AV) (k : Nat) : AV.pub (.elem x k : AV) = .elem x k := rfl
@[go_sem] theorem ev_AV_pub_box (l k : Nat) : AV.pub (.box l k : AV) = .box l k := rfl
@[go_sem] theorem ev_AV_pub_clo (f : FuncId) (cs : List AV) : AV.pub (.clo f cs : AV) = .clo f cs := rfl
@[go_sem] theorem ev_AV_pub_agg (cs : List AV) : AV.pub (.agg cs : AV) = .agg (cs.map AV.pubCell) := rfl
@[go_sem] theorem ev_AV_pub_tup (vs : List AV) : AV.pub (.tup vs : AV) = .tup vs := rfl
@[go_sem] theorem ev_AV_pub_yld (k : Nat) : AV.pub (.yld k : AV) = .yld k := rfl
@[go_sem] theorem ev_AV_pub_mp (k : Nat) : AV.pub (.mp k : AV) = .mp k := rfl
@[go_sem] theorem ev_AV_pub_tab (l : List (Int × FuncId)) : AV.pub (.tab l : AV) = .tab l := rfl
@[go_sem] theorem ev_AV_pub_vec (id ver o n : Nat) : AV.pub (.vec id ver o n : AV) = .vec id ver o n := rfl
@[go_sem] theorem ev_AV_pub_vel (id ver o : Nat) : AV.pub (.vel id ver o : AV) = .vel id ver o := rfl
@[go_sem] theorem ev_AV_pubCell_val (v : Value) : AV.pubCell (.val v : AV) = .val v := rfl
@[go_sem] theorem ev_AV_pubCell_list (xs : List AV) (o : Own) : AV.pubCell (.list xs o : AV) = .list xs .none := rfl
@[go_sem] theorem ev_AV_pubCell_elem (x : AV) (k : Nat) : AV.pubCell (.elem x k : AV) = .elem x k := rfl
@[go_sem] theorem ev_AV_pubCell_box (l k : Nat) : AV.pubCell (.box l k : AV) = .box l k := rfl
@[go_sem] theorem ev_AV_pubCell_clo (f : FuncId) (cs : List AV) : AV.pubCell (.clo f cs : AV) = .clo f cs := rfl
@[go_sem] theorem ev_AV_pubCell_agg (cs : List AV) : AV.pubCell (.agg cs : AV) = .agg cs := rfl
@[go_sem] theorem ev_AV_pubCell_tup (vs : List AV) : AV.pubCell (.tup vs : AV) = .tup vs := rfl
@[go_sem] theorem ev_AV_pubCell_yld (k : Nat) : AV.pubCell (.yld k : AV) = .yld k := rfl
@[go_sem] theorem ev_AV_pubCell_mp (k : Nat) : AV.pubCell (.mp k : AV) = .mp k := rfl
@[go_sem] theorem ev_AV_pubCell_tab (l : List (Int × FuncId)) : AV.pubCell (.tab l : AV) = .tab l := rfl
@[go_sem] theorem ev_AV_pubCell_vec (id ver o n : Nat) : AV.pubCell (.vec id ver o n : AV) = .vec id ver o n := rfl
@[go_sem] theorem ev_AV_pubCell_vel (id ver o : Nat) : AV.pubCell (.vel id ver o : AV) = .vel id ver o := rfl
@[go_sem] theorem ev_AV_one_val (v : Value) : AV.one (.val v : AV) = true := rfl
@[go_sem] theorem ev_AV_one_list (xs : List AV) (o : Own) : AV.one (.list xs o : AV) = true := rfl
@[go_sem] theorem ev_AV_one_elem (x : AV) (k : Nat) : AV.one (.elem x k : AV) = true := rfl
@[go_sem] theorem ev_AV_one_box (l k : Nat) : AV.one (.box l k : AV) = true := rfl
@[go_sem] theorem ev_AV_one_clo (f : FuncId) (cs : List AV) : AV.one (.clo f cs : AV) = true := rfl
@[go_sem] theorem ev_AV_one_agg (cs : List AV) : AV.one (.agg cs : AV) = false := rfl
@[go_sem] theorem ev_AV_one_tup (vs : List AV) : AV.one (.tup vs : AV) = false := rfl
@[go_sem] theorem ev_AV_one_yld (k : Nat) : AV.one (.yld k : AV) = true := rfl
@[go_sem] theorem ev_AV_one_mp (k : Nat) : AV.one (.mp k : AV) = true := rfl
@[go_sem] theorem ev_AV_one_tab (l : List (Int × FuncId)) : AV.one (.tab l : AV) = true := rfl
@[go_sem] theorem ev_AV_one_vec (id ver o n : Nat) : AV.one (.vec id ver o n : AV) = true := rfl
@[go_sem] theorem ev_AV_one_vel (id ver o : Nat) : AV.one (.vel id ver o : AV) = true := rfl
@[go_sem] theorem ev_refAdd_box (l o n : Nat) : refAdd (.box l o) n = .box l (o + n) := rfl
@[go_sem] theorem ev_refAdd_vel (id ver o n : Nat) : refAdd (.vel id ver o) n = .vel id ver (o + n) := rfl
@[go_sem] theorem ev_refAdd_elem (x : AV) (o n : Nat) : refAdd (.elem x o) n = .elem x (o + n) := rfl
@[go_sem] theorem ev_storeB (st : St) (l o : Nat) (xs : List AV) : storeB st (.box l o) xs = { st with boxes := st.boxes.set l (splice (st.boxes.getD l []) o xs) } := rfl
@[go_sem] theorem ev_sel_true (a b : AV) : AV.sel true a b = a := by unfold AV.sel; split <;> rfl
@[go_sem] theorem ev_sel_false (a b : AV) : AV.sel false a b = b := by unfold AV.sel; split <;> rfl
@[go_sem] theorem ev_sel_bool (t a b : Bool) : AV.sel t (.val (.bool a)) (.val (.bool b)) = .val (.bool (cond t a b)) := by cases t <;> rfl
attribute [go_sem] under_val under_list under_elem under_box under_clo under_agg under_tup under_yld under_mp under_vec under_vel
@[go_sem] theorem tmpsOf_nil : tmpsOf [] = [] := rfl
@[go_sem] theorem tmpsOf_tmp (t : Nat) (r : List Operand) : tmpsOf (.tmp t :: r) = t :: tmpsOf r := rfl
@[go_sem] theorem tmpsOf_const (v : Value) (r : List Operand) : tmpsOf (.const v :: r) = tmpsOf r := rfl
@[go_sem] theorem tmpsOf_func (f : FuncId) (r : List Operand) : tmpsOf (.func f :: r) = tmpsOf r := rfl
@[go_sem] theorem tmpsOf_global (g : Nat) (r : List Operand) : tmpsOf (.global g :: r) = tmpsOf r := rfl
@[go_sem] theorem false_to (p : Prop) : (False → p) = True := eq_true False.elim
@[go_sem] theorem true_to (p : Prop) : (True → p) = p := propext ⟨fun h => h trivial, fun h _ => h⟩
@[go_sem] theorem to_true (p : Sort _) : (p → True) = True := eq_true fun _ => trivial
@[go_sem] theorem ite_f (b c : Bool) : (if b = true then c else false) = (b && c) := by cases b <;> rfl
@[go_sem] theorem ite_t (b c : Bool) : (if b = true then true else c) = (b || c) := by cases b <;> rfl
@[go_sem] theorem bif_f (b c : Bool) : cond b c false = (b && c) := by cases b <;> rfl
@[go_sem] theorem bif_t (b c : Bool) : cond b true c = (b || c) := by cases b <;> rfl
@[go_sem] theorem bif_tt (b c : Bool) : cond true b c = b := rfl
@[go_sem] theorem bif_ff (b c : Bool) : cond false b c = c := rfl
@[go_sem] theorem beq_true' (b : Bool) : (b == true) = b := by cases b <;> rfl
@[go_sem] theorem beq_false' (b : Bool) : (b == false) = !b := by cases b <;> rfl
attribute [go_sem] List.filterMap_nil List.append_nil List.nil_append List.cons_append Option.toList List.map_cons List.map_nil and_imp not_false_eq_true true_and and_true forall_const imp_self reduceIte List.getElem?_cons_zero List.getElem?_cons_succ Option.bind_some Bool.true_and Bool.and_true Bool.false_and Bool.and_false Bool.or_true Bool.true_or Bool.or_false Bool.false_or List.toList_toArray List.mem_cons List.not_mem_nil or_false false_or forall_eq forall_eq_or_imp decide_eq_true_eq decide_eq_false_iff_not Bool.not_true Bool.not_false Bool.not_not
@[go_sem] theorem not_tt (b : Bool) : ((!b) = true) = (b = false) := by cases b <;> simp
@[go_sem] theorem not_ff (b : Bool) : ((!b) = false) = (b = true) := by cases b <;> simp
@[go_sem] theorem and_tt (b c : Bool) : ((b && c) = true) = (b = true ∧ c = true) := Bool.and_eq_true b c
@[go_sem] theorem toNat_lit (n : Nat) : (no_index (@OfNat.ofNat Int n instOfNat)).toNat = @OfNat.ofNat Nat n (instOfNatNat n) := rfl
@[go_sem] theorem dec_true (i : Decidable True) : @decide True i = true := by cases i with | isTrue h => rfl | isFalse h => exact absurd trivial h
@[go_sem] theorem dec_false (i : Decidable False) : @decide False i = false := by cases i with | isTrue h => exact h.elim | isFalse h => rfl
@[go_sem] theorem tt_tt' (b : Bool) : (b == b) = true := by cases b <;> rfl
@[go_sem] theorem eq_rfl_st (s : St) : (s = s) = True := eq_true rfl
@[go_sem] theorem tt_tt : (true = true) = True := eq_true rfl
@[go_sem] theorem ff_tt : (false = true) = False := eq_false (by decide)
@[go_sem] theorem tt_ff : (true = false) = False := eq_false (by decide)
@[go_sem] theorem ff_ff : (false = false) = True := eq_true rfl
@[go_sem] theorem boxes_len (B l : List (List AV)) : (B ++ l).length = B.length + l.length := List.length_append
@[go_sem] theorem rows_len (B l : List RowA) : (B ++ l).length = B.length + l.length := List.length_append
@[go_sem] theorem keysAt_own (B : List (List AV)) (R : List RowA) (L : List LoopA) (ks : List ByteArray) : keysAt ⟨B, R, L ++ [mapA ks]⟩ L.length = some ks := by simp [keysAt, mapA]
@[go_sem] theorem set_mapA (L : List LoopA) (a b : LoopA) : (L ++ [a]).set L.length b = L ++ [b] := by simp
@[go_sem] theorem isRef_own (B l : List (List AV)) (R : List RowA) (L : List LoopA) (k o : Nat) : isRef ⟨B ++ l, R, L⟩ (.box (B.length + k) o) = decide (k < l.length) := by simp [isRef]
@[go_sem] theorem isRef_own0 (B l : List (List AV)) (R : List RowA) (L : List LoopA) (o : Nat) : isRef ⟨B ++ l, R, L⟩ (.box B.length o) = decide (0 < l.length) := by simp [isRef]
@[go_sem] theorem isRef_elem (s : St) (x : AV) (o : Nat) : isRef s (.elem x o) = notTup x := by cases x <;> rfl
@[go_sem] theorem getD_own (B l : List (List AV)) (k : Nat) : (B ++ l).getD (B.length + k) [] = l.getD k [] := by
 rw [List.getD_eq_getElem?_getD, List.getElem?_append_right (by omega), Nat.add_sub_cancel_left, List.getD_eq_getElem?_getD]
@[go_sem] theorem getD_own0 (B l : List (List AV)) : (B ++ l).getD B.length [] = l.getD 0 [] := by
 rw [List.getD_eq_getElem?_getD, List.getElem?_append_right (by omega), Nat.sub_self, List.getD_eq_getElem?_getD]
@[go_sem] theorem cellsAt_own (B l : List (List AV)) (R : List RowA) (L : List LoopA) (k o : Nat) : cellsAt ⟨B ++ l, R, L⟩ (.box (B.length + k) o) = l.getD k [] := getD_own B l k
@[go_sem] theorem cellsAt_own0 (B l : List (List AV)) (R : List RowA) (L : List LoopA) (o : Nat) : cellsAt ⟨B ++ l, R, L⟩ (.box B.length o) = l.getD 0 [] := getD_own0 B l
@[go_sem] theorem cellsAt_elem (s : St) (x : AV) (o : Nat) : cellsAt s (.elem x o) = x.cells := rfl
@[go_sem] theorem set_own (B l : List (List AV)) (k : Nat) (x : List AV) : (B ++ l).set (B.length + k) x = B ++ l.set k x := by rw [List.set_append_right _ _ (by omega), Nat.add_sub_cancel_left]
@[go_sem] theorem set_own0 (B l : List (List AV)) (x : List AV) : (B ++ l).set B.length x = B ++ l.set 0 x := by rw [List.set_append_right _ _ (by omega), Nat.sub_self]
@[go_sem] theorem row_own (B l : List RowA) (k : Nat) : (B ++ l)[B.length + k]? = l[k]? := by rw [List.getElem?_append_right (by omega), Nat.add_sub_cancel_left]
@[go_sem] theorem row_own0 (B l : List RowA) : (B ++ l)[B.length]? = l[0]? := by rw [List.getElem?_append_right (by omega), Nat.sub_self]
@[go_sem] theorem rset_own (B l : List RowA) (k : Nat) (x : RowA) : (B ++ l).set (B.length + k) x = B ++ l.set k x := by rw [List.set_append_right _ _ (by omega), Nat.add_sub_cancel_left]
@[go_sem] theorem rset_own0 (B l : List RowA) (x : RowA) : (B ++ l).set B.length x = B ++ l.set 0 x := by rw [List.set_append_right _ _ (by omega), Nat.sub_self]
attribute [go_sem] List.take_succ_cons List.take_zero List.take_nil List.drop_succ_cons List.drop_zero List.drop_nil Int.toNat_natCast List.append_assoc List.length_cons List.length_nil Nat.zero_add Nat.add_zero List.set_cons_zero List.set_cons_succ List.getD_cons_zero List.getD_cons_succ
@[go_sem] theorem splice_all (x v : AV) : splice [x] 0 [v] = [v] := rfl
@[go_sem] theorem drop_take_all (l : List AV) (n : Nat) (h : l.length = n) : (l.drop 0).take n = l := by simp [← h]
theorem enters_some {P : Program} {f : FuncId} {fn : Func} (hf : P.funcs[f]? = some fn) (hb : fn.body.isSome = true) (hn : fn.name ≠ "runtime.NumGoroutine") : Enters P f := by
 obtain ⟨c, hc⟩ := Option.isSome_iff_exists.1 hb
 exact Ev.enters_of hf hc hn
theorem acalls_below {P : Program} {w0 : World} {f : FuncId} {args : List AV} {st : St} {r : Value} (hen : Enters P f) (hr : flatV r = true)
  (h : ∀ (M : Mem) (w : World) (vals : Array Value), Below w0.heap.size w0 w → RowR w0 M w vals args → Calls P f vals w fun en w' => en = .returned r ∧ Below w.heap.size w w') : ACalls P w0 f args st fun v s => v = .val r ∧ s = st :=
 ⟨hen, fun M w vals hst hrow => (h M w vals hst.below hrow).mono fun en w' ⟨h1, h2⟩ => by
  obtain ⟨r1, r2⟩ := hst.later h2 w.heap.size 0 (Nat.le_refl _) (.inr rfl)
  exact ⟨r, _, _, st, h1, ⟨rfl, rfl⟩, r2, r1, .flat hr⟩⟩
theorem acalls_below_tup {P : Program} {w0 : World} {f : FuncId} {args : List AV} {st : St} {rs : List Value} (hen : Enters P f) (hr : ∀ r ∈ rs, flatV r = true)
  (h : ∀ (M : Mem) (w : World) (vals : Array Value), Below w0.heap.size w0 w → RowR w0 M w vals args → Calls P f vals w fun en w' => en = .returned (.tuple rs.toArray) ∧ Below w.heap.size w w') : ACalls P w0 f args st fun v s => v = .tup (rs.map .val) ∧ s = st :=
 ⟨hen, fun M w vals hst hrow => (h M w vals hst.below hrow).mono fun en w' ⟨h1, h2⟩ => by
  obtain ⟨r1, r2⟩ := hst.later h2 w.heap.size 0 (Nat.le_refl _) (.inr rfl)
  exact ⟨.tuple rs.toArray, _, _, st, h1, ⟨rfl, rfl⟩, r2, r1, .tup (by simp) fun i a b => by simp only [List.getElem_toArray, List.getElem_map]; exact .flat (hr _ (List.getElem_mem _))⟩⟩
theorem row_vals {w0 : World} {M : Mem} {w : World} {vals : Array Value} {us : List Value} (h : RowR w0 M w vals (us.map .val)) : vals = us.toArray := by
 apply Array.ext
 ·
  simpa using h.1
 ·
  intro i h1 h2
  have h2' : i < us.length := by simpa using h2
  have := h.2 i h1 (by simpa using h2')
  simp only [List.getElem_map] at this
  simp only [List.getElem_toArray]
  exact this.val_inv.1
@[go_sem] theorem evAppend_full (P : Program) (st : St) (t : TypeId) (xs : List AV) (x : AV) : evAppend P st t (.list xs .full) x = match elT P t with
  | some (el, sz, _, by8) => if (listOf x).length = 0 then (isList x = true ∧ 0 < sz, .list xs .full, st)
   else (isList x = true ∧ appendOb P el sz by8 xs.length (listOf x) ∧ (∀ y ∈ xs, y.cells.length = sz), .list (xs ++ (listOf x).map AV.pub) (.row st.rows.length), { st with rows := st.rows ++ [.grow (xs.length + (listOf x).length) sz] })
  | none => (False, .junk, st) := rfl
@[go_sem] theorem evAppend_row (P : Program) (st : St) (t : TypeId) (xs : List AV) (id : Nat) (x : AV) : evAppend P st t (.list xs (.row id)) x = match elT P t with
  | some (el, sz, _, by8) => (isList x = true ∧ appendOb P el sz by8 xs.length (listOf x) ∧ (∀ y ∈ xs, y.cells.length = sz) ∧ st.rows[id]? = some (.grow xs.length sz), .list (xs ++ (listOf x).map AV.pub) (.row id), { st with rows := st.rows.set id (.grow (xs.length + (listOf x).length) sz) })
  | none => (False, .junk, st) := rfl
@[go_sem] theorem evAppend_seed (P : Program) (st : St) (t : TypeId) (ys : List AV) (x : AV) : evAppend P st t (.list ys .seed) x = match elT P t with
  | some (el, sz, _, by8) => if (listOf x).length = 0 then (isList x = true ∧ 0 < sz, .list ys .seed, st)
   else (isList x = true ∧ appendOb P el sz by8 0 (listOf x) ∧ ys.length = 0 ∧ 0 < (listOf x).length, .vec st.rows.length 0 0 (listOf x).length, { st with rows := st.rows ++ [.vec 0 sz ((listOf x).flatMap fun y => y.pub.cells)] })
  | none => (False, .junk, st) := rfl
@[go_sem] theorem evAppend_vec (P : Program) (st : St) (t : TypeId) (id ver o n : Nat) (x : AV) : evAppend P st t (.vec id ver o n) x = match elT P t with
  | some (el, sz, _, by8) => match vecR st.rows id ver with
   | some (sz', cs) => (isList x = true ∧ appendOb P el sz by8 n (listOf x) ∧ sz' = sz ∧ o = 0 ∧ n * sz ≤ cs.length, .vec id (ver + 1) 0 (n + (listOf x).length), { st with rows := st.rows.set id (.vec (ver + 1) sz (cs.take (n * sz) ++ (listOf x).flatMap fun y => y.pub.cells)) })
   | none => (False, .junk, st)
  | none => (False, .junk, st) := rfl
attribute [go_sem] appendOb
@[go_sem] theorem vecR_own (B l : List RowA) (k ver : Nat) : vecR (B ++ l) (B.length + k) ver = vecR l k ver := by simp [vecR, row_own]
@[go_sem] theorem vecR_own0 (B l : List RowA) (ver : Nat) : vecR (B ++ l) B.length ver = vecR l 0 ver := by simp [vecR, row_own0]
@[go_sem] theorem vecR_zero (ver sz : Nat) (cs : List AV) (l : List RowA) : vecR (.vec ver sz cs :: l) 0 ver = some (sz, cs) := by simp [vecR]
@[go_sem] theorem vecR_succ (r : RowA) (l : List RowA) (k ver : Nat) : vecR (r :: l) (k + 1) ver = vecR l k ver := by simp [vecR]
@[go_sem] theorem isRef_vel (s : St) (id ver o : Nat) : isRef s (.vel id ver o) = (vecR s.rows id ver).isSome := rfl
@[go_sem] theorem cellsAt_vel (s : St) (id ver o : Nat) : cellsAt s (.vel id ver o) = match vecR s.rows id ver with | some (_, cs) => cs | none => [] := rfl
@[go_sem] theorem ev_storeB_vel (st : St) (id ver o : Nat) (xs : List AV) : storeB st (.vel id ver o) xs = match vecR st.rows id ver with
  | some (sz, cs) => { st with rows := st.rows.set id (.vec ver sz (splice cs o xs)) }
  | none => st := rfl
def Grow (Rw : List RowA) (sz : Nat) (xs : List AV) (o : Own) (r : List RowA) : Prop := (xs = [] ∧ o = .full ∧ r = []) ∨ (o = .row Rw.length ∧ r = [.grow xs.length sz])
theorem Grow.nil (Rw : List RowA) (sz : Nat) : Grow Rw sz [] .full [] := .inl ⟨rfl, rfl, rfl⟩
theorem Grow.more (Rw : List RowA) (sz : Nat) (xs : List AV) (n : Nat) (h : xs.length = n) : Grow Rw sz xs (.row Rw.length) [.grow n sz] := .inr ⟨rfl, by rw [h]⟩
theorem Grow.len {Rw r : List RowA} {sz : Nat} {xs : List AV} {o : Own} (h : Grow Rw sz xs o r) : r.length ≤ 1 := by
 rcases h with ⟨_, _, rfl⟩ | ⟨_, rfl⟩ <;> simp
def cellK (c : Option IntKind × Bool) (x y : AV) : Prop :=
 match x, y with
 | .val (.int k _), .val (.int k' _) => c.1.isSome = true ∧ k = k'
 | .val (.string _), .val (.string _) => c = (none, true)
 | .val (.bool _), .val (.bool _) => c = (none, false)
 | _, _ => False
def kindK (P : Program) (t : TypeId) : Option (Option IntKind × Bool) :=
 match intT P t with
 | some k => some (some k, false)
 | none => if strT P t = true then some (none, true) else if boolT P t = true then some (none, false) else none
def eqKinds (P : Program) : List Field → Nat → Option (List (Option IntKind × Bool))
 | [], _ => some []
 | f :: fs, i => if f.name ≠ "_" ∧ f.offset = i ∧ tyT P f.type = some (1, false) then
   match kindK P f.type, eqKinds P fs (i + 1) with
   | some k, some ks => some (k :: ks)
   | _, _ => none
  else none
def eqSpec (P : Program) (t : TypeId) : Option (List (Option IntKind × Bool)) :=
 match eqT P t with
 | some fs => eqKinds P fs 0
 | none => none
def obK : List (Option IntKind × Bool) → List AV → List AV → Prop
 | [], [], [] => True
 | k :: ks, x :: xs, y :: ys => cellK k x y ∧ obK ks xs ys
 | _, _, _ => False
theorem cellK_iff {P : Program} {t : TypeId} {k : Option IntKind × Bool} (h : kindK P t = some k) (x y : AV) : eqCellOb P t x y = cellK k x y := by
 have e1 : ∀ j, intT P t = some j → strT P t = false ∧ boolT P t = false := fun j hj => by
  unfold intT at hj
  unfold strT boolT
  split at hj
  ·
   rename_i q; rw [q]; exact ⟨rfl, rfl⟩
  ·
   cases hj
 have e2 : strT P t = true → boolT P t = false := fun hj => by
  unfold strT at hj
  unfold boolT
  split at hj
  ·
   rename_i q; rw [q]
  ·
   cases hj
 unfold kindK at h
 unfold eqCellOb cellK
 cases hi : intT P t with
 | some j =>
  obtain ⟨q1, q2⟩ := e1 j hi
  rw [hi] at h
  cases h
  rw [q1, q2]
  split <;> simp
 | none =>
  rw [hi] at h
  simp only at h
  by_cases hs : strT P t = true
  ·
   rw [if_pos hs] at h
   cases h
   rw [hs, e2 hs]
   split <;> simp
  ·
   rw [if_neg hs] at h
   have hs' : strT P t = false := by simpa using hs
   by_cases hb : boolT P t = true
   ·
    rw [if_pos hb] at h
    cases h
    rw [hs', hb]
    split <;> simp
   ·
    rw [if_neg hb] at h; cases h
theorem eqOb_eq {P : Program} : ∀ (fs : List Field) (i : Nat) (ks : List (Option IntKind × Bool)), eqKinds P fs i = some ks → ∀ xs ys, eqOb P fs i xs ys = obK ks xs ys
 | [], i, ks, h, xs, ys => by
  cases h
  cases xs <;> cases ys <;> simp [eqOb, obK]
 | f :: fs, i, ks, h, xs, ys => by
  unfold eqKinds at h
  split at h
  ·
   rename_i q
   split at h
   ·
    rename_i k ks' h1 h2
    cases h
    cases xs with
    | nil => cases ys <;> simp [eqOb, obK]
    | cons x xs => cases ys with
     | nil => simp [eqOb, obK]
     | cons y ys =>
      simp only [eqOb, obK, eqOb_eq fs (i + 1) ks' h2 xs ys, cellK_iff h1, q, true_and]
      simp [q.1]
   ·
    cases h
  ·
   cases h
theorem evAgg_neq {P : Program} {t : TypeId} {ks : List (Option IntKind × Bool)} (h : eqSpec P t = some ks) (xs ys : List AV) : evAgg P .neq t xs ys = (obK ks xs ys, !eqAll xs ys) := by
 unfold eqSpec at h
 split at h
 ·
  rename_i fs q
  simp only [evAgg, q, eqOb_eq fs 0 ks h]
 ·
  cases h
attribute [go_sem] cellK obK
section
variable {P : Program} {w0 : World} {n : Nat} {M : Mem} {e : Env} {st : St} {a : Act} {w : World}
theorem R.seed {v : Value} (h : R w0 M w v (.list [] .full)) : R w0 M w v (.list [] .seed) := by
 cases h with
 | nil ho => exact .nil (fun id => by simp)
 | emp ho => exact .emp (fun id => by simp)
 | list sz us hc hm hcell hu ho => exact .list (xs := []) sz us hc hm hcell hu ho
theorem awp_conv {M0 : Mem} {W0 : World} {ro : Option Nat} {Q : AQ} {c : Code} (e' : Env) (st' : St)
  (hc : ∀ M a w, Rel w0 n M e st a w → ∃ M', Ext w0 M w M' w ∧ Rel w0 n M' e' st' a w) (h : awp P w0 n M0 W0 ro c Q e' st') : awp P w0 n M0 W0 ro c Q e st := by
 intro m M a w hr
 obtain ⟨M', h1, h2⟩ := hc M a w hr.rel
 exact h m M' a w ⟨h2, hr.ext.trans h1, hr.marks.later h1 hr.rel.st⟩
theorem RelSt.setBox (h : RelSt w0 M st w) {l i : Nat} {cs : List AV} (hl : st.boxes[l]? = some cs) {x y : AV} (hi : cs[i]? = some x) (hone : y.one = true) (hR : ∀ v, R w0 M w v x → R w0 M w v y) :
  RelSt w0 M { st with boxes := st.boxes.set l (cs.set i y) } w := by
 have hlt : l < st.boxes.length := (List.getElem?_eq_some_iff.1 hl).1
 have hilt : i < cs.length := (List.getElem?_eq_some_iff.1 hi).1
 refine ⟨h.below, by simp [h.N], h.NR, h.top, h.inj, fun l' cs' hl' => ?_, h.row, h.rowinj, h.loop⟩
 by_cases q : l' = l
 ·
  subst q
  rw [List.getElem?_set_self hlt] at hl'
  cases hl'
  obtain ⟨a1, a2, c, ty, a3, a4, a5, a6⟩ := h.box l' cs hl
  refine ⟨a1, a2, c, ty, a3, by simp [a4], fun z hz => ?_, fun j h1 h2 => ?_⟩
  ·
   rcases List.mem_or_eq_of_mem_set hz with hz | rfl
   ·
    exact a5 z hz
   ·
    exact hone
  ·
   by_cases e : j = i
   ·
    subst e
    rw [List.getElem_set_self]
    obtain ⟨q1, q2⟩ := List.getElem?_eq_some_iff.1 hi
    exact hR _ (q2 ▸ a6 j h1 q1)
   ·
    rw [List.getElem_set_ne (Ne.symm e)]
    exact a6 j h1 (by simpa using h2)
 ·
  rw [List.getElem?_set_ne (Ne.symm q)] at hl'
  exact h.box l' cs' hl'
theorem awp_seed_box {M0 : Mem} {W0 : World} {ro : Option Nat} {Q : AQ} {c : Code} (l i : Nat) {cs : List AV} (hl : st.boxes[l]? = some cs) (hi : cs[i]? = some (.list [] .full)) (h : awp P w0 n M0 W0 ro c Q e { st with boxes := st.boxes.set l (cs.set i (.list [] .seed)) }) : awp P w0 n M0 W0 ro c Q e st :=
 awp_conv _ _ (fun M a w hr => ⟨M, .refl _ _ _, hr.st.setBox hl hi rfl (fun v hv => hv.seed), hr.size, hr.env⟩) h
def frzL (sz : Nat) (ag : Bool) (cs : List AV) (o m : Nat) : List AV := (List.range m).map fun i => loadA ag cs ((o + i) * sz) sz
theorem frzL_length (sz : Nat) (ag : Bool) (cs : List AV) (o m : Nat) : (frzL sz ag cs o m).length = m := by simp [frzL]
def Mem.freeze (M : Mem) (id k : Nat) : Mem := { M with fr := fun i => if i = id then M.fr i + 1 else M.fr i, top := fun b => if b = M.blk id then k else M.top b }
theorem RelSt.freeze (h : RelSt w0 M st w) {id ver sz : Nat} {cs : List AV} (hid : st.rows[id]? = some (.vec ver sz cs)) :
  Ext w0 M w (M.freeze id cs.length) w ∧ RelSt w0 (M.freeze id cs.length) { st with rows := st.rows.set id (.dead (ver + 1)) } w := by
 have hidl : id < st.rows.length := (List.getElem?_eq_some_iff.1 hid).1
 have hidN : id < M.NR := by rw [h.NR]; exact hidl
 obtain ⟨f1, f2, f3, f4, f5, f6, f7, c, ty, f8, f9, f10, f11, f12⟩ := h.row id _ hid
 have hx : Ext w0 M w (M.freeze id cs.length) w :=
  ⟨Nat.le_refl _, fun _ _ => rfl, Nat.le_refl _, fun i hi => by
   simp only [Mem.freeze]
   by_cases q : i = id
   ·
    rw [if_pos q]; exact ⟨Nat.le_succ _, fun e => absurd e (by omega)⟩
   ·
    rw [if_neg q]; exact ⟨Nat.le_refl _, fun _ => ⟨trivial, trivial, trivial⟩⟩, fun b off v hi hc => ⟨hc, hi.imp (fun q => q) fun q => by
    simp only [Mem.freeze]
    split
    ·
     rename_i e; rw [e, f4] at q; omega
    ·
     exact q⟩, Nat.le_refl _, Nat.le_refl _, fun _ _ => rfl, fun _ h1 h2 => absurd h2 (Nat.not_lt.2 h1), fun _ _ h _ _ => h, fun b _ q => ⟨rfl, q, by
    simp only [Mem.freeze]
    rw [if_neg (fun e => q.2.1 id hidN e.symm)]⟩⟩
 refine ⟨hx, h.below, h.N, by simp [Mem.freeze, h.NR], fun b hb => ?_, h.inj, fun l cs' hl => ?_, fun i x hi => ?_, h.rowinj, h.loop.mono hx rfl (KeepsObj.refl _)⟩
 ·
  have hlt := (Array.getElem?_eq_some_iff.1 f8).1
  simp only [Mem.freeze]
  rw [if_neg (by omega)]
  exact h.top b hb
 ·
  obtain ⟨a1, a2, c, ty, a3, a4, a5, a6⟩ := h.box l cs' hl
  have hlN : l < M.N := by rw [h.N]; exact (List.getElem?_eq_some_iff.1 hl).1
  refine ⟨a1, ?_, c, ty, a3, a4, a5, fun i h1 h2 => (a6 i h1 h2).mono hx⟩
  show (M.freeze id cs.length).top (M.bx l) = 0
  simp only [Mem.freeze]
  rw [if_neg (f5 l hlN)]
  exact a2
 ·
  by_cases q : i = id
  ·
   subst q
   rw [List.getElem?_set_self hidl] at hi
   cases hi
   exact ⟨by simp [Mem.freeze, f1], f3, f5, (Array.getElem?_eq_some_iff.1 f8).1⟩
  ·
   rw [List.getElem?_set_ne (Ne.symm q)] at hi
   have hiN : i < M.NR := by rw [h.NR]; exact (List.getElem?_eq_some_iff.1 hi).1
   have hk := h.row i x hi
   have hne : M.blk i ≠ M.blk id := fun e => q (h.rowinj i id hiN hidN e)
   exact hk.keep hx (by simp [Mem.freeze, q]) rfl rfl rfl (by simp [Mem.freeze, hne]) hk.ne rfl
theorem R.freeze (h : RelSt w0 M st w) {id ver sz : Nat} {cs : List AV} (hid : st.rows[id]? = some (.vec ver sz cs)) {ag : Bool} (hag : ag = true ∨ sz = 1) {o m : Nat} (hb : (o + m) * sz ≤ cs.length) {v : Value} (hv : R w0 M w v (.vec id ver o m)) :
  R w0 (M.freeze id cs.length) w v (.list (frzL sz ag cs o m) .none) := by
 obtain ⟨hx, _⟩ := h.freeze hid
 obtain ⟨f1, f2, f3, f4, f5, f6, f7, c, ty, f8, f9, f10, f11, f12⟩ := h.row id _ hid
 cases hv with
 | @vec _ _ _ _ p cap hi hver hh =>
 obtain ⟨rfl, hcap, hm⟩ := hh f1.symm
 have hl : (frzL sz ag cs o m).length = m := frzL_length _ _ _ _ _
 have hle : ∀ i, i < m → (o + i) * sz + sz ≤ cs.length := fun i hi => by
  have : (o + i + 1) * sz ≤ (o + m) * sz := Nat.mul_le_mul_right _ (by omega)
  rw [Nat.succ_mul] at this
  omega
 let us : Nat → Value := fun i => if ag then .agg ((List.range sz).map fun j => c.getD ((o + i) * sz + j) undef).toArray else c.getD ((o + i) * sz) undef
 have hus : ∀ i, i < m → R w0 M w (us i) (loadA ag cs ((o + i) * sz) sz) := fun i hi => by
  refine loadA_R (f := fun j => c.getD ((o + i) * sz + j) undef) f11 (hle i hi) hag (fun j hj => ?_)
  have hj' : (o + i) * sz + j < c.size := by omega
  rw [Array.getD_eq_getD_getElem?, Array.getElem?_eq_getElem hj']
  exact f12 _ hj' hj
 have hcell : ∀ i, i < m → (us i).cells.size = sz ∧ ∀ j, j < sz → (us i).cells[j]? = c[(o + i) * sz + j]? := fun i hi => by
  by_cases q : ag = true
  ·
   have e : us i = .agg ((List.range sz).map fun j => c.getD ((o + i) * sz + j) undef).toArray := by simp [us, q]
   rw [e]
   refine ⟨by simp [Value.cells], fun j hj => ?_⟩
   have hj' : (o + i) * sz + j < c.size := by have := hle i hi; omega
   simp [Value.cells, hj, Array.getElem?_eq_getElem hj']
  ·
   have hsz : sz = 1 := hag.resolve_left q
   have e : us i = c.getD ((o + i) * sz) undef := by simp [us, q]
   have hj' : (o + i) * sz < c.size := by have := hle i hi; omega
   have hlt : (o + i) * sz < cs.length := by have := hle i hi; omega
   have hc1 := (f12 _ hj' hlt).cells_one (f11 _ (List.getElem_mem _))
   rw [e, Array.getD_eq_getD_getElem?, Array.getElem?_eq_getElem hj', Option.getD_some, hc1.1]
   refine ⟨by simp [hsz], fun j hj => ?_⟩
   obtain rfl : j = 0 := by omega
   simp [Array.getElem?_eq_getElem hj']
 have := R.list (w0 := w0) (M := M.freeze id cs.length) (w := w) (b := M.blk id) (off := o * sz) (cap := cap) (xs := frzL sz ag cs o m) (o := .none) sz us (by rw [hl]; exact hm) (by omega)
  (fun i hi => by
   rw [hl] at hi
   refine ⟨(hcell i hi).1, fun j hj => ⟨.inr ?_, ?_⟩⟩
   ·
    have h1 := hle i hi
    rw [Nat.add_mul] at h1
    simp only [Mem.freeze, if_true]
    omega
   ·
    rw [(hcell i hi).2 j hj, Nat.add_mul, cell_of_row w _ _ c ty _ f8]) (fun i hi => by
   rw [hl] at hi
   simp only [frzL, List.getElem_map, List.getElem_range]
   exact (hus i hi).mono hx) trivial
 rw [hl] at this
 rw [f2]
 exact this
theorem awp_freeze_box {M0 : Mem} {W0 : World} {ro : Option Nat} {Q : AQ} {c : Code} (l i : Nat) {id ver sz o m : Nat} {bs cs : List AV} (ag : Bool) (hl : st.boxes[l]? = some bs) (hi : bs[i]? = some (.vec id ver o m)) (hid : vecR st.rows id ver = some (sz, cs)) (hag : ag = true ∨ sz = 1) (hb : (o + m) * sz ≤ cs.length)
  (h : awp P w0 n M0 W0 ro c Q e { st with boxes := st.boxes.set l (bs.set i (.list (frzL sz ag cs o m) .none)), rows := st.rows.set id (.dead (ver + 1)) }) : awp P w0 n M0 W0 ro c Q e st :=
 awp_conv _ _ (fun M a w hr => by
  obtain ⟨h1, h2⟩ := hr.st.freeze (vecR_spec hid)
  have hbox := hr.st.box l bs hl
  obtain ⟨a1, a2, c, ty, a3, a4, a5, a6⟩ := hbox
  obtain ⟨q1, q2⟩ := List.getElem?_eq_some_iff.1 hi
  have hR : R w0 (M.freeze id cs.length) w (c[i]'(by omega)) (.list (frzL sz ag cs o m) .none) := R.freeze hr.st (vecR_spec hid) hag hb (q2 ▸ a6 i (by omega) q1)
  have hlt : l < st.boxes.length := (List.getElem?_eq_some_iff.1 hl).1
  refine ⟨_, h1, ⟨h2.below, by simpa using h2.N, h2.NR, h2.top, h2.inj, fun l' cs' hl' => ?_, h2.row, h2.rowinj, h2.loop⟩, hr.size, fun s x hs => (hr.env s x hs).mono h1⟩
  by_cases q : l' = l
  ·
   subst q
   simp only [List.getElem?_set_self hlt, Option.some.injEq] at hl'
   subst hl'
   obtain ⟨b1, b2, c', ty', b3, b4, b5, b6⟩ := h2.box l' bs hl
   have ec : c' = c := by
    have := b3.symm.trans a3
    simp only [Option.some.injEq, Obj.cells.injEq] at this
    exact this.1
   subst ec
   refine ⟨b1, b2, c', ty', b3, by simp [b4], fun z hz => ?_, fun j h3 h4 => ?_⟩
   ·
    rcases List.mem_or_eq_of_mem_set hz with hz | rfl
    ·
     exact b5 z hz
    ·
     rfl
   ·
    by_cases e : j = i
    ·
     subst e
     rw [List.getElem_set_self]
     exact hR
    ·
     rw [List.getElem_set_ne (Ne.symm e)]
     exact b6 j h3 (by simpa using h4)
  ·
   simp only [List.getElem?_set_ne (Ne.symm q)] at hl'
   exact h2.box l' cs' hl') h
end
def AV.pubA : AV → AV
 | .tup vs => .tup (vs.map AV.pub)
 | .agg cs => .agg (cs.map AV.pubCell)
 | .list xs _ => .list xs .none
 | x => x
section
variable (vs cs xs : List AV) (o : Own) (v : Value) (x : AV) (i j k m : Nat)
@[go_sem] theorem pubA_tup : AV.pubA (.tup vs) = .tup (vs.map AV.pub) := rfl
@[go_sem] theorem pubA_agg : AV.pubA (.agg cs) = .agg (cs.map AV.pubCell) := rfl
@[go_sem] theorem pubA_list : AV.pubA (.list xs o) = .list xs .none := rfl
@[go_sem] theorem pubA_val : AV.pubA (.val v) = .val v := rfl
@[go_sem] theorem pubA_elem : AV.pubA (.elem x i) = .elem x i := rfl
@[go_sem] theorem pubA_box : AV.pubA (.box i j) = .box i j := rfl
@[go_sem] theorem pubA_clo : AV.pubA (.clo i xs) = .clo i xs := rfl
@[go_sem] theorem pubA_yld : AV.pubA (.yld i) = .yld i := rfl
@[go_sem] theorem pubA_mp : AV.pubA (.mp i) = .mp i := rfl
@[go_sem] theorem pubA_tab (l : List (Int × FuncId)) : AV.pubA (.tab l) = .tab l := rfl
@[go_sem] theorem pubA_vec : AV.pubA (.vec i j k m) = .vec i j k m := rfl
@[go_sem] theorem pubA_vel : AV.pubA (.vel i j k) = .vel i j k := rfl
@[go_sem] theorem pub_agg : AV.pub (.agg cs) = .agg (cs.map AV.pubCell) := rfl
@[go_sem] theorem pub_list : AV.pub (.list xs o) = .list xs .none := rfl
@[go_sem] theorem pub_val : AV.pub (.val v) = .val v := rfl
@[go_sem] theorem pub_elem : AV.pub (.elem x i) = .elem x i := rfl
@[go_sem] theorem pub_box : AV.pub (.box i j) = .box i j := rfl
@[go_sem] theorem pub_clo : AV.pub (.clo i xs) = .clo i xs := rfl
@[go_sem] theorem pub_yld : AV.pub (.yld i) = .yld i := rfl
@[go_sem] theorem pub_mp : AV.pub (.mp i) = .mp i := rfl
@[go_sem] theorem pub_tab (l : List (Int × FuncId)) : AV.pub (.tab l) = .tab l := rfl
@[go_sem] theorem pub_vec : AV.pub (.vec i j k m) = .vec i j k m := rfl
@[go_sem] theorem pub_vel : AV.pub (.vel i j k) = .vel i j k := rfl
@[go_sem] theorem pubCell_list : AV.pubCell (.list xs o) = .list xs .none := rfl
@[go_sem] theorem pubCell_val : AV.pubCell (.val v) = .val v := rfl
@[go_sem] theorem pubCell_elem : AV.pubCell (.elem x i) = .elem x i := rfl
@[go_sem] theorem pubCell_box : AV.pubCell (.box i j) = .box i j := rfl
@[go_sem] theorem pubCell_clo : AV.pubCell (.clo i xs) = .clo i xs := rfl
@[go_sem] theorem pubCell_yld : AV.pubCell (.yld i) = .yld i := rfl
@[go_sem] theorem pubCell_mp : AV.pubCell (.mp i) = .mp i := rfl
@[go_sem] theorem pubCell_tab (l : List (Int × FuncId)) : AV.pubCell (.tab l) = .tab l := rfl
@[go_sem] theorem pubCell_vec : AV.pubCell (.vec i j k m) = .vec i j k m := rfl
@[go_sem] theorem pubCell_vel : AV.pubCell (.vel i j k) = .vel i j k := rfl
end
theorem R.pubA {w0 : World} {M : Mem} {w : World} {v : Value} {x : AV} (h : R w0 M w v x) : R w0 M w v x.pubA := by
 cases h with
 | tup hl h => exact .tup (by simpa using hl) (fun i a b => by simp only [List.getElem_map]; exact (h i a (by simpa using b)).pub)
 | flat hf => exact (R.flat hf).pub
 | agg hl h1 h => exact (R.agg hl h1 h).pub
 | nil ho => exact (R.nil ho).pub
 | emp ho => exact (R.emp ho).pub
 | list sz us hc hm hcell hu ho => exact (R.list sz us hc hm hcell hu ho).pub
 | elem u k hcell hu => exact (R.elem u k hcell hu).pub
 | box hl => exact (R.box hl).pub
 | clo hl h => exact (R.clo hl h).pub
 | yld hk => exact (R.yld hk).pub
 | mp hk => exact (R.mp hk).pub
 | tab h hk hn => exact (R.tab h hk hn).pub
 | vec hi hv h => exact (R.vec hi hv h).pub
 | vel hi hv h => exact (R.vel hi hv h).pub
section
variable {P : Program} {w0 : World} {st : St} {f : FuncId}
theorem ACalls.pub {args args' : List AV} {Post : AV → St → Prop} (h : ACalls P w0 f args' st Post) (he : args.map AV.pubA = args') : ACalls P w0 f args st Post := by
 subst he
 refine ⟨h.1, fun M w vals hst hrow => h.2 M w vals hst ?_⟩
 obtain ⟨hl, hr⟩ := hrow
 refine ⟨by simpa using hl, fun i a b => ?_⟩
 simp only [List.getElem_map]
 exact (hr i a (by simpa using b)).pubA
theorem callK_p {c d : Bool} {cs args args' : List AV} {k : AV → St → Prop} (v : AV)
  (h : ACalls P w0 f args' st fun r s => r = v ∧ s = st) (he : (args ++ cs).map AV.pubA = args') (hk : k v st) : callK P w0 c d (.clo f cs) args st k := .inl ⟨v, fun _ => h.pub he, hk⟩
theorem callK_p_if {c d : Bool} {cs args args' : List AV} {k : AV → St → Prop} (v : AV)
  (h : c = true → ACalls P w0 f args' st fun r s => r = v ∧ s = st) (he : (args ++ cs).map AV.pubA = args') (hk : k v st) : callK P w0 c d (.clo f cs) args st k := .inl ⟨v, fun q => (h q).pub he, hk⟩
theorem callK_pp {cs args args' : List AV} {k : AV → St → Prop} (Post : AV → St → Prop)
  (h : ACalls P w0 f args' st Post) (he : (args ++ cs).map AV.pubA = args') (hk : ∀ v s, Post v s → k v s) : callK P w0 true false (.clo f cs) args st k := .inr ⟨rfl, Post, fun _ => h.pub he, fun v s h1 _ => hk v s (h1 rfl)⟩
def finP (st : St) (Post : AV → St → Prop) (r : AV) (s : St) : Prop :=
 st.boxes.length ≤ s.boxes.length ∧ st.rows.length ≤ s.rows.length ∧ st.loops.length ≤ s.loops.length ∧ Calm st.boxes.length st.rows.length st.loops.length (s.cut st.boxes.length st.rows.length st.loops.length) ∧
  Under st.boxes.length st.rows.length st.loops.length r.pubA ∧ Post r.pubA (s.cut st.boxes.length st.rows.length st.loops.length)
theorem ACalls.finP {args : List AV} {Post : AV → St → Prop} (h : ACalls P w0 f args st (finP st Post)) : ACalls P w0 f args st Post := by
 refine ⟨h.1, fun M w vals hst hrow => (h.2 M w vals hst hrow).mono ?_⟩
 rintro en w' ⟨v, M', r, st', h1, ⟨b1, b2, b3, b4, b5, b6⟩, h3, h4, h5⟩
 exact ⟨v, M'.cut st.boxes.length st.rows.length st.loops.length, r.pubA, _, h1, b6, h3.cut (by have := hst.N; omega) (by have := hst.NR; omega) (by have := hst.loop.NL; omega) (by rw [h4.loop.NL]; exact b3) (by rw [h4.N]; exact b1) (by rw [h4.NR]; exact b2), h4.cut b1 b2 b3 b4, h5.pubA.cut (by have := h4.loop.NL; omega) b5⟩
theorem fin_p {B : List (List AV)} {Rw : List RowA} {L : List LoopA} {s : St} {Post : AV → St → Prop} {v : AV} (hc : Ev.Calm B.length Rw.length L.length ⟨B, Rw, L⟩) (h1 : B <+: s.boxes) (h2 : Rw <+: s.rows) (h3 : L <+: s.loops) (hu : Under B.length Rw.length L.length v.pubA) (hp : Post v.pubA ⟨B, Rw, L⟩) :
  Go.Ev.finP ⟨B, Rw, L⟩ Post v s := by
 obtain ⟨b, e1⟩ := h1
 obtain ⟨r, e2⟩ := h2
 obtain ⟨l, e3⟩ := h3
 obtain ⟨sb, sr, sl⟩ := s
 simp only at e1 e2 e3
 subst e1 e2 e3
 have e : St.cut ⟨B ++ b, Rw ++ r, L ++ l⟩ B.length Rw.length L.length = ⟨B, Rw, L⟩ := by simp [St.cut]
 exact ⟨by simp, by simp, by simp, by simp only [e]; exact hc, hu, by simp only [e]; exact hp⟩
end
@[go_sem] theorem splice_full (xs c : List AV) (h : xs.length = c.length) : splice xs 0 c = c := by simp [splice, h]
end Go.Ev
