/-
  A layer of our own over the kit's walk: abstract values (trees and lists, no memory), what it means that a value of the machine stands for one, and that this survives whatever a call of these programs does to memory. No program is named here.
-/
import Derived.WalkKit
import Derived.Orders
import Derived.Below
import Derived.Laws.Rows
import Derived.RangeFuncNested
import Derived.RangeFuncRecord
namespace Go.Ev
open Go Go.RowKit

inductive Own where
  | none | full | row (id : Nat)
  deriving DecidableEq

inductive AV where
  | val (v : Value)
  | list (xs : List AV) (o : Own)
  | elem (x : AV) (off : Nat)
  | box (l off : Nat)
  | clo (f : FuncId) (caps : List AV)
  | agg (cs : List AV)
  | tup (vs : List AV)
  | yld (k : Nat)

abbrev AV.junk : AV := .tup []
instance : Inhabited AV := ⟨.junk⟩
def AV.cells : AV → List AV
  | .agg cs => cs
  | x => [x]

/-- One cell. -/
def AV.one : AV → Bool
  | .agg _ | .tup _ => false
  | _ => true
/-- Values without memory. -/
def flatV : Value → Bool
  | .bool _ | .int _ _ | .float _ _ | .pointer none | .nilFunc | .nilIface | .map none => true
  | .string s => decide (s.size ≤ maxLen)
  | _ => false

/-- The abstract heap: boxes (variables of the call's own, each a row of cells), rows (slices that may still grow: elements so far, cells of an element). -/
structure LoopA where
  e : List (Nat × Bool × AV)
  n : Nat
  ps : Array Tmp
  asg : Code
  body : Code
  st : LoopState
  pend : Option Code

structure St where
  boxes : List (List AV)
  rows : List (Nat × Nat)
  loops : List LoopA

structure Mem where
  N : Nat
  NR : Nat
  bx : Nat → Nat
  top : Nat → Nat
  fr : Nat → Nat
  blk : Nat → Nat
  cap : Nat → Nat
  rsz : Nat → Nat
  NL : Nat
  lb : Nat → Nat

/-- A cell that will not change any more. -/
def Mem.imm (M : Mem) (w0 : World) (b off : Nat) : Prop := b < w0.heap.size ∨ off < M.top b

def ownOk (M : Mem) (b off cap n sz : Nat) : Own → Prop
  | .none => True
  | .full => n = cap
  | .row id => id < M.NR ∧ n ≤ M.fr id ∧ (n = M.fr id → b = M.blk id ∧ off = 0 ∧ cap = M.cap id ∧ sz = M.rsz id)

inductive R (w0 : World) (M : Mem) (w : World) : Value → AV → Prop
  | flat {v : Value} (h : flatV v = true) : R w0 M w v (.val v)
  | agg {cs : Array Value} {xs : List AV} (hl : cs.size = xs.length) (h1 : ∀ x ∈ xs, x.one = true) (h : ∀ i (h1 : i < cs.size) (h2 : i < xs.length), R w0 M w cs[i] xs[i]) : R w0 M w (.agg cs) (.agg xs)
  | tup {cs : Array Value} {xs : List AV} (hl : cs.size = xs.length) (h : ∀ i (h1 : i < cs.size) (h2 : i < xs.length), R w0 M w cs[i] xs[i]) : R w0 M w (.tuple cs) (.tup xs)
  | nil {o : Own} (ho : ∀ id, o ≠ .row id) : R w0 M w (.slice none 0 0) (.list [] o)
  | list {b off cap : Nat} {xs : List AV} {o : Own} (sz : Nat) (us : Nat → Value) (hc : xs.length ≤ cap) (hm : cap ≤ maxLen)
      (hcell : ∀ i, i < xs.length → (us i).cells.size = sz ∧ ∀ j, j < sz → M.imm w0 b (off + i * sz + j) ∧ w.cell? ⟨b, off + i * sz + j, none⟩ = (us i).cells[j]?)
      (hu : ∀ i (hi : i < xs.length), R w0 M w (us i) xs[i]) (ho : ownOk M b off cap xs.length sz o) : R w0 M w (.slice (some ⟨b, off, none⟩) xs.length cap) (.list xs o)
  | elem {b off : Nat} {x : AV} (u : Value) (k : Nat) (hcell : ∀ j, j < u.cells.size → M.imm w0 b (off + j) ∧ w.cell? ⟨b, off + j, none⟩ = u.cells[j]?) (hu : R w0 M w u x) :
      R w0 M w (.pointer (some ⟨b, off + k, none⟩)) (.elem x k)
  | box {l off : Nat} (hl : l < M.N) : R w0 M w (.pointer (some ⟨M.bx l, off, none⟩)) (.box l off)
  | clo {f : FuncId} {cs : Array Value} {xs : List AV} (hl : cs.size = xs.length) (h : ∀ i (h1 : i < cs.size) (h2 : i < xs.length), R w0 M w cs[i] xs[i]) : R w0 M w (.func (.func f) #[] cs) (.clo f xs)
  | yld {k : Nat} (hk : k < M.NL) : R w0 M w (.func (.yield (M.lb k)) #[] #[]) (.yld k)

/-- What a step may do to memory. -/
structure Ext (w0 : World) (M : Mem) (w : World) (M' : Mem) (w' : World) : Prop where
  N : M.N ≤ M'.N
  bx : ∀ l, l < M.N → M'.bx l = M.bx l
  NR : M.NR ≤ M'.NR
  rows : ∀ id, id < M.NR → M.fr id ≤ M'.fr id ∧ (M'.fr id = M.fr id → M'.blk id = M.blk id ∧ M'.cap id = M.cap id ∧ M'.rsz id = M.rsz id)
  cell : ∀ b off v, M.imm w0 b off → w.cell? ⟨b, off, none⟩ = some v → w'.cell? ⟨b, off, none⟩ = some v ∧ M'.imm w0 b off
  size : w.heap.size ≤ w'.heap.size
  NL : M.NL ≤ M'.NL
  lb : ∀ k, k < M.NL → M'.lb k = M.lb k
  lnew : ∀ k, M.NL ≤ k → k < M'.NL → w.heap.size ≤ M'.lb k
  objs : ∀ b o, w.heap[b]? = some o → o.isCells = false → (∀ k, k < M.NL → M.lb k ≠ b) → w'.heap[b]? = some o

/-- What is no cells lies as it lay. -/
def KeepsObj (w w' : World) : Prop := ∀ (b : Nat) (o : Obj), w.heap[b]? = some o → o.isCells = false → w'.heap[b]? = some o
theorem KeepsObj.refl (w : World) : KeepsObj w w := fun _ _ h _ => h
theorem KeepsObj.trans {a b c : World} (h : KeepsObj a b) (k : KeepsObj b c) : KeepsObj a c := fun i o h1 h2 => k i o (h i o h1 h2) h2
theorem KeepsObj.alloc (w : World) (o : Obj) : KeepsObj w (w.alloc o) := fun b _ h _ => (Below.heap_alloc w o b (Array.getElem?_eq_some_iff.1 h).1).trans h

theorem Ext.refl (w0 : World) (M : Mem) (w : World) : Ext w0 M w M w :=
  ⟨Nat.le_refl _, fun _ _ => rfl, Nat.le_refl _, fun _ _ => ⟨Nat.le_refl _, fun _ => ⟨rfl, rfl, rfl⟩⟩, fun _ _ _ h k => ⟨k, h⟩, Nat.le_refl _, Nat.le_refl _, fun _ _ => rfl, fun _ _ _ => by omega, fun _ _ h _ _ => h⟩

theorem Ext.trans {w0 : World} {M1 M2 M3 : Mem} {w1 w2 w3 : World} (h : Ext w0 M1 w1 M2 w2) (k : Ext w0 M2 w2 M3 w3) : Ext w0 M1 w1 M3 w3 where
  N := Nat.le_trans h.N k.N
  bx := fun l hl => (k.bx l (Nat.lt_of_lt_of_le hl h.N)).trans (h.bx l hl)
  NR := Nat.le_trans h.NR k.NR
  rows := fun id hid => by
    obtain ⟨a1, a2⟩ := h.rows id hid
    obtain ⟨b1, b2⟩ := k.rows id (Nat.lt_of_lt_of_le hid h.NR)
    refine ⟨Nat.le_trans a1 b1, fun e => ?_⟩
    have e1 : M2.fr id = M1.fr id := by omega
    have e2 : M3.fr id = M2.fr id := by omega
    obtain ⟨x1, x2, x3⟩ := a2 e1
    obtain ⟨y1, y2, y3⟩ := b2 e2
    exact ⟨y1.trans x1, y2.trans x2, y3.trans x3⟩
  cell := fun b off v hi hc => by
    obtain ⟨c1, i1⟩ := h.cell b off v hi hc
    exact k.cell b off v i1 c1
  size := Nat.le_trans h.size k.size
  NL := Nat.le_trans h.NL k.NL
  lb := fun i hi => (k.lb i (Nat.lt_of_lt_of_le hi h.NL)).trans (h.lb i hi)
  lnew := fun i h1 h2 => by
    by_cases c : i < M2.NL
    · rw [k.lb i c]; exact h.lnew i h1 c
    · exact Nat.le_trans h.size (k.lnew i (by omega) h2)
  objs := fun b o h1 h2 h3 => k.objs b o (h.objs b o h1 h2 h3) h2 fun i hi => by
    by_cases c : i < M1.NL
    · rw [h.lb i c]; exact h3 i c
    · have := h.lnew i (by omega) hi
      have := (Array.getElem?_eq_some_iff.1 h1).1
      omega

theorem cells_get {u : Value} {j : Nat} (h : j < u.cells.size) : ∃ v, u.cells[j]? = some v := ⟨_, Array.getElem?_eq_getElem h⟩

/-- What a value stands for, it stands for later. -/
theorem R.mono {w0 : World} {M M' : Mem} {w w' : World} (hx : Ext w0 M w M' w') {v : Value} {x : AV} (h : R w0 M w v x) : R w0 M' w' v x := by
  induction h with
  | flat h => exact .flat h
  | agg hl h1 _ ih => exact .agg hl h1 ih
  | tup hl _ ih => exact .tup hl ih
  | nil ho => exact .nil ho
  | @list b off cap xs o sz us hc hm hcell _ ho ih =>
    refine .list sz us hc hm (fun i hi => ⟨(hcell i hi).1, fun j hj => ?_⟩) ih ?_
    · obtain ⟨hi1, hc1⟩ := (hcell i hi).2 j hj
      obtain ⟨v, hv⟩ := cells_get (u := us i) (j := j) (by rw [(hcell i hi).1]; exact hj)
      obtain ⟨k1, k2⟩ := hx.cell _ _ v hi1 (hc1.trans hv)
      exact ⟨k2, k1.trans hv.symm⟩
    · cases o with
      | none => trivial
      | full => exact ho
      | row id =>
        obtain ⟨h1, h2, h3⟩ := ho
        obtain ⟨r1, r2⟩ := hx.rows id h1
        refine ⟨Nat.lt_of_lt_of_le h1 hx.NR, Nat.le_trans h2 r1, fun e => ?_⟩
        have e1 : M'.fr id = M.fr id := by omega
        obtain ⟨a, b, c⟩ := r2 e1
        rw [a, b, c]
        exact h3 (by omega)
  | @elem b off x u k hcell _ ih =>
    refine .elem u k (fun j hj => ?_) ih
    obtain ⟨hi1, hc1⟩ := hcell j hj
    obtain ⟨v, hv⟩ := cells_get (u := u) (j := j) hj
    obtain ⟨k1, k2⟩ := hx.cell _ _ v hi1 (hc1.trans hv)
    exact ⟨k2, k1.trans hv.symm⟩
  | box hl => rw [← hx.bx _ hl]; exact .box (Nat.lt_of_lt_of_le hl hx.N)
  | clo hl _ ih => exact .clo hl ih
  | yld hk => rw [← hx.lb _ hk]; exact .yld (Nat.lt_of_lt_of_le hk hx.NL)

/-- The cells of a value stand for the cells of what it stands for. -/
theorem R.cells {w0 : World} {M : Mem} {w : World} {v : Value} {x : AV} (h : R w0 M w v x) :
    v.cells.size = x.cells.length ∧ ∀ i (h1 : i < v.cells.size) (h2 : i < x.cells.length), R w0 M w v.cells[i] x.cells[i] := by
  have one : ∀ (u : Value) (y : AV), u.cells = #[u] → y.cells = [y] → R w0 M w u y →
      u.cells.size = y.cells.length ∧ ∀ i (h1 : i < u.cells.size) (h2 : i < y.cells.length), R w0 M w u.cells[i] y.cells[i] := by
    intro u y hu hy hr
    rw [hu, hy]
    refine ⟨rfl, fun i h1 h2 => ?_⟩
    have : i = 0 := by simp at h2; exact h2
    subst this
    exact hr
  cases h with
  | agg hl _ h => exact ⟨hl, h⟩
  | flat hf => exact one _ _ (by cases v <;> first | rfl | simp [flatV] at hf) rfl (.flat hf)
  | tup hl h => exact one _ _ rfl rfl (.tup hl h)
  | nil ho => exact one _ _ rfl rfl (.nil ho)
  | list sz us hc hm hcell hu ho => exact one _ _ rfl rfl (.list sz us hc hm hcell hu ho)
  | elem u k hcell hu => exact one _ _ rfl rfl (.elem u k hcell hu)
  | box hl => exact one _ _ rfl rfl (.box hl)
  | clo hl h => exact one _ _ rfl rfl (.clo hl h)
  | yld hk => exact one _ _ rfl rfl (.yld hk)

/-- Cells are values of one cell. -/
theorem R.oneCell {w0 : World} {M : Mem} {w : World} {v : Value} {x : AV} (h : R w0 M w v x) (hx : x.one = true) : v.oneCell' = true := by
  cases h with
  | agg => cases hx
  | flat hf => cases v <;> first | rfl | simp [flatV] at hf
  | tup => cases hx
  | _ => rfl
theorem R.cellsOne {w0 : World} {M : Mem} {w : World} {v : Value} {x : AV} (h : R w0 M w v x) (ht : ∀ vs, x ≠ .tup vs) : ∀ c ∈ x.cells, c.one = true := by
  cases h with
  | agg hl h1 h => exact h1
  | tup => exact absurd rfl (ht _)
  | _ => intro c hc; simp only [AV.cells, List.mem_singleton] at hc; subst hc; rfl
theorem R.isAgg {w0 : World} {M : Mem} {w : World} {v : Value} {xs : List AV} (h : R w0 M w v (.agg xs)) : ∃ cs, v = .agg cs := by
  cases h with
  | agg hl h1 h => exact ⟨_, rfl⟩
/-- What is no aggregate is one cell. -/
theorem R.cells_one {w0 : World} {M : Mem} {w : World} {v : Value} {x : AV} (h : R w0 M w v x) (hx : x.one = true) : v.cells = #[v] ∧ x.cells = [x] := by
  cases h with
  | agg => cases hx
  | flat hf => exact ⟨by cases v <;> first | rfl | simp [flatV] at hf, rfl⟩
  | tup => cases hx
  | _ => exact ⟨rfl, rfl⟩

/-- Without what it owns: as it is handed on. -/
def AV.pubCell : AV → AV
  | .list xs _ => .list xs .none
  | x => x
def AV.pub : AV → AV
  | .agg cs => .agg (cs.map AV.pubCell)
  | .list xs _ => .list xs .none
  | x => x
theorem R.pubCell {w0 : World} {M : Mem} {w : World} {v : Value} {x : AV} (h : R w0 M w v x) : R w0 M w v x.pubCell := by
  cases h with
  | nil ho => exact .nil (fun id => by simp)
  | list sz us hc hm hcell hu ho => exact .list sz us hc hm hcell hu trivial
  | flat hf => exact .flat hf
  | agg hl h1 h => exact .agg hl h1 h
  | tup hl h => exact .tup hl h
  | elem u k hcell hu => exact .elem u k hcell hu
  | box hl => exact .box hl
  | clo hl h => exact .clo hl h
  | yld hk => exact .yld hk
theorem AV.one_pubCell (x : AV) : x.pubCell.one = x.one := by cases x <;> rfl
theorem R.pub {w0 : World} {M : Mem} {w : World} {v : Value} {x : AV} (h : R w0 M w v x) : R w0 M w v x.pub := by
  cases h with
  | nil ho => exact .nil (fun id => by simp)
  | list sz us hc hm hcell hu ho => exact .list sz us hc hm hcell hu trivial
  | flat hf => exact .flat hf
  | agg hl h1 h => exact .agg (by simpa using hl) (fun x hx => by obtain ⟨y, hy, rfl⟩ := List.mem_map.1 hx; rw [AV.one_pubCell]; exact h1 y hy) (fun i a b => by simp only [List.getElem_map]; exact (h i a (by simpa using b)).pubCell)
  | tup hl h => exact .tup hl h
  | elem u k hcell hu => exact .elem u k hcell hu
  | box hl => exact .box hl
  | clo hl h => exact .clo hl h
  | yld hk => exact .yld hk
theorem AV.pub_cells_length (x : AV) : x.pub.cells.length = x.cells.length := by cases x <;> simp [AV.pub, AV.cells]
theorem AV.pub_one (x : AV) : x.pub.one = x.one := by cases x <;> rfl
end Go.Ev
