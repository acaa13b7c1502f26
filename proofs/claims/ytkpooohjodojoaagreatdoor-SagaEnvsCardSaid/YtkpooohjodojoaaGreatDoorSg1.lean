/-
  Part 1 of the proof: rules and walks that the claim's last text uses.
-/
import Derived.Below
import Derived.Laws.Rows
import Derived.Laws.Small
import Derived.Laws.StructEq
import Derived.Lib.SliceRun
import Derived.Lib.Strings
import Derived.MapKept
import Derived.Orders
import Derived.RangeFuncNested
import Derived.RangeFuncRecord
import Derived.WalkKit
set_option linter.unusedSimpArgs false
set_option linter.unusedVariables false
set_option maxRecDepth 100000
set_option maxHeartbeats 4000000
namespace Go.Ev
open Go Go.RowKit
inductive Own where
 | none | full | seed | row (id : Nat)
 deriving DecidableEq
inductive AV where
 | val (v : Value)
 | list (xs : List AV) (o : Own)
 | elem (x : AV) (off : Nat)
 | box (l off : Nat)
 | clo (f : FuncId) (caps : List AV)
 | agg (cs : List AV)
 | tup (vs : List AV)
 | yld (k : Nat)
 | vec (id ver o n : Nat)
 | vel (id ver off : Nat)
 | mp (k : Nat)
 | tab (l : List (Int × FuncId))
abbrev AV.junk : AV := .tup []
instance : Inhabited AV := ⟨.junk⟩
def AV.cells : AV → List AV
 | .agg cs => cs
 | x => [x]
def AV.one : AV → Bool
 | .agg _ | .tup _ => false
 | _ => true
def flatV : Value → Bool
 | .bool _ | .int _ _ | .float _ _ | .pointer none | .nilFunc | .nilIface | .iface _ _ | .map none => true
 | .string s => decide (s.size ≤ maxLen)
 | _ => false
structure LoopA where
 e : List (Nat × Bool × AV)
 n : Nat
 ps : Array Tmp
 asg : Code
 body : Code
 st : LoopState
 pend : Option Code
 keys : Option (List ByteArray)
inductive RowA where
 | grow (n sz : Nat)
 | vec (ver sz : Nat) (cells : List AV)
 | dead (ver : Nat)
structure St where
 boxes : List (List AV)
 rows : List RowA
 loops : List LoopA
structure Mem where
 N : Nat
 NR : Nat
 bx : Nat → Nat
 top : Nat → Nat
 fr : Nat → Nat
 blk : Nat → Nat
 cap : Nat → Nat
 rsz : Nat → Nat
 NL : Nat
 lb : Nat → Nat
def Mem.imm (M : Mem) (w0 : World) (b off : Nat) : Prop := b < w0.heap.size ∨ off < M.top b
def ownOk (M : Mem) (b off cap n sz : Nat) : Own → Prop
 | .none => True
 | .full | .seed => n = cap
 | .row id => id < M.NR ∧ n ≤ M.fr id ∧ (n = M.fr id → b = M.blk id ∧ off = 0 ∧ cap = M.cap id ∧ sz = M.rsz id)
inductive R (w0 : World) (M : Mem) (w : World) : Value → AV → Prop
 | flat {v : Value} (h : flatV v = true) : R w0 M w v (.val v)
 | agg {cs : Array Value} {xs : List AV} (hl : cs.size = xs.length) (h1 : ∀ x ∈ xs, x.one = true) (h : ∀ i (h1 : i < cs.size) (h2 : i < xs.length), R w0 M w cs[i] xs[i]) : R w0 M w (.agg cs) (.agg xs)
 | tup {cs : Array Value} {xs : List AV} (hl : cs.size = xs.length) (h : ∀ i (h1 : i < cs.size) (h2 : i < xs.length), R w0 M w cs[i] xs[i]) : R w0 M w (.tuple cs) (.tup xs)
 | nil {o : Own} (ho : ∀ id, o ≠ .row id) : R w0 M w (.slice none 0 0) (.list [] o)
 | emp {a : Addr} {o : Own} (ho : ∀ id, o ≠ .row id) : R w0 M w (.slice (some a) 0 0) (.list [] o)
 | list {b off cap : Nat} {xs : List AV} {o : Own} (sz : Nat) (us : Nat → Value) (hc : xs.length ≤ cap) (hm : cap ≤ maxLen)
   (hcell : ∀ i, i < xs.length → (us i).cells.size = sz ∧ ∀ j, j < sz → M.imm w0 b (off + i * sz + j) ∧ w.cell? ⟨b, off + i * sz + j, none⟩ = (us i).cells[j]?)
   (hu : ∀ i (hi : i < xs.length), R w0 M w (us i) xs[i]) (ho : ownOk M b off cap xs.length sz o) : R w0 M w (.slice (some ⟨b, off, none⟩) xs.length cap) (.list xs o)
 | elem {b off : Nat} {x : AV} (u : Value) (k : Nat) (hcell : ∀ j, j < u.cells.size → M.imm w0 b (off + j) ∧ w.cell? ⟨b, off + j, none⟩ = u.cells[j]?) (hu : R w0 M w u x) :
   R w0 M w (.pointer (some ⟨b, off + k, none⟩)) (.elem x k)
 | box {l off : Nat} (hl : l < M.N) : R w0 M w (.pointer (some ⟨M.bx l, off, none⟩)) (.box l off)
 | clo {f : FuncId} {cs : Array Value} {xs : List AV} (hl : cs.size = xs.length) (h : ∀ i (h1 : i < cs.size) (h2 : i < xs.length), R w0 M w cs[i] xs[i]) : R w0 M w (.func (.func f) #[] cs) (.clo f xs)
 | yld {k : Nat} (hk : k < M.NL) : R w0 M w (.func (.yield (M.lb k)) #[] #[]) (.yld k)
 | vec {id ver o n : Nat} {p : Option Addr} {cap : Nat} (hi : id < M.NR) (hv : ver ≤ M.fr id) (h : ver = M.fr id → p = some ⟨M.blk id, o * M.rsz id, none⟩ ∧ cap + o = M.cap id ∧ n ≤ cap) : R w0 M w (.slice p n cap) (.vec id ver o n)
 | vel {id ver off : Nat} {a : Addr} (hi : id < M.NR) (hv : ver ≤ M.fr id) (h : ver = M.fr id → a = ⟨M.blk id, off, none⟩) : R w0 M w (.pointer (some a)) (.vel id ver off)
 | mp {k : Nat} (hk : k < M.NL) : R w0 M w (.map (some (M.lb k))) (.mp k)
 | tab {b : Nat} {es : Array MapEntry} {ck : Nat} {l : List (Int × FuncId)} (h : w.heap[b]? = some (.map es ck)) (hk : es.toList.map (fun e => (e.key, e.val)) = l.map fun x => (Value.int .i64 x.1, Value.func (.func x.2) #[] #[])) (hn : ∀ k, k < M.NL → M.lb k ≠ b) : R w0 M w (.map (some b)) (.tab l)
def Mem.foreign (M : Mem) (b : Nat) : Prop := (∀ l, l < M.N → M.bx l ≠ b) ∧ (∀ i, i < M.NR → M.blk i ≠ b) ∧ ∀ k, k < M.NL → M.lb k ≠ b
theorem Mem.own_row {M : Mem} {i : Nat} (h : i < M.NR) : ¬ M.foreign (M.blk i) := fun q => q.2.1 i h rfl
structure Ext (w0 : World) (M : Mem) (w : World) (M' : Mem) (w' : World) : Prop where
 N : M.N ≤ M'.N
 bx : ∀ l, l < M.N → M'.bx l = M.bx l
 NR : M.NR ≤ M'.NR
 rows : ∀ id, id < M.NR → M.fr id ≤ M'.fr id ∧ (M'.fr id = M.fr id → M'.blk id = M.blk id ∧ M'.cap id = M.cap id ∧ M'.rsz id = M.rsz id)
 cell : ∀ b off v, M.imm w0 b off → w.cell? ⟨b, off, none⟩ = some v → w'.cell? ⟨b, off, none⟩ = some v ∧ M'.imm w0 b off
 size : w.heap.size ≤ w'.heap.size
 NL : M.NL ≤ M'.NL
 lb : ∀ k, k < M.NL → M'.lb k = M.lb k
 lnew : ∀ k, M.NL ≤ k → k < M'.NL → w.heap.size ≤ M'.lb k
 objs : ∀ b o, w.heap[b]? = some o → o.isCells = false → (∀ k, k < M.NL → M.lb k ≠ b) → w'.heap[b]? = some o
 keep : ∀ b, b < w.heap.size → M.foreign b → w'.heap[b]? = w.heap[b]? ∧ M'.foreign b ∧ M'.top b = M.top b
def KeepsObj (w w' : World) : Prop := ∀ (b : Nat) (o : Obj), w.heap[b]? = some o → o.isCells = false → w'.heap[b]? = some o
theorem KeepsObj.refl (w : World) : KeepsObj w w := fun _ _ h _ => h
theorem KeepsObj.trans {a b c : World} (h : KeepsObj a b) (k : KeepsObj b c) : KeepsObj a c := fun i o h1 h2 => k i o (h i o h1 h2) h2
theorem KeepsObj.alloc (w : World) (o : Obj) : KeepsObj w (w.alloc o) := fun b _ h _ => (Below.heap_alloc w o b (Array.getElem?_eq_some_iff.1 h).1).trans h
theorem Ext.refl (w0 : World) (M : Mem) (w : World) : Ext w0 M w M w :=
 ⟨Nat.le_refl _, fun _ _ => rfl, Nat.le_refl _, fun _ _ => ⟨Nat.le_refl _, fun _ => ⟨rfl, rfl, rfl⟩⟩, fun _ _ _ h k => ⟨k, h⟩, Nat.le_refl _, Nat.le_refl _, fun _ _ => rfl, fun _ _ _ => by omega, fun _ _ h _ _ => h, fun _ _ h => ⟨rfl, h, rfl⟩⟩
theorem Ext.trans {w0 : World} {M1 M2 M3 : Mem} {w1 w2 w3 : World} (h : Ext w0 M1 w1 M2 w2) (k : Ext w0 M2 w2 M3 w3) : Ext w0 M1 w1 M3 w3 where
 N := Nat.le_trans h.N k.N
 bx := fun l hl => (k.bx l (Nat.lt_of_lt_of_le hl h.N)).trans (h.bx l hl)
 NR := Nat.le_trans h.NR k.NR
 rows := fun id hid => by
  obtain ⟨a1, a2⟩ := h.rows id hid
  obtain ⟨b1, b2⟩ := k.rows id (Nat.lt_of_lt_of_le hid h.NR)
  refine ⟨Nat.le_trans a1 b1, fun e => ?_⟩
  have e1 : M2.fr id = M1.fr id := by omega
  have e2 : M3.fr id = M2.fr id := by omega
  obtain ⟨x1, x2, x3⟩ := a2 e1
  obtain ⟨y1, y2, y3⟩ := b2 e2
  exact ⟨y1.trans x1, y2.trans x2, y3.trans x3⟩
 cell := fun b off v hi hc => by
  obtain ⟨c1, i1⟩ := h.cell b off v hi hc
  exact k.cell b off v i1 c1
 size := Nat.le_trans h.size k.size
 NL := Nat.le_trans h.NL k.NL
 lb := fun i hi => (k.lb i (Nat.lt_of_lt_of_le hi h.NL)).trans (h.lb i hi)
 lnew := fun i h1 h2 => by
  by_cases c : i < M2.NL
  ·
   rw [k.lb i c]; exact h.lnew i h1 c
  ·
   exact Nat.le_trans h.size (k.lnew i (by omega) h2)
 objs := fun b o h1 h2 h3 => k.objs b o (h.objs b o h1 h2 h3) h2 fun i hi => by
  by_cases c : i < M1.NL
  ·
   rw [h.lb i c]; exact h3 i c
  ·
   have := h.lnew i (by omega) hi
   have := (Array.getElem?_eq_some_iff.1 h1).1
   omega
 keep := fun b h1 h2 => by
  obtain ⟨a1, a2, a3⟩ := h.keep b h1 h2
  obtain ⟨b1, b2, b3⟩ := k.keep b (Nat.lt_of_lt_of_le h1 h.size) a2
  exact ⟨b1.trans a1, b2, b3.trans a3⟩
theorem cells_get {u : Value} {j : Nat} (h : j < u.cells.size) : ∃ v, u.cells[j]? = some v := ⟨_, Array.getElem?_eq_getElem h⟩
theorem R.mono {w0 : World} {M M' : Mem} {w w' : World} (hx : Ext w0 M w M' w') {v : Value} {x : AV} (h : R w0 M w v x) : R w0 M' w' v x := by
 induction h with
 | flat h => exact .flat h
 | agg hl h1 _ ih => exact .agg hl h1 ih
 | tup hl _ ih => exact .tup hl ih
 | nil ho => exact .nil ho
 | emp ho => exact .emp ho
 | @list b off cap xs o sz us hc hm hcell _ ho ih =>
  refine .list sz us hc hm (fun i hi => ⟨(hcell i hi).1, fun j hj => ?_⟩) ih ?_
  ·
   obtain ⟨hi1, hc1⟩ := (hcell i hi).2 j hj
   obtain ⟨v, hv⟩ := cells_get (u := us i) (j := j) (by rw [(hcell i hi).1]; exact hj)
   obtain ⟨k1, k2⟩ := hx.cell _ _ v hi1 (hc1.trans hv)
   exact ⟨k2, k1.trans hv.symm⟩
  ·
   cases o with
   | none => trivial
   | full => exact ho
   | seed => exact ho
   | row id =>
    obtain ⟨h1, h2, h3⟩ := ho
    obtain ⟨r1, r2⟩ := hx.rows id h1
    refine ⟨Nat.lt_of_lt_of_le h1 hx.NR, Nat.le_trans h2 r1, fun e => ?_⟩
    have e1 : M'.fr id = M.fr id := by omega
    obtain ⟨a, b, c⟩ := r2 e1
    rw [a, b, c]
    exact h3 (by omega)
 | @elem b off x u k hcell _ ih =>
  refine .elem u k (fun j hj => ?_) ih
  obtain ⟨hi1, hc1⟩ := hcell j hj
  obtain ⟨v, hv⟩ := cells_get (u := u) (j := j) hj
  obtain ⟨k1, k2⟩ := hx.cell _ _ v hi1 (hc1.trans hv)
  exact ⟨k2, k1.trans hv.symm⟩
 | box hl => rw [← hx.bx _ hl]; exact .box (Nat.lt_of_lt_of_le hl hx.N)
 | clo hl _ ih => exact .clo hl ih
 | yld hk => rw [← hx.lb _ hk]; exact .yld (Nat.lt_of_lt_of_le hk hx.NL)
 | mp hk => rw [← hx.lb _ hk]; exact .mp (Nat.lt_of_lt_of_le hk hx.NL)
 | @tab b es ck l h hk hn =>
  refine .tab (hx.objs _ _ h rfl hn) hk fun k q => ?_
  by_cases c : k < M.NL
  ·
   rw [hx.lb k c]; exact hn k c
  ·
   have h1 := hx.lnew k (by omega) q
   have h2 := (Array.getElem?_eq_some_iff.1 h).1
   omega
 | @vec id ver o n p cap hi hv h =>
  obtain ⟨r1, r2⟩ := hx.rows id hi
  refine .vec (Nat.lt_of_lt_of_le hi hx.NR) (Nat.le_trans hv r1) (fun e => ?_)
  obtain ⟨q1, q2, q3⟩ := r2 (by omega)
  rw [q1, q2, q3]
  exact h (by omega)
 | @vel id ver off a hi hv h =>
  obtain ⟨r1, r2⟩ := hx.rows id hi
  refine .vel (Nat.lt_of_lt_of_le hi hx.NR) (Nat.le_trans hv r1) (fun e => ?_)
  obtain ⟨q1, q2, q3⟩ := r2 (by omega)
  rw [q1]
  exact h (by omega)
theorem R.cells {w0 : World} {M : Mem} {w : World} {v : Value} {x : AV} (h : R w0 M w v x) :
  v.cells.size = x.cells.length ∧ ∀ i (h1 : i < v.cells.size) (h2 : i < x.cells.length), R w0 M w v.cells[i] x.cells[i] := by
 have one : ∀ (u : Value) (y : AV), u.cells = #[u] → y.cells = [y] → R w0 M w u y →
   u.cells.size = y.cells.length ∧ ∀ i (h1 : i < u.cells.size) (h2 : i < y.cells.length), R w0 M w u.cells[i] y.cells[i] := by
  intro u y hu hy hr
  rw [hu, hy]
  refine ⟨rfl, fun i h1 h2 => ?_⟩
  have : i = 0 := by simp at h2; exact h2
  subst this
  exact hr
 cases h with
 | agg hl _ h => exact ⟨hl, h⟩
 | flat hf => exact one _ _ (by cases v <;> first | rfl | simp [flatV] at hf) rfl (.flat hf)
 | tup hl h => exact one _ _ rfl rfl (.tup hl h)
 | nil ho => exact one _ _ rfl rfl (.nil ho)
 | emp ho => exact one _ _ rfl rfl (.emp ho)
 | list sz us hc hm hcell hu ho => exact one _ _ rfl rfl (.list sz us hc hm hcell hu ho)
 | elem u k hcell hu => exact one _ _ rfl rfl (.elem u k hcell hu)
 | box hl => exact one _ _ rfl rfl (.box hl)
 | clo hl h => exact one _ _ rfl rfl (.clo hl h)
 | yld hk => exact one _ _ rfl rfl (.yld hk)
 | mp hk => exact one _ _ rfl rfl (.mp hk)
 | tab h hk hn => exact one _ _ rfl rfl (.tab h hk hn)
 | vec hi hv h => exact one _ _ rfl rfl (.vec hi hv h)
 | vel hi hv h => exact one _ _ rfl rfl (.vel hi hv h)
theorem R.oneCell {w0 : World} {M : Mem} {w : World} {v : Value} {x : AV} (h : R w0 M w v x) (hx : x.one = true) : v.oneCell' = true := by
 cases h with
 | agg => cases hx
 | flat hf => cases v <;> first | rfl | simp [flatV] at hf
 | tup => cases hx
 | _ => rfl
theorem R.cellsOne {w0 : World} {M : Mem} {w : World} {v : Value} {x : AV} (h : R w0 M w v x) (ht : ∀ vs, x ≠ .tup vs) : ∀ c ∈ x.cells, c.one = true := by
 cases h with
 | agg hl h1 h => exact h1
 | tup => exact absurd rfl (ht _)
 | _ => intro c hc; simp only [AV.cells, List.mem_singleton] at hc; subst hc; rfl
theorem R.isAgg {w0 : World} {M : Mem} {w : World} {v : Value} {xs : List AV} (h : R w0 M w v (.agg xs)) : ∃ cs, v = .agg cs := by
 cases h with
 | agg hl h1 h => exact ⟨_, rfl⟩
theorem R.cells_one {w0 : World} {M : Mem} {w : World} {v : Value} {x : AV} (h : R w0 M w v x) (hx : x.one = true) : v.cells = #[v] ∧ x.cells = [x] := by
 cases h with
 | agg => cases hx
 | flat hf => exact ⟨by cases v <;> first | rfl | simp [flatV] at hf, rfl⟩
 | tup => cases hx
 | _ => exact ⟨rfl, rfl⟩
def AV.pubCell : AV → AV
 | .list xs _ => .list xs .none
 | x => x
def AV.pub : AV → AV
 | .agg cs => .agg (cs.map AV.pubCell)
 | .list xs _ => .list xs .none
 | x => x
theorem R.pubCell {w0 : World} {M : Mem} {w : World} {v : Value} {x : AV} (h : R w0 M w v x) : R w0 M w v x.pubCell := by
 cases h with
 | nil ho => exact .nil (fun id => by simp)
 | emp ho => exact .emp (fun id => by simp)
 | list sz us hc hm hcell hu ho => exact .list sz us hc hm hcell hu trivial
 | flat hf => exact .flat hf
 | agg hl h1 h => exact .agg hl h1 h
 | tup hl h => exact .tup hl h
 | elem u k hcell hu => exact .elem u k hcell hu
 | box hl => exact .box hl
 | clo hl h => exact .clo hl h
 | yld hk => exact .yld hk
 | mp hk => exact .mp hk
 | tab h hk hn => exact .tab h hk hn
 | vec hi hv h => exact .vec hi hv h
 | vel hi hv h => exact .vel hi hv h
theorem AV.one_pubCell (x : AV) : x.pubCell.one = x.one := by cases x <;> rfl
theorem R.pub {w0 : World} {M : Mem} {w : World} {v : Value} {x : AV} (h : R w0 M w v x) : R w0 M w v x.pub := by
 cases h with
 | nil ho => exact .nil (fun id => by simp)
 | emp ho => exact .emp (fun id => by simp)
 | list sz us hc hm hcell hu ho => exact .list sz us hc hm hcell hu trivial
 | flat hf => exact .flat hf
 | agg hl h1 h => exact .agg (by simpa using hl) (fun x hx => by obtain ⟨y, hy, rfl⟩ := List.mem_map.1 hx; rw [AV.one_pubCell]; exact h1 y hy) (fun i a b => by simp only [List.getElem_map]; exact (h i a (by simpa using b)).pubCell)
 | tup hl h => exact .tup hl h
 | elem u k hcell hu => exact .elem u k hcell hu
 | box hl => exact .box hl
 | clo hl h => exact .clo hl h
 | yld hk => exact .yld hk
 | mp hk => exact .mp hk
 | tab h hk hn => exact .tab h hk hn
 | vec hi hv h => exact .vec hi hv h
 | vel hi hv h => exact .vel hi hv h
theorem AV.pub_cells_length (x : AV) : x.pub.cells.length = x.cells.length := by cases x <;> simp [AV.pub, AV.cells]
def tyT (P : Program) (t : TypeId) : Option (Nat × Bool) :=
 match P.info? t, P.underlying t with
 | some i, some d => some (i.size, match d with | .struct _ | .array _ _ => true | _ => false)
 | _, _ => none
def fldT (P : Program) (t : TypeId) (f : Nat) : Option (Nat × Nat × Bool) :=
 match P.underlying t with
 | some (.struct fs) => match fs[f]? with
  | some x => (tyT P x.type).map fun (s, a) => (x.offset, s, a)
  | none => none
 | _ => none
def elT (P : Program) (t : TypeId) : Option (TypeId × Nat × Bool × Nat) :=
 match P.underlying t with
 | some (.slice e) => match P.info? e, tyT P e with
  | some i, some (s, a) => some (e, s, a, i.bytes)
  | _, _ => none
 | _ => none
def arrT (P : Program) (t : TypeId) : Option (Nat × Nat × Bool) :=
 match P.underlying t with
 | some (.array n e) => (tyT P e).map fun (s, a) => (n, s, a)
 | _ => none
def strT (P : Program) (t : TypeId) : Bool :=
 match P.underlying t with | some .string => true | _ => false
def bytesT (P : Program) (t : TypeId) : Bool :=
 match P.underlying t with
 | some (.slice e) => (match P.underlying e with | some (.int .u8) => true | _ => false) && (match tyT P e with | some (1, false) => true | _ => false)
 | _ => false
def intT (P : Program) (t : TypeId) : Option IntKind :=
 match P.underlying t with | some (.int k) => some k | _ => none
def ofCell : Value → AV
 | .slice none 0 0 => .list [] .full
 | v => .val v
def ofVal : Value → AV
 | .agg cs => .agg (cs.toList.map ofCell)
 | v => ofCell v
def cellOk : Value → Bool
 | .slice none 0 0 => true
 | v => flatV v
def constOk : Value → Bool
 | .agg cs => cs.toList.all cellOk
 | v => cellOk v
def zeroT (P : Program) (t : TypeId) : Option (List AV) :=
 match P.info? t with
 | some i => match i.zero with
  | some z => if constOk z && z.cells.size == i.size then some (ofVal z).cells else none
  | none => none
 | none => none
abbrev Env := List (Nat × Bool × AV)
def look : Env → Nat → Option (Bool × AV)
 | [], _ => none
 | (k, c, v) :: r, s => if k = s then some (c, v) else look r s
def keepL : List Nat → Env → Env
 | [], _ => []
 | s :: K, e => match look e s with
  | some (c, v) => (s, c, v) :: keepL K e
  | none => keepL K e
def argV (e : Env) : Operand → AV
 | .tmp t => match look e t with | some (_, v) => v | none => .junk
 | .const v => ofVal v
 | .func f => .clo f []
 | .global _ => .junk
def argOk (e : Env) (c : Bool) : Operand → Prop
 | .tmp t => match look e t with | some (c', _) => (c = true → c' = true) | none => False
 | .const v => constOk v = true
 | .func _ => True
 | .global _ => False
def boolOf : AV → Bool
 | .val (.bool b) => b
 | _ => false
def isB : AV → Bool
 | .val (.bool _) => true
 | _ => false
def AV.sel (t : Bool) : AV → AV → AV
 | .val (.bool x), .val (.bool y) => .val (.bool (if t then x else y))
 | a, b => if t then a else b
def splice (l : List AV) (off : Nat) (xs : List AV) : List AV := l.take off ++ xs ++ l.drop (off + xs.length)
def nth (l : List AV) (i : Nat) : AV := l.getD i .junk
def placesOf (P : Program) : List Field → Option (List (Nat × Nat))
 | [] => some []
 | f :: fs => match P.info? f.type, placesOf P fs with
  | some i, some r => some ((f.offset, i.size) :: r)
  | _, _ => none
def placesT (P : Program) (t : TypeId) : Option (List (Nat × Nat)) :=
 match P.underlying t with
 | some (.struct fs) => placesOf P fs.toList
 | _ => none
def placeT (P : Program) (t : TypeId) (i : Nat) : Option (Nat × Nat) :=
 match placesT P t with
 | some l => l[i]?
 | none => match arrT P t with
  | some (_, s, _) => some (i * s, s)
  | none => none
def fillA (P : Program) (t : TypeId) : List AV → List (Nat × AV) → List AV
 | cs, [] => cs
 | cs, (i, x) :: r => match placeT P t i with
  | some (o, _) => fillA P t (splice cs o x.cells) r
  | none => cs
def fillOk (P : Program) (t : TypeId) : Nat → List (Nat × AV) → Prop
 | _, [] => True
 | n, (i, x) :: r => (match placeT P t i with
  | some (o, s) => x.cells.length = s ∧ o + s ≤ n
  | none => False) ∧ fillOk P t n r
def notTup : AV → Bool
 | .tup _ => false
 | _ => true
def isAggA : AV → Bool
 | .agg _ => true
 | _ => false
def inK : IntKind → Int → Prop
 | .i8, n => -128 ≤ n ∧ n ≤ 127
 | .i16, n => -32768 ≤ n ∧ n ≤ 32767
 | .i32, n => -2147483648 ≤ n ∧ n ≤ 2147483647
 | .i64, n => -9223372036854775808 ≤ n ∧ n ≤ 9223372036854775807
 | .u8, n => 0 ≤ n ∧ n ≤ 255
 | .u16, n => 0 ≤ n ∧ n ≤ 65535
 | .u32, n => 0 ≤ n ∧ n ≤ 4294967295
 | .u64, n => 0 ≤ n ∧ n ≤ 18446744073709551615
def sEq (x y : ByteArray) : Bool := x.data.toList == y.data.toList
def sLt (x y : ByteArray) : Bool := Op.bytesLess x.data.toList y.data.toList
def evBin : BinOp → Value → Value → Prop × Value
 | .add, .int k a, .int k' b => (k = k' ∧ inK k (a + b), .int k (a + b))
 | .sub, .int k a, .int k' b => (k = k' ∧ inK k (a - b), .int k (a - b))
 | .mul, .int k a, .int k' b => (k = k' ∧ inK k (a * b), .int k (a * b))
 | .quo, .int k a, .int k' b => (k = k' ∧ b ≠ 0 ∧ inK k (a.tdiv b), .int k (a.tdiv b))
 | .rem, .int k a, .int k' b => (k = k' ∧ b ≠ 0, .int k (a.tmod b))
 | .eql, .int k a, .int k' b => (k = k', .bool (decide (a = b)))
 | .neq, .int k a, .int k' b => (k = k', .bool (!decide (a = b)))
 | .lss, .int k a, .int k' b => (k = k', .bool (decide (a < b)))
 | .leq, .int k a, .int k' b => (k = k', .bool (decide (a ≤ b)))
 | .gtr, .int k a, .int k' b => (k = k', .bool (decide (b < a)))
 | .geq, .int k a, .int k' b => (k = k', .bool (decide (b ≤ a)))
 | .add, .string x, .string y => (x.size + y.size ≤ 9223372036854775807, .string (x ++ y))
 | .eql, .string x, .string y => (True, .bool (sEq x y))
 | .neq, .string x, .string y => (True, .bool (!sEq x y))
 | .lss, .string x, .string y => (True, .bool (sLt x y))
 | .leq, .string x, .string y => (True, .bool (sLt x y || sEq x y))
 | .gtr, .string x, .string y => (True, .bool (!(sLt x y || sEq x y)))
 | .geq, .string x, .string y => (True, .bool (!sLt x y))
 | .shr, .int k a, .int _ b => (b = 1 ∧ 0 ≤ a, .int k (a / 2))
 | _, _, _ => (False, undef)
def evBB : BinOp → Bool → Bool → Prop × Bool
 | .eql, a, b => (True, a == b)
 | .neq, a, b => (True, a != b)
 | _, _, _ => (False, false)
def boolT (P : Program) (t : TypeId) : Bool :=
 match P.underlying t with | some .bool => true | _ => false
def eqCellOb (P : Program) (t : TypeId) : AV → AV → Prop
 | .val (.int k _), .val (.int k' _) => (intT P t).isSome = true ∧ k = k'
 | .val (.string _), .val (.string _) => strT P t = true
 | .val (.bool _), .val (.bool _) => boolT P t = true
 | _, _ => False
def eqCell : AV → AV → Bool
 | .val (.int _ a), .val (.int _ b) => decide (a = b)
 | .val (.string a), .val (.string b) => sEq a b
 | .val (.bool a), .val (.bool b) => a == b
 | _, _ => false
def eqAll : List AV → List AV → Bool
 | [], [] => true
 | x :: xs, y :: ys => eqCell x y && eqAll xs ys
 | _, _ => false
def eqOb (P : Program) : List Field → Nat → List AV → List AV → Prop
 | [], _, [], [] => True
 | f :: fs, i, x :: xs, y :: ys => f.name ≠ "_" ∧ f.offset = i ∧ tyT P f.type = some (1, false) ∧ eqCellOb P f.type x y ∧ eqOb P fs (i + 1) xs ys
 | _, _, _, _ => False
def eqT (P : Program) (t : TypeId) : Option (List Field) :=
 match P.underlying t with
 | some (.struct fs) => if P.stoodInHeld t = false ∧ P.eqGuardType P.depth t = false then some fs.toList else none
 | _ => none
def evAgg (P : Program) (op : BinOp) (t : TypeId) (xs ys : List AV) : Prop × Bool :=
 match eqT P t, op with
 | some fs, .eql => (eqOb P fs 0 xs ys, eqAll xs ys)
 | some fs, .neq => (eqOb P fs 0 xs ys, !eqAll xs ys)
 | _, _ => (False, false)
def cellsOfA : AV → List AV
 | .agg xs => xs
 | _ => []
def evUn : UnOp → Value → Prop × Value
 | .not, .bool b => (True, .bool (!b))
 | .neg, .int k a => (inK k (0 - a), .int k (0 - a))
 | _, _ => (False, undef)
def plainOf : AV → Value
 | .val v => v
 | _ => undef
def isPlain : AV → Bool
 | .val _ => true
 | _ => false
def intOfA : AV → Int
 | .val (.int _ n) => n
 | _ => 0
def kindOfA : AV → IntKind
 | .val (.int k _) => k
 | _ => .i64
def isInt : AV → Bool
 | .val (.int _ _) => true
 | _ => false
def listOf : AV → List AV
 | .list xs _ => xs
 | _ => []
def isList : AV → Bool
 | .list _ _ => true
 | _ => false
def isStr : AV → Bool
 | .val (.string _) => true
 | _ => false
def strOf : AV → ByteArray
 | .val (.string s) => s
 | _ => .empty
def byteOk : AV → Prop
 | .val (.int .u8 n) => 0 ≤ n ∧ n ≤ 255
 | _ => False
def bytesOfA (xs : List AV) : ByteArray := ⟨(xs.map fun x => UInt8.ofNat (intOfA x).toNat).toArray⟩
def ofBytesA (l : List UInt8) : List AV := l.map fun b => .val (.int .u8 b.toNat)
def vecR (rows : List RowA) (id ver : Nat) : Option (Nat × List AV) :=
 match rows[id]? with
 | some (.vec v sz cs) => if v = ver then some (sz, cs) else none
 | _ => none
def cellsAt (st : St) : AV → List AV
 | .box l _ => st.boxes.getD l []
 | .elem x _ => x.cells
 | .vel id ver _ => match vecR st.rows id ver with | some (_, cs) => cs | none => []
 | _ => []
def offAt : AV → Nat
 | .box _ o => o
 | .elem _ o => o
 | .vel _ _ o => o
 | _ => 0
def isRef (st : St) : AV → Bool
 | .box l _ => decide (l < st.boxes.length)
 | .elem (.tup _) _ => false
 | .elem _ _ => true
 | .vel id ver _ => (vecR st.rows id ver).isSome
 | _ => false
def refAdd (x : AV) (n : Nat) : AV :=
 match x with
 | .box l o => .box l (o + n)
 | .elem y o => .elem y (o + n)
 | .vel id ver o => .vel id ver (o + n)
 | x => x
def loadA (agg : Bool) (cs : List AV) (off sz : Nat) : AV := if agg then .agg ((cs.drop off).take sz) else nth cs off
def storeB (st : St) (a : AV) (xs : List AV) : St :=
 match a with
 | .box l o => { st with boxes := st.boxes.set l (splice (st.boxes.getD l []) o xs) }
 | .vel id ver o => match vecR st.rows id ver with
  | some (sz, cs) => { st with rows := st.rows.set id (.vec ver sz (splice cs o xs)) }
  | none => st
 | _ => st
def isBox : AV → Bool
 | .box _ _ => true
 | .vel _ _ _ => true
 | _ => false
def evLen (P : Program) (t : TypeId) (x : AV) : Prop × AV :=
 match x with
 | .val (.string s) => (strT P t = true, .val (.int .i64 s.size))
 | .list xs _ => ((elT P t).isSome = true, .val (.int .i64 xs.length))
 | .vec _ _ _ n => ((elT P t).isSome = true, .val (.int .i64 n))
 | _ => (False, .junk)
def appendOb (P : Program) (el sz by8 : Nat) (n : Nat) (xs : List AV) : Prop :=
 0 < sz ∧ (zeroT P el).isSome = true ∧ (n + xs.length) * by8 ≤ 140737488355328 ∧ n + xs.length ≤ 4611686018427387904 ∧ (∀ y ∈ xs, y.cells.length = sz ∧ notTup y = true)
def evAppend (P : Program) (st : St) (t : TypeId) (s x : AV) : Prop × AV × St :=
 match elT P t with
 | some (el, sz, _, by8) =>
  match s with
  | .list ys .full => if (listOf x).length = 0 then (isList x = true ∧ 0 < sz, .list ys .full, st)
   else (isList x = true ∧ appendOb P el sz by8 ys.length (listOf x) ∧ (∀ y ∈ ys, y.cells.length = sz), .list (ys ++ (listOf x).map AV.pub) (.row st.rows.length), { st with rows := st.rows ++ [.grow (ys.length + (listOf x).length) sz] })
  | .list ys (.row id) => (isList x = true ∧ appendOb P el sz by8 ys.length (listOf x) ∧ (∀ y ∈ ys, y.cells.length = sz) ∧ st.rows[id]? = some (.grow ys.length sz), .list (ys ++ (listOf x).map AV.pub) (.row id), { st with rows := st.rows.set id (.grow (ys.length + (listOf x).length) sz) })
  | .list ys .seed => if (listOf x).length = 0 then (isList x = true ∧ 0 < sz, .list ys .seed, st)
   else (isList x = true ∧ appendOb P el sz by8 0 (listOf x) ∧ ys.length = 0 ∧ 0 < (listOf x).length, .vec st.rows.length 0 0 (listOf x).length, { st with rows := st.rows ++ [.vec 0 sz ((listOf x).flatMap fun y => y.pub.cells)] })
  | .vec id ver o n => match vecR st.rows id ver with
   | some (sz', cs) => (isList x = true ∧ appendOb P el sz by8 n (listOf x) ∧ sz' = sz ∧ o = 0 ∧ n * sz ≤ cs.length, .vec id (ver + 1) 0 (n + (listOf x).length), { st with rows := st.rows.set id (.vec (ver + 1) sz (cs.take (n * sz) ++ (listOf x).flatMap fun y => y.pub.cells)) })
   | none => (False, .junk, st)
  | _ => (False, .junk, st)
 | none => (False, .junk, st)
def bndOf (e : Env) (d : Int) : Option Operand → Int
 | some y => intOfA (argV e y)
 | none => d
def bndOk (e : Env) (c : Bool) : Option Operand → Prop
 | some y => argOk e c y ∧ isInt (argV e y) = true
 | none => True
def fixSt (st : St) (x : Prop × AV × St) : Prop × AV × St := (x.1, x.2.1, st)
def hasMark (e : Env) (t : TypeId) : Bool :=
 match look e (1000000 + t) with
 | some _ => true
 | none => false
def ifaceT (P : Program) (t : TypeId) : Bool :=
 match P.underlying t with | some (.interface _) => true | _ => false
def isNilV : Value → Bool
 | .nilIface => true
 | _ => false
def isIfV : Value → Bool
 | .nilIface => true
 | .iface _ _ => true
 | _ => false
def isNilO : Operand → Bool
 | .const v => isNilV v
 | .tmp _ => false
 | .func _ => false
 | .global _ => false
def isNilRV : Value → Bool
 | .slice none _ _ => true
 | .pointer none => true
 | _ => false
def isNilR : Operand → Bool
 | .const v => isNilRV v
 | .tmp _ => false
 | .func _ => false
 | .global _ => false
def constOf : Operand → Value
 | .const v => v
 | _ => .bool false
def solidA : Value → AV → Bool
 | .slice _ _ _, .list (_ :: _) _ => true
 | .pointer _, .box _ _ => true
 | .pointer _, .elem _ _ => true
 | _, _ => false
def refT (P : Program) (t : TypeId) (v : Value) : Bool :=
 match v, P.underlying t with
 | .slice _ _ _, some (.slice _) => true
 | .pointer _, some (.pointer _) => true
 | _, _ => false
def neB : BinOp → Option Bool
 | .eql => some false
 | .neq => some true
 | _ => none
def evNil : BinOp → Value → Prop × Bool
 | .eql, v => (isIfV v = true, isNilV v)
 | .neq, v => (isIfV v = true, !isNilV v)
 | _, _ => (False, false)
def mapT (P : Program) (t : TypeId) : Bool :=
 match P.underlying t with
 | some (.map kt et) => strT P kt && (match zeroT P et with | some [] => true | _ => false)
 | _ => false
def tabT (P : Program) (t : TypeId) : Bool :=
 match P.underlying t with
 | some (.map kt et) => (match P.underlying kt with | some (.int .i64) => true | _ => false) && (match P.info? et with | some i => (match i.zero with | some .nilFunc => true | _ => false) | none => false)
 | _ => false
def tabF : List (Int × FuncId) → Int → AV × Bool
 | [], _ => (.val .nilFunc, false)
 | (k, f) :: l, n => if k = n then (.clo f [], true) else tabF l n
def mapA (ks : List ByteArray) : LoopA := ⟨[], 0, #[], .skip, .skip, .ready, none, some ks⟩
def keysAt (st : St) (i : Nat) : Option (List ByteArray) := (st.loops[i]?).bind (·.keys)
def memK (ks : List ByteArray) (s : ByteArray) : Bool := ks.any fun x => sEq x s
def insK (ks : List ByteArray) (s : ByteArray) : List ByteArray := if memK ks s then ks else ks ++ [s]
theorem keysAt_spec {st : St} {i : Nat} {ks : List ByteArray} (h : keysAt st i = some ks) : ∃ la, st.loops[i]? = some la ∧ la.keys = some ks := Option.bind_eq_some_iff.1 h
def evOp (P : Program) (e : Env) (c : Bool) (st : St) : Op → Prop × AV × St
 | .move x | .assign x => (argOk e c x, argV e x, st)
 | .pick b x y => (argOk e c b ∧ isB (argV e b) = true ∧ (c = true → boolOf (argV e b) = true → argOk e true x) ∧ (c = true → boolOf (argV e b) = false → argOk e true y), AV.sel (boolOf (argV e b)) (argV e x) (argV e y), st)
 | .alloc t => match zeroT P t with
  | some z => (c = true, .box st.boxes.length 0, { st with boxes := st.boxes ++ [z] })
  | none => (False, .junk, st)
 | .box _ x => (c = true ∧ argOk e c x ∧ notTup (argV e x) = true, .box st.boxes.length 0, { st with boxes := st.boxes ++ [(argV e x).cells] })
 | .build t ps => match zeroT P t with
  | some z => (((placesT P t).isSome = true ∨ (arrT P t).isSome = true) ∧ (∀ p ∈ ps.toList, argOk e c p.2 ∧ notTup (argV e p.2) = true) ∧ fillOk P t z.length (ps.toList.map fun p => (p.1, argV e p.2)), .agg (fillA P t z (ps.toList.map fun p => (p.1, argV e p.2))), st)
  | none => (False, .junk, st)
 | .buildSlice t n ps =>
  let vs := ps.toList.map fun p => argV e p.2
  match elT P t with
  | some (el, sz, _, _) => match hasMark e t with
   | false => ((∀ p ∈ ps.toList, argOk e c p.2) ∧ ps.toList.map (·.1) = List.range n ∧ n * sz ≤ 16777216 ∧ 0 < sz ∧ (zeroT P el).isSome = true ∧ (∀ x ∈ vs, x.cells.length = sz), .list (vs.map AV.pub) .full, st)
   | true => (c = true ∧ (∀ p ∈ ps.toList, argOk e c p.2) ∧ ps.toList.map (·.1) = List.range n ∧ n * sz ≤ 16777216 ∧ 0 < sz ∧ (zeroT P el).isSome = true ∧ (∀ x ∈ vs, x.cells.length = sz) ∧ (∀ x ∈ vs, notTup x = true), .vec st.rows.length 0 0 n, { st with rows := st.rows ++ [.vec 0 sz (vs.flatMap fun x => x.pub.cells)] })
  | none => (False, .junk, st)
 | .load t a => match tyT P t with
  | some (sz, ag) => (argOk e c a ∧ isRef st (argV e a) = true ∧ offAt (argV e a) + sz ≤ (cellsAt st (argV e a)).length ∧ (ag = true ∨ sz = 1), loadA ag (cellsAt st (argV e a)) (offAt (argV e a)) sz, st)
  | none => (False, .junk, st)
 | .store t a v => match tyT P t with
  | some (sz, _) => (c = true ∧ argOk e c a ∧ argOk e c v ∧ isBox (argV e a) = true ∧ isRef st (argV e a) = true ∧ notTup (argV e v) = true ∧ (argV e v).cells.length = sz ∧ offAt (argV e a) + sz ≤ (cellsAt st (argV e a)).length, .junk, storeB st (argV e a) (argV e v).cells)
  | none => (False, .junk, st)
 | .nilCheck x => (argOk e c x ∧ isRef st (argV e x) = true, argV e x, st)
 | .binOp op t x y _ => if isB (argV e x) && isB (argV e y) then (argOk e c x ∧ argOk e c y ∧ boolT P t = true ∧ (evBB op (boolOf (argV e x)) (boolOf (argV e y))).1, .val (.bool (evBB op (boolOf (argV e x)) (boolOf (argV e y))).2), st)
  else if isAggA (argV e x) && isAggA (argV e y) then (argOk e c x ∧ argOk e c y ∧ (evAgg P op t (cellsOfA (argV e x)) (cellsOfA (argV e y))).1, .val (.bool (evAgg P op t (cellsOfA (argV e x)) (cellsOfA (argV e y))).2), st)
  else if isNilO y then (argOk e c x ∧ isPlain (argV e x) = true ∧ ifaceT P t = true ∧ (evNil op (plainOf (argV e x))).1, .val (.bool (evNil op (plainOf (argV e x))).2), st)
  else if isNilR y then (argOk e c x ∧ refT P t (constOf y) = true ∧ solidA (constOf y) (argV e x) = true ∧ (neB op).isSome = true, .val (.bool ((neB op).getD false)), st)
  else (argOk e c x ∧ argOk e c y ∧ isPlain (argV e x) = true ∧ isPlain (argV e y) = true ∧ (evBin op (plainOf (argV e x)) (plainOf (argV e y))).1, .val (evBin op (plainOf (argV e x)) (plainOf (argV e y))).2, st)
 | .unOp op _ x => (argOk e c x ∧ isPlain (argV e x) = true ∧ (evUn op (plainOf (argV e x))).1, .val (evUn op (plainOf (argV e x))).2, st)
 | .convert s d x => match intT P s, intT P d with
  | some _, some k => (argOk e c x ∧ isInt (argV e x) = true ∧ inK k (intOfA (argV e x)), .val (.int k (intOfA (argV e x))), st)
  | some _, none => (argOk e c x ∧ isInt (argV e x) = true ∧ strT P d = true, .val (.string (Utf8.encode (intOfA (argV e x)))), st)
  | none, _ => if strT P s && strT P d then (argOk e c x ∧ isStr (argV e x) = true, argV e x, st)
   else if bytesT P s && strT P d then match argV e x with
    | .vec id ver o n => match vecR st.rows id ver with
     | some (sz', cs) => (argOk e c x ∧ sz' = 1 ∧ o + n ≤ cs.length ∧ n ≤ 9223372036854775807 ∧ (∀ y ∈ (cs.drop o).take n, byteOk y), .val (.string (bytesOfA ((cs.drop o).take n))), st)
     | none => (False, .junk, st)
    | _ => (argOk e c x ∧ isList (argV e x) = true ∧ (listOf (argV e x)).length ≤ 9223372036854775807 ∧ (∀ y ∈ listOf (argV e x), byteOk y), .val (.string (bytesOfA (listOf (argV e x)))), st)
   else if strT P s && bytesT P d then (c = true ∧ argOk e c x ∧ isStr (argV e x) = true, .list (ofBytesA (strOf (argV e x)).data.toList) .none, st)
   else (False, .junk, st)
 | .makeFunc (.func f) fi cap => (fi.size = 0 ∧ (∀ x ∈ cap.toList, argOk e c x), .clo f (cap.toList.map (argV e)), st)
 | .makeSlice t len cap => match elT P t with
  | some (el, sz, _, by8) => match zeroT P el with
   | some z => (c = true ∧ argOk e c len ∧ argOk e c cap ∧ isInt (argV e len) = true ∧ isInt (argV e cap) = true ∧ 0 ≤ intOfA (argV e len) ∧ intOfA (argV e len) ≤ intOfA (argV e cap) ∧ intOfA (argV e cap) * by8 ≤ 140737488355328 ∧ intOfA (argV e cap) ≤ 4611686018427387904 ∧ 0 < sz ∧ z.length = sz ∧ (intOfA (argV e len) = 0 ∨ hasMark e t = true ∨ sz = 1),
     if intOfA (argV e len) = 0 then .list [] (.row st.rows.length) else if hasMark e t = true then .vec st.rows.length 0 0 (intOfA (argV e len)).toNat else .list (List.replicate (intOfA (argV e len)).toNat (nth z 0)) .none,
     if intOfA (argV e len) = 0 then { st with rows := st.rows ++ [.grow 0 sz] } else if hasMark e t = true then { st with rows := st.rows ++ [.vec 0 sz ((List.replicate (intOfA (argV e len)).toNat z).flatten)] } else st)
   | none => (False, .junk, st)
  | none => (False, .junk, st)
 | .slice t x lo hi mx => match argV e x with
  | .vec id ver o n => match elT P t, vecR st.rows id ver with
   | some (_, sz, _, _), some (sz', _) => (argOk e c x ∧ bndOk e c lo ∧ bndOk e c hi ∧ mx.isNone = true ∧ 0 ≤ bndOf e 0 lo ∧ bndOf e 0 lo ≤ bndOf e n hi ∧ bndOf e n hi ≤ n ∧ (bndOf e 0 lo = 0 ∨ bndOf e 0 lo < n) ∧ sz' = sz, .vec id ver (o + (bndOf e 0 lo).toNat) ((bndOf e n hi).toNat - (bndOf e 0 lo).toNat), st)
   | _, _ => (False, .junk, st)
  | .val (.string s) =>
   (strT P t = true ∧ argOk e c x ∧ bndOk e c lo ∧ bndOk e c hi ∧ mx.isNone = true ∧ 0 ≤ bndOf e 0 lo ∧ bndOf e 0 lo ≤ bndOf e s.size hi ∧ bndOf e s.size hi ≤ s.size, .val (.string (s.extract (bndOf e 0 lo).toNat (bndOf e s.size hi).toNat)), st)
  | .list xs _ => match elT P t with
   | some (_, sz, _, _) => match mx with
    | none => (argOk e c x ∧ bndOk e c lo ∧ bndOk e c hi ∧ 0 ≤ bndOf e 0 lo ∧ bndOf e 0 lo ≤ bndOf e xs.length hi ∧ bndOf e xs.length hi ≤ xs.length ∧ (bndOf e 0 lo = 0 ∨ ∀ y ∈ xs, y.cells.length = sz), .list ((xs.take (bndOf e xs.length hi).toNat).drop (bndOf e 0 lo).toNat) .none, st)
    | some m => (argOk e c x ∧ bndOk e c lo ∧ bndOk e c hi ∧ bndOk e c (some m) ∧ bndOf e 0 lo = 0 ∧ bndOf e 1 hi = 0 ∧ bndOf e 1 (some m) = 0, .list [] .full, st)
   | none => (False, .junk, st)
  | _ => (False, .junk, st)
 | .fieldAddr t x f => match fldT P t f with
  | some (o, sz, _) => (argOk e c x ∧ isRef st (argV e x) = true ∧ 0 < sz, refAdd (argV e x) o, st)
  | none => (False, .junk, st)
 | .field t x f => match fldT P t f with
  | some (o, sz, ag) => (argOk e c x ∧ isAggA (argV e x) = true ∧ o + sz ≤ (argV e x).cells.length ∧ (ag = true ∨ sz = 1), loadA ag (argV e x).cells o sz, st)
  | none => (False, .junk, st)
 | .indexAddr t x i => fixSt st <| match elT P t with
  | some (_, sz, _, _) => match argV e x with
   | .vec id ver o n => match vecR st.rows id ver with
    | some (sz', _) => (argOk e c x ∧ argOk e c i ∧ isInt (argV e i) = true ∧ 0 ≤ intOfA (argV e i) ∧ intOfA (argV e i) < n ∧ sz' = sz, .vel id ver ((o + (intOfA (argV e i)).toNat) * sz), st)
    | none => (False, .junk, st)
   | _ => (argOk e c x ∧ argOk e c i ∧ isList (argV e x) = true ∧ isInt (argV e i) = true ∧ 0 ≤ intOfA (argV e i) ∧ intOfA (argV e i) < (listOf (argV e x)).length ∧ (nth (listOf (argV e x)) (intOfA (argV e i)).toNat).cells.length = sz, .elem (nth (listOf (argV e x)) (intOfA (argV e i)).toNat) 0, st)
  | none => match arrT P t with
   | some (n, sz, _) => (argOk e c x ∧ argOk e c i ∧ isRef st (argV e x) = true ∧ isInt (argV e i) = true ∧ 0 ≤ intOfA (argV e i) ∧ intOfA (argV e i) < n, refAdd (argV e x) ((intOfA (argV e i)).toNat * sz), st)
   | none => (False, .junk, st)
 | .index t x i => fixSt st <| match argV e x with
  | .val (.string s) => (strT P t = true ∧ argOk e c x ∧ argOk e c i ∧ isInt (argV e i) = true ∧ 0 ≤ intOfA (argV e i) ∧ intOfA (argV e i) < s.size, .val (.int .u8 (s.get! (intOfA (argV e i)).toNat).toNat), st)
  | .agg cs => match arrT P t with
   | some (n, sz, ag) => (argOk e c x ∧ argOk e c i ∧ isInt (argV e i) = true ∧ 0 ≤ intOfA (argV e i) ∧ intOfA (argV e i) < n ∧ cs.length = n * sz ∧ (ag = true ∨ sz = 1), loadA ag cs ((intOfA (argV e i)).toNat * sz) sz, st)
   | none => (False, .junk, st)
  | _ => (False, .junk, st)
 | .extract x i => fixSt st <| match argV e x with
  | .tup vs => (argOk e c x ∧ i < vs.length, nth vs i, st)
  | _ => (False, .junk, st)
 | .makeMap _ r => (c = true ∧ r.isNone = true, .mp st.loops.length, { st with loops := st.loops ++ [mapA []] })
 | .lookup t m k ok => match argV e m, argV e k with
  | .tab l, .val (.int .i64 i) => (tabT P t = true ∧ argOk e c m ∧ argOk e c k ∧ ok = true, .tup [(tabF l i).1, .val (.bool (tabF l i).2)], st)
  | .mp i, .val (.string s) => match keysAt st i with
   | some ks => (mapT P t = true ∧ argOk e c m ∧ argOk e c k ∧ ok = true, .tup [.agg [], .val (.bool (memK ks s))], st)
   | none => (False, .junk, st)
  | _, _ => (False, .junk, st)
 | .mapUpdate t m k v => match argV e m, argV e k, argV e v with
  | .mp i, .val (.string s), .agg [] => match keysAt st i with
   | some ks => (c = true ∧ mapT P t = true ∧ argOk e c m ∧ argOk e c k ∧ argOk e c v, .junk, { st with loops := st.loops.set i (mapA (insK ks s)) })
   | none => (False, .junk, st)
  | _, _, _ => (False, .junk, st)
 | .call ⟨.builtin .len, args, ts⟩ => match args.toList, ts.toList with
  | [x], [t] => (argOk e c x ∧ (evLen P t (argV e x)).1, (evLen P t (argV e x)).2, st)
  | _, _ => (False, .junk, st)
 | .call ⟨.builtin .clear, args, ts⟩ => match args.toList, ts.toList with
  | [x], [t] => match argV e x, elT P t with
   | .vec id ver o n, some (el, sz, _, _) => match vecR st.rows id ver with
    | some (sz', cs) => (c = true ∧ argOk e c x ∧ sz' = sz ∧ (zeroT P el).isSome = true ∧ 0 < n, .tup [], { st with rows := st.rows.set id (.vec ver sz (cs.take (o * sz))) })
    | none => (False, .junk, st)
   | _, _ => (False, .junk, st)
  | _, _ => (False, .junk, st)
 | .call ⟨.builtin .append, args, ts⟩ => match args.toList, ts.toList with
  | [s, x], [t, t'] => (c = true ∧ argOk e c s ∧ argOk e c x ∧ t = t' ∧ (evAppend P st t (argV e s) (argV e x)).1, (evAppend P st t (argV e s) (argV e x)).2)
  | _, _ => (False, .junk, st)
 | .call ⟨.builtin .min, args, _⟩ => match args.toList with
  | [x, y] => (argOk e c x ∧ argOk e c y ∧ isInt (argV e x) = true ∧ isInt (argV e y) = true ∧ True, .val (.int (kindOfA (argV e x)) (if intOfA (argV e y) < intOfA (argV e x) then intOfA (argV e y) else intOfA (argV e x))), st)
  | _ => (False, .junk, st)
 | .call ⟨.builtin .max, args, _⟩ => match args.toList with
  | [x, y] => (argOk e c x ∧ argOk e c y ∧ isInt (argV e x) = true ∧ isInt (argV e y) = true, .val (.int (kindOfA (argV e x)) (if intOfA (argV e x) < intOfA (argV e y) then intOfA (argV e y) else intOfA (argV e x))), st)
  | _ => (False, .junk, st)
 | _ => (False, .junk, st)
def entryOk (w0 : World) (M : Mem) (w : World) (v : Value) (x : Bool × AV) : Prop := if x.1 = true then R w0 M w v x.2 else v = undef
def LoopOk (w0 : World) (M : Mem) (w : World) (la : LoopA) (b : Nat) : Prop :=
 match la.keys with
 | none => ∃ r : Loop, w.heap[b]? = some (.loop r) ∧ r.state = la.st ∧ r.pending = la.pend ∧ r.params = la.ps ∧ r.assign = la.asg ∧ r.body = la.body ∧ r.tmps.size = la.n ∧ ∀ s x, look la.e s = some x → entryOk w0 M w (r.tmps.getD s undef) x
 | some ks => la.e = [] ∧ ∃ es ck, w.heap[b]? = some (.map es ck) ∧ es.toList.map (·.key) = ks.map Value.string ∧ (∀ e ∈ es.toList, e.val = .agg #[]) ∧ ks.Nodup
theorem LoopOk.isLoop {w0 : World} {M : Mem} {w : World} {la : LoopA} {b : Nat} {r : Loop} (h : LoopOk w0 M w la b) (hr : w.heap[b]? = some (.loop r)) :
  la.keys = none ∧ r.state = la.st ∧ r.pending = la.pend ∧ r.params = la.ps ∧ r.assign = la.asg ∧ r.body = la.body ∧ r.tmps.size = la.n ∧ ∀ s x, look la.e s = some x → entryOk w0 M w (r.tmps.getD s undef) x := by
 unfold LoopOk at h
 split at h
 ·
  rename_i q
  obtain ⟨r', h1, h2⟩ := h
  rw [hr] at h1
  cases h1
  exact ⟨q, h2⟩
 ·
  obtain ⟨_, es, ck, h1, _⟩ := h
  rw [hr] at h1
  cases h1
theorem LoopOk.loop {w0 : World} {M : Mem} {w : World} {la : LoopA} {b : Nat} (h : LoopOk w0 M w la b) (hk : la.keys = none) : ∃ r : Loop, w.heap[b]? = some (.loop r) ∧ r.state = la.st ∧ r.pending = la.pend ∧ r.params = la.ps ∧ r.assign = la.asg ∧ r.body = la.body ∧ r.tmps.size = la.n ∧ ∀ s x, look la.e s = some x → entryOk w0 M w (r.tmps.getD s undef) x := by
 unfold LoopOk at h
 rw [hk] at h
 exact h
theorem LoopOk.ofLoop {w0 : World} {M : Mem} {w : World} {la : LoopA} {b : Nat} (hk : la.keys = none) (h : ∃ r : Loop, w.heap[b]? = some (.loop r) ∧ r.state = la.st ∧ r.pending = la.pend ∧ r.params = la.ps ∧ r.assign = la.asg ∧ r.body = la.body ∧ r.tmps.size = la.n ∧ ∀ s x, look la.e s = some x → entryOk w0 M w (r.tmps.getD s undef) x) : LoopOk w0 M w la b := by
 unfold LoopOk
 rw [hk]
 exact h
theorem LoopOk.obj {w0 : World} {M : Mem} {w : World} {la : LoopA} {b : Nat} (h : LoopOk w0 M w la b) : ∃ o, w.heap[b]? = some o ∧ o.isCells = false ∧ ∀ d, o ≠ .deferred d := by
 unfold LoopOk at h
 split at h
 ·
  obtain ⟨r, h1, _⟩ := h; exact ⟨_, h1, rfl, fun d q => by cases q⟩
 ·
  obtain ⟨_, es, ck, h1, _⟩ := h; exact ⟨_, h1, rfl, fun d q => by cases q⟩
theorem LoopOk.lt {w0 : World} {M : Mem} {w : World} {la : LoopA} {b : Nat} (h : LoopOk w0 M w la b) : b < w.heap.size := by
 obtain ⟨o, q, _⟩ := h.obj
 exact (Array.getElem?_eq_some_iff.1 q).1
theorem LoopOk.nodef {w0 : World} {M : Mem} {w : World} {la : LoopA} {b : Nat} {d : Option (List Deferred)} {C : Prop} (h : LoopOk w0 M w la b) (hd : w.heap[b]? = some (.deferred d)) : C := by
 obtain ⟨o, q, _, q2⟩ := h.obj
 rw [hd] at q
 exact absurd (Option.some.inj q).symm (q2 d)
theorem LoopOk.map {w0 : World} {M M' : Mem} {w w' : World} {la : LoopA} {b b' : Nat} (h : LoopOk w0 M w la b) (hb : ∀ o, w.heap[b]? = some o → o.isCells = false → w'.heap[b']? = some o) (he : ∀ s x v, look la.e s = some x → entryOk w0 M w v x → entryOk w0 M' w' v x) : LoopOk w0 M' w' la b' := by
 unfold LoopOk at h ⊢
 split at h
 ·
  obtain ⟨r, h1, h2, h3, h4, h5, h6, h7, h8⟩ := h
  exact ⟨r, hb _ h1 rfl, h2, h3, h4, h5, h6, h7, fun s x hs => he s x _ hs (h8 s x hs)⟩
 ·
  obtain ⟨h0, es, ck, h1, h2⟩ := h
  exact ⟨h0, es, ck, hb _ h1 rfl, h2⟩
theorem LoopOk.ent {w0 : World} {M : Mem} {w : World} {la : LoopA} {b : Nat} (h : LoopOk w0 M w la b) (s : Nat) (x : Bool × AV) (hs : look la.e s = some x) : ∃ v, entryOk w0 M w v x := by
 unfold LoopOk at h
 split at h
 ·
  obtain ⟨r, _, _, _, _, _, _, _, h8⟩ := h; exact ⟨_, h8 s x hs⟩
 ·
  obtain ⟨h0, _⟩ := h; rw [h0] at hs; cases hs
structure LoopSt (w0 : World) (M : Mem) (w : World) (ls : List LoopA) : Prop where
 NL : M.NL = ls.length
 inj : ∀ k k', k < M.NL → k' < M.NL → M.lb k = M.lb k' → k = k'
 record : ∀ k la, ls[k]? = some la → w0.heap.size ≤ M.lb k ∧ LoopOk w0 M w la (M.lb k)
theorem entryOk.mono {w0 : World} {M M' : Mem} {w w' : World} (hx : Ext w0 M w M' w') {v : Value} {x : Bool × AV} (h : entryOk w0 M w v x) : entryOk w0 M' w' v x := by
 unfold entryOk at *
 split
 ·
  rename_i c; rw [if_pos c] at h; exact h.mono hx
 ·
  rename_i c; rw [if_neg c] at h; exact h
theorem LoopSt.mono {w0 : World} {M M' : Mem} {w w' : World} {ls : List LoopA} (h : LoopSt w0 M w ls) (hx : Ext w0 M w M' w') (hN : M'.NL = M.NL) (hk : KeepsObj w w') : LoopSt w0 M' w' ls where
 NL := hN.trans h.NL
 inj := fun k k' h1 h2 e => h.inj k k' (hN ▸ h1) (hN ▸ h2) (by rw [hx.lb k (hN ▸ h1), hx.lb k' (hN ▸ h2)] at e; exact e)
 record := fun k la hla => by
  have hk1 : k < M.NL := by rw [h.NL]; exact (List.getElem?_eq_some_iff.1 hla).1
  obtain ⟨a1, a2⟩ := h.record k la hla
  rw [hx.lb k hk1]
  exact ⟨a1, a2.map (fun o q1 q2 => hk _ _ q1 q2) fun s x v _ a9 => a9.mono hx⟩
def RowOk (w0 : World) (M : Mem) (w : World) (id : Nat) : RowA → Prop
 | .grow n sz => M.fr id = n ∧ M.rsz id = sz ∧ w0.heap.size ≤ M.blk id ∧ M.top (M.blk id) = n * sz ∧ (∀ l, l < M.N → M.bx l ≠ M.blk id) ∧ M.cap id ≤ maxLen ∧ n ≤ M.cap id ∧
  ∃ c ty, w.heap[M.blk id]? = some (.cells c ty (0, 0)) ∧ c.size = M.cap id * sz
 | .vec ver sz cs => M.fr id = ver ∧ M.rsz id = sz ∧ w0.heap.size ≤ M.blk id ∧ M.top (M.blk id) = 0 ∧ (∀ l, l < M.N → M.bx l ≠ M.blk id) ∧ M.cap id ≤ maxLen ∧ 0 < sz ∧
  ∃ c ty, w.heap[M.blk id]? = some (.cells c ty (0, 0)) ∧ c.size = M.cap id * sz ∧ cs.length ≤ c.size ∧ (∀ x ∈ cs, x.one = true) ∧ ∀ i (h1 : i < c.size) (h2 : i < cs.length), R w0 M w c[i] cs[i]
 | .dead ver => M.fr id = ver ∧ w0.heap.size ≤ M.blk id ∧ (∀ l, l < M.N → M.bx l ≠ M.blk id) ∧ M.blk id < w.heap.size
theorem RowOk.base {w0 : World} {M : Mem} {w : World} {id : Nat} {x : RowA} (h : RowOk w0 M w id x) : w0.heap.size ≤ M.blk id := by
 cases x with
 | grow n sz => exact h.2.2.1
 | vec v sz cs => exact h.2.2.1
 | dead v => exact h.2.1
theorem RowOk.ne {w0 : World} {M : Mem} {w : World} {id : Nat} {x : RowA} (h : RowOk w0 M w id x) : ∀ l, l < M.N → M.bx l ≠ M.blk id := by
 cases x with
 | grow n sz => exact h.2.2.2.2.1
 | vec v sz cs => exact h.2.2.2.2.1
 | dead v => exact h.2.2.1
theorem RowOk.lt {w0 : World} {M : Mem} {w : World} {id : Nat} {x : RowA} (h : RowOk w0 M w id x) : M.blk id < w.heap.size := by
 cases x with
 | grow n sz => obtain ⟨_, _, _, _, _, _, _, c, ty, hc, _⟩ := h; exact (Array.getElem?_eq_some_iff.1 hc).1
 | vec v sz cs => obtain ⟨_, _, _, _, _, _, _, c, ty, hc, _⟩ := h; exact (Array.getElem?_eq_some_iff.1 hc).1
 | dead v => exact h.2.2.2
theorem RowOk.keep {w0 : World} {M M' : Mem} {w w' : World} {id : Nat} {x : RowA} (h : RowOk w0 M w id x) (hx : Ext w0 M w M' w') (e1 : M'.fr id = M.fr id) (e2 : M'.rsz id = M.rsz id) (e3 : M'.blk id = M.blk id) (e4 : M'.cap id = M.cap id)
  (e5 : M'.top (M.blk id) = M.top (M.blk id)) (e6 : ∀ l, l < M'.N → M'.bx l ≠ M.blk id) (e7 : w'.heap[M.blk id]? = w.heap[M.blk id]?) : RowOk w0 M' w' id x := by
 cases x with
 | grow n sz =>
  obtain ⟨a1, a2, a3, a4, a5, a6, a7, c, ty, a8, a9⟩ := h
  simp only [RowOk, e1, e2, e3, e4, e5, e7]
  exact ⟨a1, a2, a3, a4, e6, a6, a7, c, ty, a8, a9⟩
 | vec v sz cs =>
  obtain ⟨a1, a2, a3, a4, a5, a6, a7, c, ty, a8, a9, b1, b2, b3⟩ := h
  simp only [RowOk, e1, e2, e3, e4, e5, e7]
  exact ⟨a1, a2, a3, a4, e6, a6, a7, c, ty, a8, a9, b1, b2, fun i h1 h2 => (b3 i h1 h2).mono hx⟩
 | dead v =>
  obtain ⟨a1, a2, a3, a4⟩ := h
  simp only [RowOk, e1, e3]
  exact ⟨a1, a2, e6, Nat.lt_of_lt_of_le a4 hx.size⟩
structure RelSt (w0 : World) (M : Mem) (st : St) (w : World) : Prop where
 below : Below w0.heap.size w0 w
 N : M.N = st.boxes.length
 NR : M.NR = st.rows.length
 top : ∀ b, w.heap.size ≤ b → M.top b = 0
 inj : ∀ l l', l < M.N → l' < M.N → M.bx l = M.bx l' → l = l'
 box : ∀ l cs, st.boxes[l]? = some cs → w0.heap.size ≤ M.bx l ∧ M.top (M.bx l) = 0 ∧ ∃ c ty, w.heap[M.bx l]? = some (.cells c ty (0, 0)) ∧ c.size = cs.length ∧ (∀ x ∈ cs, x.one = true) ∧
  ∀ i (h1 : i < c.size) (h2 : i < cs.length), R w0 M w c[i] cs[i]
 row : ∀ id x, st.rows[id]? = some x → RowOk w0 M w id x
 rowinj : ∀ i j, i < M.NR → j < M.NR → M.blk i = M.blk j → i = j
 loop : LoopSt w0 M w st.loops
structure Rel (w0 : World) (n : Nat) (M : Mem) (e : Env) (st : St) (a : Act) (w : World) : Prop where
 st : RelSt w0 M st w
 size : a.tmps.size = n
 env : ∀ s x, look e s = some x → entryOk w0 M w (a.tmps.getD s undef) x
section
variable {P : Program} {w0 : World} {n : Nat} {M : Mem} {e : Env} {st : St} {a : Act} {w : World}
theorem tyT_spec {t : TypeId} {s : Nat} {b : Bool} (h : tyT P t = some (s, b)) : ∃ i d, P.info? t = some i ∧ i.size = s ∧ P.underlying t = some d ∧ (match d with | .struct _ | .array _ _ => true | _ => false) = b := by
 unfold tyT at h
 split at h
 ·
  rename_i i d h1 h2
  simp only [Option.some.injEq, Prod.mk.injEq] at h
  exact ⟨i, d, h1, h.1, h2, h.2⟩
 ·
  cases h
theorem run_sizeOf' {t : TypeId} {s : Nat} {b : Bool} (h : tyT P t = some (s, b)) (w : World) : (sizeOf t).run P w = .ok s w := by
 obtain ⟨i, d, h1, h2, _, _⟩ := tyT_spec h
 simp [sizeOf, typeInfo, h1, h2]
theorem run_isAgg' {t : TypeId} {s : Nat} {b : Bool} (h : tyT P t = some (s, b)) (w : World) : (isAgg t).run P w = .ok b w := by
 obtain ⟨i, d, _, _, h3, h4⟩ := tyT_spec h
 unfold isAgg
 rw [Sem.run_bind, run_underlying h3 w]
 subst h4
 cases d <;> rfl
theorem fldT_spec {t : TypeId} {f o s : Nat} {b : Bool} (h : fldT P t f = some (o, s, b)) : ∃ fs x, P.underlying t = some (.struct fs) ∧ fs[f]? = some x ∧ x.offset = o ∧ tyT P x.type = some (s, b) := by
 unfold fldT at h
 split at h
 ·
  rename_i fs h1
  split at h
  ·
   rename_i x h2
   obtain ⟨⟨s', b'⟩, h3, h4⟩ := Option.map_eq_some_iff.1 h
   simp only [Prod.mk.injEq] at h4
   obtain ⟨rfl, rfl, rfl⟩ := h4
   exact ⟨fs, x, h1, h2, rfl, h3⟩
  ·
   cases h
 ·
  cases h
theorem elT_spec {t el : TypeId} {s by8 : Nat} {b : Bool} (h : elT P t = some (el, s, b, by8)) : ∃ i, P.underlying t = some (.slice el) ∧ P.info? el = some i ∧ i.bytes = by8 ∧ tyT P el = some (s, b) := by
 unfold elT at h
 split at h
 ·
  rename_i e' h1
  split at h
  ·
   rename_i i s' b' h2 h3
   simp only [Option.some.injEq, Prod.mk.injEq] at h
   obtain ⟨rfl, rfl, rfl, rfl⟩ := h
   exact ⟨i, h1, h2, rfl, h3⟩
  ·
   cases h
 ·
  cases h
theorem arrT_spec {t : TypeId} {m s : Nat} {b : Bool} (h : arrT P t = some (m, s, b)) : ∃ el, P.underlying t = some (.array m el) ∧ tyT P el = some (s, b) := by
 unfold arrT at h
 split at h
 ·
  rename_i m' el h1
  obtain ⟨⟨s', b'⟩, h3, h4⟩ := Option.map_eq_some_iff.1 h
  simp only [Prod.mk.injEq] at h4
  obtain ⟨rfl, rfl, rfl⟩ := h4
  exact ⟨el, h1, h3⟩
 ·
  cases h
theorem strT_spec {t : TypeId} (h : strT P t = true) : P.underlying t = some .string := by
 unfold strT at h
 split at h
 ·
  assumption
 ·
  cases h
theorem intT_spec {t : TypeId} {k : IntKind} (h : intT P t = some k) : P.underlying t = some (.int k) := by
 unfold intT at h
 split at h
 ·
  rename_i k' h1; cases h; exact h1
 ·
  cases h
theorem R_undef : R w0 M w undef .junk := .tup rfl (fun i h1 => absurd h1 (by simp))
theorem R_ofCell {v : Value} (h : cellOk v = true) : R w0 M w v (ofCell v) := by
 unfold ofCell
 split
 ·
  exact .nil (fun id => by simp)
 ·
  rename_i hne
  refine .flat ?_
  unfold cellOk at h
  split at h
  ·
   exact absurd rfl hne
  ·
   exact h
theorem ofCell_one {v : Value} (h : cellOk v = true) : (ofCell v).one = true := by
 unfold ofCell
 split <;> rfl
theorem R_ofVal {v : Value} (h : constOk v = true) : R w0 M w v (ofVal v) := by
 cases v with
 | agg cs =>
  have h' : ∀ x ∈ cs.toList, cellOk x = true := List.all_eq_true.1 h
  refine .agg (by simp) (fun x hx => ?_) (fun i h1 h2 => ?_)
  ·
   obtain ⟨y, hy, rfl⟩ := List.mem_map.1 hx
   exact ofCell_one (h' y hy)
  ·
   simp only [List.getElem_map, Array.getElem_toList]
   exact R_ofCell (h' _ (by simp))
 | _ => exact R_ofCell h
theorem arg_R (h : Rel w0 n M e st a w) {x : Operand} (ho : argOk e true x) : R w0 M w (a.eval x) (argV e x) := by
 cases x with
 | tmp t =>
  simp only [argOk, argV] at *
  cases hl : look e t with
  | none => simp [hl] at ho
  | some x =>
   obtain ⟨c', v⟩ := x
   simp only [hl] at ho ⊢
   have := h.env t _ hl
   unfold entryOk at this
   rw [if_pos (by simpa using ho)] at this
   exact this
 | const v => exact R_ofVal ho
 | func f => exact .clo rfl (fun i h1 => absurd h1 (by simp))
 | global g => exact ho.elim
theorem R.val_inv {v u : Value} (h : R w0 M w v (.val u)) : v = u ∧ flatV u = true := by cases h; exact ⟨rfl, ‹_›⟩
theorem R.plain {v : Value} {x : AV} (h : R w0 M w v x) (hp : isPlain x = true) : v = plainOf x ∧ flatV (plainOf x) = true ∧ x = .val (plainOf x) := by
 cases x with
 | val u => obtain ⟨rfl, hf⟩ := h.val_inv; exact ⟨rfl, hf, rfl⟩
 | _ => cases hp
theorem R.int {v : Value} {x : AV} (h : R w0 M w v x) (hp : isInt x = true) : v = .int (kindOfA x) (intOfA x) ∧ x = .val (.int (kindOfA x) (intOfA x)) := by
 cases x with
 | val u =>
  obtain ⟨rfl, hf⟩ := h.val_inv
  cases v <;> first | exact ⟨rfl, rfl⟩ | cases hp
 | _ => cases hp
theorem R.bool {v : Value} {x : AV} (h : R w0 M w v x) (hp : isB x = true) : v = .bool (boolOf x) ∧ x = .val (.bool (boolOf x)) := by
 cases x with
 | val u =>
  obtain ⟨rfl, hf⟩ := h.val_inv
  cases v <;> first | exact ⟨rfl, rfl⟩ | cases hp
 | _ => cases hp
def Yields' (P : Program) (w0 : World) (M : Mem) (st' : St) (r : AV) (w : World) (s : Sem Next) : Prop :=
 ∃ v w' M', (s.run P w = .ok (.value v) w' ∨ (s.run P w = .ok .skip w' ∧ v = undef)) ∧ Ext w0 M w M' w' ∧ RelSt w0 M' st' w' ∧ R w0 M' w' v r
theorem yields_same (hst : RelSt w0 M st w) {s : Sem Next} {v : Value} {r : AV} (hs : s.run P w = .ok (.value v) w) (hr : R w0 M w v r) : Yields' P w0 M st r w s :=
 ⟨v, w, M, .inl hs, Ext.refl _ _ _, hst, hr⟩
theorem inK_wrap {k : IntKind} {m : Int} (h : inK k m) : k.wrap m = m := by
 cases k <;> simp only [inK] at h <;> simp only [IntKind.wrap, IntKind.signed, IntKind.bits] <;> simp <;> omega
theorem sEq_toList (x y : ByteArray) : (x.toList == y.toList) = sEq x y := by
 unfold sEq
 rw [Lib.toList_data, Lib.toList_data]
theorem binOp_sound {op : BinOp} {x y : Value} {t : TypeId} {X Y : Operand} (h : (evBin op x y).1) :
  (do eqGuard op t X Y x y; binOp op t x y : Sem Value).run P w = .ok (evBin op x y).2 w := by
 unfold evBin at h ⊢
 split at h <;> simp only at h ⊢ <;> try exact h.elim
 case h_1 k a k' b => obtain ⟨rfl, h⟩ := h; simp [eqGuard, binOp, Op.intArith, inK_wrap h]
 case h_2 k a k' b => obtain ⟨rfl, h⟩ := h; simp [eqGuard, binOp, Op.intArith, inK_wrap h]
 case h_3 k a k' b => obtain ⟨rfl, h⟩ := h; simp [eqGuard, binOp, Op.intArith, inK_wrap h]
 case h_4 k a k' b =>
  obtain ⟨rfl, hb, h⟩ := h
  simp [eqGuard, binOp, Op.intDiv, hb, inK_wrap h]
 case h_5 k a k' b =>
  obtain ⟨rfl, hb⟩ := h
  simp [eqGuard, binOp, Op.intDiv, hb]
 case h_6 k a k' b => subst h; simp [eqGuard, binOp, Op.intCmp]; rfl
 case h_7 k a k' b => subst h; simp [eqGuard, binOp, Op.intCmp]; rfl
 case h_8 k a k' b => subst h; simp [eqGuard, binOp, Op.intCmp]
 case h_9 k a k' b => subst h; simp [eqGuard, binOp, Op.intCmp]
 case h_10 k a k' b => subst h; simp [eqGuard, binOp, Op.intCmp]
 case h_11 k a k' b => subst h; simp [eqGuard, binOp, Op.intCmp]
 case h_12 x y =>
  have e : ¬ (((x.size + y.size : Nat) : Int) > IntKind.i64.max) := by simp [IntKind.max, IntKind.signed, IntKind.bits]; omega
  simp only [eqGuard, binOp, Op.stringOp, if_neg e]
  simp
 case h_13 x y => simp [eqGuard, binOp, Op.stringOp, sEq_toList]
 case h_14 x y => simp [eqGuard, binOp, Op.stringOp, sEq_toList]
 case h_15 x y => simp [eqGuard, binOp, Op.stringOp, Lib.toList_data, sLt]
 case h_16 x y => simp [eqGuard, binOp, Op.stringOp, Lib.toList_data, sLt, sEq]
 case h_17 x y => simp [eqGuard, binOp, Op.stringOp, Lib.toList_data, sLt, sEq]
 case h_18 x y => simp [eqGuard, binOp, Op.stringOp, Lib.toList_data, sLt]
 case h_19 k a k' b =>
  obtain ⟨rfl, h⟩ := h
  have e : Nat.min (Int.toNat 1) k.bits = 1 := by cases k <;> rfl
  have e2 : min (Int.toNat 1) k.bits = 1 := by cases k <;> rfl
  simp only [eqGuard, binOp, Op.shift, e, e2]
  simp [Int.fdiv_eq_ediv_of_nonneg]
section
theorem eqCell_sound {d : Nat} {t : TypeId} {u v : Value} (h : eqCellOb P t (.val u) (.val v)) : (Op.equalIn (d + 1) t u v).run P w = .ok (eqCell (.val u) (.val v)) w := by
 unfold eqCellOb at h
 split at h
 ·
  rename_i k a k' b e1 e2
  cases e1; cases e2
  obtain ⟨h1, rfl⟩ := h
  unfold intT at h1
  split at h1
  ·
   rename_i k1 hk
   rw [run_equalIn_int w d t _ k1 a b hk]; rfl
  ·
   cases h1
 ·
  rename_i a b e1 e2
  cases e1; cases e2
  unfold strT at h
  split at h
  ·
   rename_i hk
   rw [run_equalIn_string w d t a b hk, sEq_toList]; rfl
  ·
   cases h
 ·
  rename_i a b e1 e2
  cases e1; cases e2
  unfold boolT at h
  split at h
  ·
   rename_i hk
   rw [run_equalIn_bool' w d t a b hk]; rfl
  ·
   cases h
 ·
  exact h.elim
theorem eqCellOb_val {t : TypeId} {x y : AV} (h : eqCellOb P t x y) : ∃ u v, x = .val u ∧ y = .val v := by
 unfold eqCellOb at h
 split at h
 ·
  exact ⟨_, _, rfl, rfl⟩
 ·
  exact ⟨_, _, rfl, rfl⟩
 ·
  exact ⟨_, _, rfl, rfl⟩
 ·
  exact h.elim
theorem part_one {t : TypeId} (ht : tyT P t = some (1, false)) {cs : Array Value} {i : Nat} {v : Value} (h : cs[i]? = some v) : (part t cs i).run P w = .ok v w := by
 obtain ⟨i0, d, h1, h2, h3, h4⟩ := tyT_spec ht
 have ha : (isAgg t).run P w = .ok false w := by
  simp only [isAgg, Sem.run_bind, run_underlying h3, Result.andThen_ok]
  cases d <;> first | (cases h4; done) | rfl | (cases h4; rfl)
 simp [part, ha, h]
theorem eqFields_sound (d : Nat) {cs ds : Array Value} : ∀ (fs : List Field) (i : Nat) (xs ys : List AV), eqOb P fs i xs ys → (∀ j v, xs[j]? = some (.val v) → cs[i + j]? = some v) → (∀ j v, ys[j]? = some (.val v) → ds[i + j]? = some v) →
  (Op.eqFields (d + 1) cs ds fs).run P w = .ok (eqAll xs ys) w
 | [], _, [], [], _, _, _ => by simp [Op.eqFields, eqAll]
 | f :: fs, i, x :: xs, y :: ys, h, hx, hy => by
  obtain ⟨h1, rfl, h3, h4, h5⟩ := h
  obtain ⟨u, v, rfl, rfl⟩ := eqCellOb_val h4
  have e1 := part_one (w := w) h3 (hx 0 u rfl)
  have e2 := part_one (w := w) h3 (hy 0 v rfl)
  simp only [Nat.add_zero] at e1 e2
  have ih := eqFields_sound d fs _ xs ys h5 (fun j v hj => by rw [Nat.add_assoc, Nat.add_comm 1 j]; exact hx (j + 1) v hj) (fun j v hj => by rw [Nat.add_assoc, Nat.add_comm 1 j]; exact hy (j + 1) v hj)
  simp only [Op.eqFields, if_pos h1, Sem.run_bind, e1, e2, Result.andThen_ok, eqCell_sound h4, eqAll]
  cases hc : eqCell (.val u) (.val v)
  ·
   simp
  ·
   simp [ih]
 | [], _, [], _ :: _, h, _, _ => h.elim
 | [], _, _ :: _, _, h, _, _ => h.elim
 | _ :: _, _, [], _, h, _, _ => h.elim
 | _ :: _, _, _ :: _, [], h, _, _ => h.elim
theorem agg_sound {op : BinOp} {t : TypeId} {cs ds : Array Value} {xs ys : List AV} {X Y : Operand} (h : (evAgg P op t xs ys).1) (hx : ∀ (j : Nat) (v : Value), xs[j]? = some (.val v) → cs[j]? = some v) (hy : ∀ (j : Nat) (v : Value), ys[j]? = some (.val v) → ds[j]? = some v) :
  (do eqGuard op t X Y (.agg cs) (.agg ds); binOp op t (.agg cs) (.agg ds) : Sem Value).run P w = .ok (.bool (evAgg P op t xs ys).2) w := by
 unfold evAgg at h ⊢
 unfold eqT at h ⊢
 cases hu : P.underlying t with
 | none => rw [hu] at h; exact h.elim
 | some d =>
  cases d <;> (try (rw [hu] at h; exact h.elim))
  rename_i fs
  rw [hu] at h
  simp only at h ⊢
  by_cases hc : P.stoodInHeld t = false ∧ P.eqGuardType P.depth t = false
  ·
   rw [if_pos hc] at h ⊢
   have hf : P.fieldsOf t = fs := by unfold Program.fieldsOf; rw [hu]
   have hu' : P.underlying t = some (.struct (P.fieldsOf t)) := by rw [hf]; exact hu
   cases op <;> simp only at h ⊢ <;> (try exact h.elim)
   ·
    have := eqFields_sound (P := P) (w := w) 9998 fs.toList 0 xs ys h (fun j v hj => by rw [Nat.zero_add]; exact hx j v hj) (fun j v hj => by rw [Nat.zero_add]; exact hy j v hj)
    simp only [Sem.run_bind, run_eqGuard_agg w _ t X Y cs ds hc.2, Result.andThen_ok, run_eql_struct, run_equalIn_agg w 9999 t cs ds hu' hc.1, hf, this]
   ·
    have := eqFields_sound (P := P) (w := w) 9998 fs.toList 0 xs ys h (fun j v hj => by rw [Nat.zero_add]; exact hx j v hj) (fun j v hj => by rw [Nat.zero_add]; exact hy j v hj)
    simp only [Sem.run_bind, run_eqGuard_agg w _ t X Y cs ds hc.2, Result.andThen_ok, run_neq_struct, run_equalIn_agg w 9999 t cs ds hu' hc.1, hf, this]
  ·
   rw [if_neg hc] at h; exact h.elim
end
theorem R.aggC {w0 : World} {M : Mem} {w : World} {v : Value} {x : AV} (h : R w0 M w v x) (hx : isAggA x = true) : ∃ cs, v = .agg cs ∧ ∀ (j : Nat) (u : Value), (cellsOfA x)[j]? = some (.val u) → cs[j]? = some u := by
 cases h with
 | @agg cs xs hl h1 h =>
  refine ⟨cs, rfl, fun j u hj => ?_⟩
  replace hj : xs[j]? = some (.val u) := hj
  obtain ⟨hj1, hj2⟩ := List.getElem?_eq_some_iff.1 hj
  have hr := h j (by omega) hj1
  have hj2' : xs[j]'hj1 = .val u := hj2
  rw [hj2'] at hr
  have hj3 : j < cs.size := by omega
  rw [Array.getElem?_eq_getElem hj3]
  generalize cs[j] = q at hr
  cases hr
  rfl
 | _ => cases hx
theorem evBin_flat {op : BinOp} {x y : Value} (h : (evBin op x y).1) : flatV (evBin op x y).2 = true := by
 unfold evBin at h ⊢
 split at h <;> simp only at h ⊢ <;> try first | exact h.elim | rfl
 rename_i x y
 have e : (x ++ y).size = x.size + y.size := ByteArray.size_append
 simp only [flatV, maxLen, e]
 simp
 omega
theorem unOp_sound {op : UnOp} {x : Value} (h : (evUn op x).1) : (Op.unary op x).run P w = .ok (evUn op x).2 w := by
 unfold evUn at h ⊢
 split at h <;> simp only at h ⊢ <;> try exact h.elim
 ·
  simp [Op.unary]
 ·
  have e := inK_wrap h
  simp only [Op.unary, Op.intArith, e]
  rfl
theorem evUn_flat {op : UnOp} {x : Value} (h : (evUn op x).1) : flatV (evUn op x).2 = true := by
 unfold evUn at h ⊢
 split at h <;> simp only at h ⊢ <;> first | exact h.elim | rfl
theorem add_none (b o j : Nat) : (⟨b, o, none⟩ : Addr).add j = ⟨b, o + j, none⟩ := by
 unfold Addr.add
 split
 ·
  subst j; rfl
 ·
  rfl
theorem vecR_spec {rows : List RowA} {id ver sz : Nat} {cs : List AV} (h : vecR rows id ver = some (sz, cs)) : rows[id]? = some (.vec ver sz cs) := by
 unfold vecR at h
 split at h
 ·
  rename_i v s c he
  split at h
  ·
   rename_i hv; cases h; rw [he, hv]
  ·
   cases h
 ·
  cases h
theorem vecR_some {rows : List RowA} {id ver : Nat} (h : (vecR rows id ver).isSome = true) : ∃ sz cs, vecR rows id ver = some (sz, cs) := by
 obtain ⟨⟨a, b⟩, h⟩ := Option.isSome_iff_exists.1 h
 exact ⟨a, b, h⟩
theorem ref_spec (hst : RelSt w0 M st w) {v : Value} {x : AV} (h : R w0 M w v x) (hr : isRef st x = true) :
  ∃ b o, v = .pointer (some ⟨b, o + offAt x, none⟩) ∧ (∀ c ∈ cellsAt st x, c.one = true) ∧ ∀ j (hj : j < (cellsAt st x).length), ∃ u, w.cell? ⟨b, o + j, none⟩ = some u ∧ R w0 M w u (cellsAt st x)[j] := by
 cases x with
 | box l off =>
  cases h with
  | box hl =>
   have hl' : l < st.boxes.length := by simpa [isRef] using hr
   obtain ⟨cs, hcs⟩ : ∃ cs, st.boxes[l]? = some cs := ⟨_, List.getElem?_eq_getElem hl'⟩
   obtain ⟨_, _, c, ty, hb, hsz, h1, hR⟩ := hst.box l cs hcs
   have e : cellsAt st (.box l off) = cs := by simp [cellsAt, List.getD, hcs]
   refine ⟨M.bx l, 0, by simp [offAt], by rw [e]; exact h1, fun j hj => ?_⟩
   simp only [e] at hj ⊢
   refine ⟨c[j]'(by omega), ?_, hR j (by omega) hj⟩
   rw [Nat.zero_add, cell_of_row w _ j c ty _ hb]
   exact Array.getElem?_eq_getElem (by omega)
 | elem y k =>
  cases h with
  | @elem b off x u k hcell hu =>
   obtain ⟨hs, hR⟩ := hu.cells
   refine ⟨b, off, rfl, ?_, fun j hj => ?_⟩
   ·
    refine hu.cellsOne (fun vs hv => ?_)
    subst hv
    simp [isRef] at hr
   ·
    have hj' : j < u.cells.size := by rw [hs]; exact hj
    refine ⟨u.cells[j], ?_, hR j hj' hj⟩
    rw [(hcell j hj').2]
    exact Array.getElem?_eq_getElem hj'
 | vel id ver off =>
  cases h with
  | @vel _ _ _ a hi hv hh =>
   obtain ⟨sz, cs, hcs⟩ := vecR_some (show (vecR st.rows id ver).isSome = true from hr)
   obtain ⟨f1, f2, f3, f4, f5, f6, f7, c, ty, f8, f9, f10, f11, f12⟩ := hst.row id _ (vecR_spec hcs)
   have e : cellsAt st (.vel id ver off) = cs := by simp [cellsAt, hcs]
   refine ⟨M.blk id, 0, by rw [hh f1.symm]; simp [offAt], by rw [e]; exact f11, fun j hj => ?_⟩
   simp only [e] at hj ⊢
   refine ⟨c[j]'(by omega), ?_, f12 j (by omega) hj⟩
   rw [Nat.zero_add, cell_of_row w _ j c ty _ f8]
   exact Array.getElem?_eq_getElem (by omega)
 | _ => cases hr
theorem Yields'.value {s : Sem Value} {st' : St} {r : AV} (h : ∃ v w' M', s.run P w = .ok v w' ∧ Ext w0 M w M' w' ∧ RelSt w0 M' st' w' ∧ R w0 M' w' v r) :
  Yields' P w0 M st' r w (do pure (.value (← s))) := by
 obtain ⟨v, w', M', hs, h1, h2, h3⟩ := h
 exact ⟨v, w', M', .inl (by simp [hs]), h1, h2, h3⟩
theorem Yields'.here (hst : RelSt w0 M st w) {s : Sem Value} {v : Value} {r : AV} (hs : s.run P w = .ok v w) (hr : R w0 M w v r) :
  Yields' P w0 M st r w (do pure (.value (← s))) := .value ⟨v, w, M, hs, Ext.refl _ _ _, hst, hr⟩
theorem boolT_spec {t : TypeId} (h : boolT P t = true) : P.underlying t = some .bool := by
 unfold boolT at h
 split at h
 ·
  assumption
 ·
  cases h
theorem bb_sound {op : BinOp} {a b : Bool} {t : TypeId} {X Y : Operand} (ht : boolT P t = true) (h : (evBB op a b).1) : (do eqGuard op t X Y (.bool a) (.bool b); binOp op t (.bool a) (.bool b) : Sem Value).run P w = .ok (.bool (evBB op a b).2) w := by
 have hu := boolT_spec ht
 cases op <;> try exact h.elim
 ·
  simp [eqGuard, binOp, run_equal_bool w t a b hu, evBB]
 ·
  simp [eqGuard, binOp, run_equal_bool w t a b hu, evBB]; cases a <;> cases b <;> rfl
theorem run_equalIn_nil (d : Nat) (t : TypeId) (v : Value) {ms : Array (String × TypeId)} (hu : P.underlying t = some (.interface ms)) (hv : isIfV v = true) : (Op.equalIn (d + 1) t v .nilIface).run P w = .ok (isNilV v) w := by
 cases v <;> first | cases hv | skip
 all_goals simp [Op.equalIn, run_underlying hu, isNilV]
theorem nil_sound {op : BinOp} {v : Value} {t : TypeId} {X Y : Operand} (ht : ifaceT P t = true) (hy : isNilO Y = true) (h : (evNil op v).1) : (do eqGuard op t X Y v .nilIface; binOp op t v .nilIface : Sem Value).run P w = .ok (.bool (evNil op v).2) w := by
 obtain ⟨ms, hu⟩ : ∃ ms, P.underlying t = some (.interface ms) := by
  unfold ifaceT at ht
  split at ht
  ·
   exact ⟨_, ‹_›⟩
  ·
   cases ht
 have eY : ∃ c, Y = .const c := by
  cases Y <;> first | exact ⟨_, rfl⟩ | cases hy
 obtain ⟨c, rfl⟩ := eY
 have key : ∀ v, isIfV v = true → (eqGuard op t X (.const c) v .nilIface).run P w = .ok () w ∧ (Op.equal t v .nilIface).run P w = .ok (isNilV v) w := by
  intro v hv
  cases v <;> first | cases hv | skip
  all_goals
   refine ⟨?_, run_equalIn_nil 9999 t _ hu rfl⟩
   cases op <;> cases X <;> simp [eqGuard]
 cases op <;> first | exact h.elim | skip
 all_goals
  obtain ⟨k1, k2⟩ := key v h
  simp only [Sem.run_bind, k1, Result.andThen_ok]
  cases v <;> first | cases h | skip
  all_goals simp [binOp, k2, evNil]
theorem run_equalIn_sl (d : Nat) (t e : TypeId) (a : Addr) (n k n' k' : Nat) (h : P.underlying t = some (.slice e)) : (Op.equalIn (d + 1) t (.slice (some a) n k) (.slice none n' k')).run P w = .ok false w := by
 simp [Op.equalIn, run_underlying h]
theorem run_equalIn_pt (d : Nat) (t e : TypeId) (a : Addr) (h : P.underlying t = some (.pointer e)) : (Op.equalIn (d + 1) t (.pointer (some a)) (.pointer none)).run P w = .ok false w := by
 simp [Op.equalIn, run_underlying h]
theorem nilR_sound {op : BinOp} {v : Value} {x : AV} {t : TypeId} {X : Operand} {cv : Value} {M : Mem} {w0 : World} (hr : R w0 M w v x) (hy : isNilRV cv = true) (ht : refT P t cv = true) (hs : solidA cv x = true) (ho : (neB op).isSome = true) : (do eqGuard op t X (.const cv) v cv; binOp op t v cv : Sem Value).run P w = .ok (.bool ((neB op).getD false)) w := by
 have g : (eqGuard op t X (.const cv) v cv).run P w = .ok () w := by
  cases cv <;> first | cases hy | skip
  all_goals cases op <;> cases X <;> cases v <;> simp [eqGuard]
 have run : (Op.equal t v cv).run P w = .ok false w := by
  unfold refT at ht
  split at ht
  ·
   rename_i p a b e hu
   obtain rfl : p = none := by cases p <;> first | rfl | cases hy
   cases x <;> first | cases hs | skip
   rename_i l o
   cases l <;> first | cases hs | skip
   cases hr
   exact run_equalIn_sl 9999 t _ _ _ _ _ _ hu
  ·
   rename_i p e hu
   obtain rfl : p = none := by cases p <;> first | rfl | cases hy
   cases x <;> first | cases hs | skip
   all_goals cases hr; exact run_equalIn_pt 9999 t _ _ hu
  ·
   cases ht
 simp only [Sem.run_bind, g, Result.andThen_ok]
 cases op <;> first | cases ho | skip
 all_goals
  cases cv <;> first | cases hy | skip
  all_goals cases v <;> simp [binOp, run, neB]
theorem ys_binOp (h : Rel w0 n M e st a w) (op : BinOp) (t : TypeId) (x y : Operand) (u : TypeId) (hob : (evOp P e true st (.binOp op t x y u)).1) :
  Yields' P w0 M (evOp P e true st (.binOp op t x y u)).2.2 (evOp P e true st (.binOp op t x y u)).2.1 w (do pure (.value (← (do eqGuard op t x y (a.eval x) (a.eval y); binOp op t (a.eval x) (a.eval y))))) := by
 simp only [evOp] at hob ⊢
 by_cases hc : (isB (argV e x) && isB (argV e y)) = true
 ·
  rw [if_pos hc] at hob ⊢
  simp only [Bool.and_eq_true] at hc
  obtain ⟨hx, hy, ht, hb⟩ := hob
  obtain ⟨ex, _⟩ := (arg_R h hx).bool hc.1
  obtain ⟨ey, _⟩ := (arg_R h hy).bool hc.2
  rw [ex, ey]
  exact .here h.st (bb_sound ht hb) (.flat rfl)
 ·
  rw [if_neg hc] at hob ⊢
  by_cases hg : (isAggA (argV e x) && isAggA (argV e y)) = true
  ·
   rw [if_pos hg] at hob ⊢
   simp only [Bool.and_eq_true] at hg
   obtain ⟨hx, hy, hb⟩ := hob
   obtain ⟨cs, ex, hcs⟩ := (arg_R h hx).aggC hg.1
   obtain ⟨ds, ey, hds⟩ := (arg_R h hy).aggC hg.2
   rw [ex, ey]
   exact .here h.st (agg_sound hb hcs hds) (.flat rfl)
  rw [if_neg hg] at hob ⊢
  by_cases hn : isNilO y = true
  ·
   rw [if_pos hn] at hob ⊢
   obtain ⟨hx, px, ht, hb⟩ := hob
   obtain ⟨ex, _, _⟩ := (arg_R h hx).plain px
   have ey : a.eval y = .nilIface := by
    cases y with
    | const v => cases v <;> first | rfl | cases hn
    | _ => cases hn
   rw [ex, ey]
   exact .here h.st (nil_sound ht hn hb) (.flat rfl)
  rw [if_neg hn] at hob ⊢
  by_cases hm : isNilR y = true
  ·
   rw [if_pos hm] at hob ⊢
   obtain ⟨hx, ht, hs, ho⟩ := hob
   have hr := arg_R h hx
   cases y with
   | const cv => exact .here h.st (nilR_sound (X := x) hr hm ht hs ho) (.flat rfl)
   | _ => cases hm
  rw [if_neg hm] at hob ⊢
  obtain ⟨hx, hy, px, py, hb⟩ := hob
  obtain ⟨ex, _, _⟩ := (arg_R h hx).plain px
  obtain ⟨ey, _, _⟩ := (arg_R h hy).plain py
  rw [ex, ey]
  exact .here h.st (binOp_sound hb) (.flat (evBin_flat hb))
theorem ys_unOp (h : Rel w0 n M e st a w) (op : UnOp) (t : TypeId) (x : Operand) (hob : (evOp P e true st (.unOp op t x)).1) :
  Yields' P w0 M st (.val (evUn op (plainOf (argV e x))).2) w (do pure (.value (← Op.unary op (a.eval x)))) := by
 obtain ⟨hx, px, hb⟩ := hob
 obtain ⟨ex, _, _⟩ := (arg_R h hx).plain px
 rw [ex]
 exact .here h.st (unOp_sound hb) (.flat (evUn_flat hb))
theorem sel_R {t : Bool} {u v : Value} {x y : AV} (hx : t = true → R w0 M w u x) (hy : t = false → R w0 M w v y) : R w0 M w (if t then u else v) (AV.sel t x y) := by
 have hf : AV.sel false x y = y := by unfold AV.sel; split <;> rfl
 have ht : AV.sel true x y = x := by unfold AV.sel; split <;> rfl
 cases t
 ·
  rw [hf]; exact hy rfl
 ·
  rw [ht]; exact hx rfl
theorem ys_pick (h : Rel w0 n M e st a w) (b x y : Operand) (hob : (evOp P e true st (.pick b x y)).1) :
  Yields' P w0 M st (AV.sel (boolOf (argV e b)) (argV e x) (argV e y)) w (do pure (.value (if ← asBool (a.eval b) then a.eval x else a.eval y))) := by
 obtain ⟨hb, isb, hx, hy⟩ := hob
 obtain ⟨eb, _⟩ := (arg_R h hb).bool isb
 refine yields_same h.st (v := if boolOf (argV e b) then a.eval x else a.eval y) ?_ (sel_R (fun q => arg_R h (hx rfl q)) (fun q => arg_R h (hy rfl q)))
 rw [eb]
 simp [asBool]
theorem run_loadVar' {t : TypeId} {sz : Nat} {ag : Bool} (ht : tyT P t = some (sz, ag)) {b o : Nat} {f : Nat → Value} (hc : ∀ j, j < sz → w.cell? ⟨b, o + j, none⟩ = some (f j)) (h1 : ag = true ∨ sz = 1) :
  (loadVar t ⟨b, o, none⟩).run P w = .ok (if ag then .agg ((List.range sz).map f).toArray else f 0) w := by
 unfold loadVar
 rw [Sem.run_bind, run_isAgg' ht]
 cases ag with
 | true =>
  simp only [Result.andThen_ok, if_true, Sem.run_bind, run_sizeOf' ht, run_loadCells w ⟨b, o, none⟩ sz f (fun j hj => by rw [add_none]; exact hc j hj)]
  rfl
 | false =>
  have : sz = 1 := by simpa using h1
  subst this
  have := hc 0 (by omega)
  simp only [Nat.add_zero] at this
  simp [this]
theorem loadA_R {cs : List AV} {f : Nat → Value} {o sz : Nat} {ag : Bool} (h1 : ∀ c ∈ cs, c.one = true) (ho : o + sz ≤ cs.length) (hs : ag = true ∨ sz = 1)
  (hR : ∀ j (hj : o + j < cs.length), R w0 M w (f j) cs[o + j]) : R w0 M w (if ag then .agg ((List.range sz).map f).toArray else f 0) (loadA ag cs o sz) := by
 unfold loadA
 cases ag with
 | true =>
  simp only [if_true]
  refine .agg (by simp; omega) (fun x hx => h1 x (List.mem_of_mem_drop (List.mem_of_mem_take hx))) (fun i a1 a2 => ?_)
  simp only [List.getElem_take, List.getElem_drop, List.getElem_toArray, List.getElem_map, List.getElem_range]
  exact hR i (by simp at a1; omega)
 | false =>
  have : sz = 1 := by simpa using hs
  subst this
  have := hR 0 (by omega)
  simp only [Nat.add_zero] at this
  simpa [nth, List.getD, List.getElem?_eq_getElem (show o < cs.length by omega)] using this
theorem ys_load (h : Rel w0 n M e st a w) (t : TypeId) (x : Operand) (hob : (evOp P e true st (.load t x)).1) :
  Yields' P w0 M st (evOp P e true st (.load t x)).2.1 w (do pure (.value (← Instr.loadAt t (a.eval x)))) := by
 unfold evOp at hob ⊢
 cases ht : tyT P t with
 | none => simp [ht] at hob
 | some p =>
  obtain ⟨sz, ag⟩ := p
  simp only [ht] at hob ⊢
  obtain ⟨hx, hr, hle, h1⟩ := hob
  obtain ⟨b, o, ev, hone, hc⟩ := ref_spec h.st (arg_R h hx) hr
  rw [ev]
  have key : ∀ j, j < sz → ∃ u, w.cell? ⟨b, o + offAt (argV e x) + j, none⟩ = some u ∧ ∀ hj, R w0 M w u ((cellsAt st (argV e x))[offAt (argV e x) + j]'hj) := by
   intro j hj
   obtain ⟨u, h2, h3⟩ := hc (offAt (argV e x) + j) (by omega)
   exact ⟨u, by rw [← h2, Nat.add_assoc], fun _ => h3⟩
  let f : Nat → Value := fun j => ((w.cell? ⟨b, o + offAt (argV e x) + j, none⟩).getD undef)
  have hf : ∀ j, j < sz → w.cell? ⟨b, o + offAt (argV e x) + j, none⟩ = some (f j) := fun j hj => by
   obtain ⟨u, hu, _⟩ := key j hj
   simp [f, hu]
  refine .here h.st (v := if ag then .agg ((List.range sz).map f).toArray else f 0) ?_ (loadA_R hone hle h1 (fun j hj => ?_))
  ·
   simp only [Instr.loadAt, Instr.sureAddr, Sem.run_bind, Sem.run_pure, Result.andThen_ok]
   exact run_loadVar' ht hf h1
  ·
   by_cases hjs : j < sz
   ·
    obtain ⟨u, hu, hR⟩ := key j hjs
    have : f j = u := by simp [f, hu]
    rw [this]
    exact hR hj
   ·
    obtain ⟨u, hu, hR⟩ := hc (offAt (argV e x) + j) hj
    have : f j = u := by simp [f, Nat.add_assoc, hu]
    rw [this]
    exact hR
theorem isRef_inv (hst : RelSt w0 M st w) {v : Value} {x : AV} (h : R w0 M w v x) (hr : isRef st x = true) : ∃ b o, v = .pointer (some ⟨b, o, none⟩) ∧ ∀ k, R w0 M w (.pointer (some ⟨b, o + k, none⟩)) (refAdd x k) := by
 cases x with
 | box l off => cases h with | box hl => exact ⟨_, _, rfl, fun k => .box hl⟩
 | elem y k =>
  cases h with
  | @elem b off x u k hcell hu => exact ⟨_, _, rfl, fun k' => by rw [Nat.add_assoc]; exact .elem u (k + k') hcell hu⟩
 | vel id ver off =>
  cases h with
  | @vel _ _ _ a hi hv hh =>
   obtain ⟨sz, cs, hcs⟩ := vecR_some (show (vecR st.rows id ver).isSome = true from hr)
   have f1 := (hst.row id _ (vecR_spec hcs)).1
   have ha := hh f1.symm
   exact ⟨M.blk id, off, by rw [ha], fun k => .vel hi hv fun _ => rfl⟩
 | _ => cases hr
theorem ys_nilCheck (h : Rel w0 n M e st a w) (o : Oper) (x : Operand) (ho : o.op = .nilCheck x) (hob : (evOp P e true st (.nilCheck x)).1) :
  Yields' P w0 M st (argV e x) w (execOp a.eval o) := by
 obtain ⟨hx, hr⟩ := hob
 obtain ⟨b, o', ev, _⟩ := isRef_inv h.st (arg_R h hx) hr
 refine yields_same h.st (v := a.eval x) ?_ (arg_R h hx)
 simp only [execOp, ho, ev]
 rfl
theorem ys_makeFunc (h : Rel w0 n M e st a w) (f : FuncId) (fi cap : Array Operand) (hob : (evOp P e true st (.makeFunc (.func f) fi cap)).1) :
  Yields' P w0 M st (.clo f (cap.toList.map (argV e))) w (do pure (.value (← Instr.makeFunc (.func f) (fi.map a.eval) (cap.map a.eval)))) := by
 obtain ⟨h0, hc⟩ := hob
 refine .here h.st (v := .func (.func f) (fi.map a.eval) (cap.map a.eval)) rfl ?_
 have : fi.map a.eval = #[] := by simp [Array.size_eq_zero_iff.1 h0]
 rw [this]
 refine .clo (by simp) (fun i h1 h2 => ?_)
 simp only [Array.getElem_map, List.getElem_map, Array.getElem_toList]
 exact arg_R h (hc _ (by simp))
theorem ys_fieldAddr (h : Rel w0 n M e st a w) (t : TypeId) (x : Operand) (f : Nat) (hob : (evOp P e true st (.fieldAddr t x f)).1) :
  Yields' P w0 M (evOp P e true st (.fieldAddr t x f)).2.2 (evOp P e true st (.fieldAddr t x f)).2.1 w (do pure (.value (← Instr.fieldAt t (a.eval x) f))) := by
 unfold evOp at hob ⊢
 cases hf : fldT P t f with
 | none => simp [hf] at hob
 | some p =>
  obtain ⟨o, sz, ag⟩ := p
  simp only [hf] at hob ⊢
  obtain ⟨hx, hr, hz⟩ := hob
  obtain ⟨fs, y, h1, h2, h3, h4⟩ := fldT_spec hf
  obtain ⟨b, o', ev, hk⟩ := isRef_inv h.st (arg_R h hx) hr
  refine .here h.st (v := .pointer (some ⟨b, o' + o, none⟩)) ?_ (hk o)
  rw [ev]
  have hz' : ¬ sz = 0 := by omega
  simp [Instr.fieldAt, run_underlying h1, h2, Instr.sureAddr, fieldPlace, h3, add_none, run_sizeOf' h4, hz']
theorem run_part' {t : TypeId} {sz : Nat} {ag : Bool} (ht : tyT P t = some (sz, ag)) {cs : Array Value} {o : Nat} (ho : o + sz ≤ cs.size) (h1 : ag = true ∨ sz = 1) :
  (part t cs o).run P w = .ok (if ag then .agg ((List.range sz).map fun j => cs.getD (o + j) undef).toArray else cs.getD o undef) w := by
 unfold part
 rw [Sem.run_bind, run_isAgg' ht]
 cases ag with
 | true =>
  simp only [Result.andThen_ok, if_true, Sem.run_bind, run_sizeOf' ht, Sem.run_pure]
  congr 2
  apply Array.ext
  ·
   simp; omega
  ·
   intro i h1 h2
   simp at h1 h2
   simp [show o + i < cs.size by omega]
 | false =>
  have : sz = 1 := by simpa using h1
  subst this
  have hlt : o < cs.size := by omega
  simp [hlt]
theorem R.agg_inv {v : Value} {x : AV} (h : R w0 M w v x) (ha : isAggA x = true) : ∃ cs, v = .agg cs ∧ cs.size = x.cells.length ∧ (∀ y ∈ x.cells, y.one = true) ∧ ∀ j (hj : j < x.cells.length), R w0 M w (cs.getD j undef) x.cells[j] := by
 cases x with
 | agg xs =>
  cases h with
  | agg hl h1 hR =>
   rename_i cs
   refine ⟨cs, rfl, hl, h1, fun j hj => ?_⟩
   have hj' : j < cs.size := by rw [hl]; exact hj
   have e : cs.getD j undef = cs[j] := by simp [hj']
   rw [e]
   exact hR j hj' hj
 | _ => cases ha
theorem ys_field (h : Rel w0 n M e st a w) (t : TypeId) (x : Operand) (f : Nat) (hob : (evOp P e true st (.field t x f)).1) :
  Yields' P w0 M (evOp P e true st (.field t x f)).2.2 (evOp P e true st (.field t x f)).2.1 w (do pure (.value (← Instr.field t (a.eval x) f))) := by
 unfold evOp at hob ⊢
 cases hf : fldT P t f with
 | none => simp [hf] at hob
 | some p =>
  obtain ⟨o, sz, ag⟩ := p
  simp only [hf] at hob ⊢
  obtain ⟨hx, hr, hle, hs⟩ := hob
  obtain ⟨fs, y, h1, h2, h3, h4⟩ := fldT_spec hf
  obtain ⟨cs, ev, hl, hone, hR⟩ := (arg_R h hx).agg_inv hr
  rw [ev]
  refine .here h.st (v := if ag then .agg ((List.range sz).map fun j => cs.getD (o + j) undef).toArray else cs.getD o undef) ?_ (loadA_R (f := fun j => cs.getD (o + j) undef) hone hle hs (fun j hj => hR _ hj))
  subst h3
  simp [Instr.field, run_underlying h1, h2, asAgg, run_part' (w := w) h4 (cs := cs) (o := y.offset) (by omega) hs]
theorem R.list_inv {v : Value} {x : AV} (h : R w0 M w v x) (hl : isList x = true) :
  (∃ a cap, v = .slice a (listOf x).length cap ∧ (a = none → listOf x = [] ∧ cap = 0) ∧ (listOf x).length ≤ cap ∧ cap ≤ maxLen) := by
 cases x with
 | list xs o =>
  cases h with
  | nil ho => exact ⟨none, 0, rfl, fun _ => ⟨rfl, rfl⟩, Nat.zero_le _, by simp [maxLen]⟩
  | emp ho => exact ⟨_, 0, rfl, fun e => (by cases e), Nat.zero_le _, by simp [maxLen]⟩
  | list sz us hc hm hcell hu ho => exact ⟨_, _, rfl, fun e => (by cases e), hc, hm⟩
 | _ => cases hl
theorem R.list_elem {v : Value} {xs : List AV} {o : Own} (h : R w0 M w v (.list xs o)) {i : Nat} (hi : i < xs.length) {sz : Nat} (hsz : xs[i].cells.length = sz) :
  ∃ b off cap, v = .slice (some ⟨b, off, none⟩) xs.length cap ∧ R w0 M w (.pointer (some ⟨b, off + i * sz, none⟩)) (.elem xs[i] 0) := by
 cases h with
 | nil ho => exact absurd hi (by simp)
 | emp ho => exact absurd hi (by simp)
 | @list b off cap _ _ sz' us hc hm hcell hu ho =>
  obtain ⟨h1, h2⟩ := hcell i hi
  have e : sz' = sz := by rw [← h1, (hu i hi).cells.1, hsz]
  subst e
  exact ⟨b, off, cap, rfl, .elem (us i) 0 (fun j hj => h2 j (by omega)) (hu i hi)⟩
theorem isList_inv {x : AV} (h : isList x = true) : ∃ xs o, x = .list xs o := by
 cases x with
 | list xs o => exact ⟨xs, o, rfl⟩
 | _ => cases h
theorem nth_eq {l : List AV} {i : Nat} (h : i < l.length) : nth l i = l[i] := by simp [nth, List.getD, List.getElem?_eq_getElem h]
theorem ys_indexAddr (h : Rel w0 n M e st a w) (t : TypeId) (x i : Operand) (hob : (evOp P e true st (.indexAddr t x i)).1) :
  Yields' P w0 M (evOp P e true st (.indexAddr t x i)).2.2 (evOp P e true st (.indexAddr t x i)).2.1 w (do pure (.value (← Instr.indexAt t (a.eval x) (a.eval i)))) := by
 unfold evOp fixSt at hob ⊢
 cases he : elT P t with
 | some p =>
  obtain ⟨el, sz, ag, by8⟩ := p
  simp only [he] at hob ⊢
  split at hob
  ·
   rename_i id ver o n' hx0
   cases hvr : vecR st.rows id ver with
   | none => simp [hvr] at hob
   | some p =>
    obtain ⟨sz', cs⟩ := p
    simp only [hvr] at hob ⊢
    obtain ⟨hx, hi, hii, h0, h1, rfl⟩ := hob
    obtain ⟨info, hu, _, _, hty⟩ := elT_spec he
    obtain ⟨ei, _⟩ := (arg_R h hi).int hii
    have hR := arg_R h hx
    rw [hx0] at hR
    generalize intOfA (argV e i) = m at *
    obtain ⟨k, rfl⟩ := Int.eq_ofNat_of_zero_le h0
    have hk : k < n' := by omega
    generalize hev : a.eval x = v at hR
    cases hR with
    | @vec _ _ _ _ p cap hid hv hh =>
     obtain ⟨f1, f2, _⟩ := h.st.row id _ (vecR_spec hvr)
     obtain ⟨rfl, hcap, hnc⟩ := hh f1.symm
     refine .here h.st (v := .pointer (some ⟨M.blk id, o * M.rsz id + k * sz', none⟩)) ?_ ?_
     ·
      rw [ei]
      simp [Instr.indexAt, asIntOf, run_underlying hu, run_sizeOf' hty, add_none]
      omega
     ·
      refine .vel hid hv fun _ => ?_
      rw [f2, Int.toNat_natCast, Nat.add_mul]
  rename_i hx0
  obtain ⟨hx, hi, hl, hii, h0, h1, hsz⟩ := hob
  obtain ⟨info, hu, _, _, hty⟩ := elT_spec he
  obtain ⟨ei, _⟩ := (arg_R h hi).int hii
  have hR := arg_R h hx
  obtain ⟨xs, o, hxs⟩ := isList_inv hl
  rw [hxs] at hR h1 hsz ⊢
  simp only [listOf] at h1 hsz ⊢
  generalize intOfA (argV e i) = m at *
  obtain ⟨k, rfl⟩ := Int.eq_ofNat_of_zero_le h0
  have hk : k < xs.length := by omega
  simp only [Int.toNat_natCast] at hsz ⊢
  rw [nth_eq hk] at hsz ⊢
  obtain ⟨b, off, cap, ev, hE⟩ := hR.list_elem hk hsz
  refine .here h.st (v := .pointer (some ⟨b, off + k * sz, none⟩)) ?_ hE
  rw [ev, ei]
  simp [Instr.indexAt, asIntOf, run_underlying hu, run_sizeOf' hty, add_none]
  omega
 | none =>
  simp only [he] at hob ⊢
  cases ha : arrT P t with
  | none => simp [ha] at hob
  | some p =>
   obtain ⟨m, sz, ag⟩ := p
   simp only [ha] at hob ⊢
   obtain ⟨hx, hi, hr, hii, h0, h1⟩ := hob
   obtain ⟨el, hu, hty⟩ := arrT_spec ha
   obtain ⟨ei, _⟩ := (arg_R h hi).int hii
   obtain ⟨b, o', ev, hk⟩ := isRef_inv h.st (arg_R h hx) hr
   generalize intOfA (argV e i) = q at *
   obtain ⟨k, rfl⟩ := Int.eq_ofNat_of_zero_le h0
   have hk' : k < m := by omega
   refine .here h.st (v := .pointer (some ⟨b, o' + k * sz, none⟩)) ?_ (by simpa using hk (k * sz))
   rw [ev, ei]
   simp [Instr.indexAt, asIntOf, run_underlying hu, run_sizeOf' hty, Instr.sureAddr, add_none]
   omega
theorem getElem?_get! (s : ByteArray) (k : Nat) (hk : k < s.size) : s[k]? = some (s.get! k) := by
 rw [getElem?_pos s k hk]
 congr 1
 simp only [ByteArray.get!]
 have : k < s.data.size := hk
 rw [getElem!_pos s.data k this]
 rfl
theorem ys_index (h : Rel w0 n M e st a w) (t : TypeId) (x i : Operand) (hob : (evOp P e true st (.index t x i)).1) :
  Yields' P w0 M (evOp P e true st (.index t x i)).2.2 (evOp P e true st (.index t x i)).2.1 w (do pure (.value (← Instr.index t (a.eval x) (a.eval i)))) := by
 unfold evOp fixSt at hob ⊢
 simp only at hob ⊢
 split at hob
 ·
  rename_i s hx0
  obtain ⟨hs, hx, hi, hii, h0, h1⟩ := hob
  obtain ⟨ei, _⟩ := (arg_R h hi).int hii
  have hR := arg_R h hx
  rw [hx0] at hR
  obtain ⟨ev, _⟩ := hR.val_inv
  generalize intOfA (argV e i) = q at *
  obtain ⟨k, rfl⟩ := Int.eq_ofNat_of_zero_le h0
  have hk : k < s.size := by omega
  refine .here h.st (v := .int .u8 (s.get! k).toNat) ?_ (.flat rfl)
  rw [ev, ei]
  have hg : s[k]? = some (s.get! k) := getElem?_get! s k hk
  simp [Instr.index, asIntOf, run_underlying (strT_spec hs), hg]
 ·
  rename_i cs hx0
  cases ha : arrT P t with
  | none => simp [ha] at hob
  | some p =>
   obtain ⟨m, sz, ag⟩ := p
   simp only [ha] at hob ⊢
   obtain ⟨hx, hi, hii, h0, h1, hl, hs⟩ := hob
   obtain ⟨el, hu, hty⟩ := arrT_spec ha
   obtain ⟨ei, _⟩ := (arg_R h hi).int hii
   have hR := arg_R h hx
   rw [hx0] at hR
   obtain ⟨c, ev, hl', hone, hRR⟩ := hR.agg_inv rfl
   simp only [AV.cells] at hl' hone hRR
   generalize intOfA (argV e i) = q at *
   obtain ⟨k, rfl⟩ := Int.eq_ofNat_of_zero_le h0
   have hk : k < m := by omega
   have hle : k * sz + sz ≤ cs.length := by rw [hl, ← Nat.succ_mul]; exact Nat.mul_le_mul_right _ hk
   refine .here h.st (v := if ag then .agg ((List.range sz).map fun j => c.getD (k * sz + j) undef).toArray else c.getD (k * sz) undef) ?_ ?_
   ·
    rw [ev, ei]
    simp only [Instr.index, asIntOf, Sem.run_bind, Sem.run_pure, Result.andThen_ok, run_underlying hu]
    rw [if_pos ⟨by omega, by omega⟩]
    simp only [Sem.run_bind, run_sizeOf' hty, Result.andThen_ok, Int.toNat_natCast]
    exact run_part' hty (by rw [hl']; exact hle) hs
   ·
    simp only [Int.toNat_natCast]
    exact loadA_R (f := fun j => c.getD (k * sz + j) undef) hone hle hs (fun j hj => hRR _ hj)
 ·
  exact hob.elim
theorem ys_extract (h : Rel w0 n M e st a w) (x : Operand) (i : Nat) (hob : (evOp P e true st (.extract x i)).1) :
  Yields' P w0 M (evOp P e true st (.extract x i)).2.2 (evOp P e true st (.extract x i)).2.1 w (do pure (.value (← Instr.extract (a.eval x) i))) := by
 unfold evOp fixSt at hob ⊢
 simp only at hob ⊢
 split at hob
 ·
  rename_i vs hx0
  obtain ⟨hx, hi⟩ := hob
  have hR := arg_R h hx
  rw [hx0] at hR
  generalize a.eval x = v at hR ⊢
  cases hR with
  | tup hl hR =>
   rename_i cs
   rw [nth_eq hi]
   refine .here h.st (v := cs[i]'(by omega)) ?_ (hR i (by omega) hi)
   simp [Instr.extract, show i < cs.size by omega]
 ·
  exact hob.elim
theorem ys_len (h : Rel w0 n M e st a w) (x : Operand) (t ty : TypeId) (hx : argOk e true x) (hob : (evLen P t (argV e x)).1) :
  Yields' P w0 M st (evLen P t (argV e x)).2 w (do pure (.value (← Builtin.len_ #[t] ty #[a.eval x]))) := by
 have hR := arg_R h hx
 unfold evLen at hob ⊢
 split at hob
 ·
  rename_i s hx0
  rw [hx0] at hR
  obtain ⟨ev, _⟩ := hR.val_inv
  refine .here h.st (v := .int .i64 s.size) ?_ (.flat rfl)
  rw [ev]
  simp [Builtin.len_, run_underlying (strT_spec hob), goInt]
 ·
  rename_i xs o hx0
  rw [hx0] at hR
  obtain ⟨b, cap, ev, _⟩ := hR.list_inv rfl
  simp only [listOf] at ev
  obtain ⟨p, hp⟩ := Option.isSome_iff_exists.1 hob
  obtain ⟨el, sz, ag, by8⟩ := p
  obtain ⟨i, hu, _⟩ := elT_spec hp
  refine .here h.st (v := .int .i64 xs.length) ?_ (.flat rfl)
  rw [ev]
  simp [Builtin.len_, run_underlying hu, goInt]
 ·
  rename_i id ver o n' hx0
  rw [hx0] at hR
  obtain ⟨p, hp⟩ := Option.isSome_iff_exists.1 hob
  obtain ⟨el, sz, ag, by8⟩ := p
  obtain ⟨i, hu, _⟩ := elT_spec hp
  generalize hev : a.eval x = v at hR
  cases hR with
  | @vec _ _ _ _ p cap hid hv hh =>
   refine .here h.st (v := .int .i64 n') ?_ (.flat rfl)
   simp [Builtin.len_, run_underlying hu, goInt]
 ·
  exact hob.elim
theorem run_sliceBound {v : Value} {k : IntKind} {q : Nat} {y : Nat} {code : BoundsCode} (hv : v = .int k q) (h : q ≤ y) (w : World) : (Instr.sliceBound v y code).run P w = .ok q w := by
 subst hv
 simp [Instr.sliceBound, asIntOf]
 omega
theorem run_bounds (h : Rel w0 n M e st a w) (isl : Bool) (len cap : Nat) (hlc : len ≤ cap) {lo hi : Option Operand} (hlo : bndOk e true lo) (hhi : bndOk e true hi)
  {l u : Nat} (el : bndOf e 0 lo = l) (eu : bndOf e len hi = u) (h1 : l ≤ u) (h2 : u ≤ len) :
  (Instr.sliceBounds isl len cap (lo.map a.eval) (hi.map a.eval) none).run P w = .ok (l, u, cap) w := by
 have H : ∀ (y : Operand), (argOk e true y ∧ isInt (argV e y) = true) → ∃ k, a.eval y = .int k (intOfA (argV e y)) := fun y hy => ⟨_, ((arg_R h hy.1).int hy.2).1⟩
 cases hi with
 | none =>
  simp only [bndOf] at eu
  have eu' : u = len := by omega
  subst eu'
  cases lo with
  | none =>
   simp only [bndOf] at el
   have el' : l = 0 := by omega
   subst el'
   simp [Instr.sliceBounds]
  | some y =>
   obtain ⟨k, ky⟩ := H y hlo
   simp only [bndOf] at el
   rw [el] at ky
   simp [Instr.sliceBounds, run_sliceBound ky h1]
 | some z =>
  obtain ⟨k2, kz⟩ := H z hhi
  simp only [bndOf] at eu
  rw [eu] at kz
  have hz : u ≤ cap := by omega
  cases lo with
  | none =>
   simp only [bndOf] at el
   have el' : l = 0 := by omega
   subst el'
   simp [Instr.sliceBounds, run_sliceBound kz hz]
  | some y =>
   obtain ⟨k, ky⟩ := H y hlo
   simp only [bndOf] at el
   rw [el] at ky
   simp [Instr.sliceBounds, run_sliceBound kz hz, run_sliceBound ky h1]
theorem R.empty (b off cap : Nat) (hm : cap ≤ maxLen) : R w0 M w (.slice (some ⟨b, off, none⟩) 0 cap) (.list [] .none) :=
 R.list (xs := []) 0 (fun _ => undef) (Nat.zero_le _) hm (fun i hi => absurd hi (by simp)) (fun i hi => absurd hi (by simp)) trivial
theorem R.sub {b off cap : Nat} {xs : List AV} {o : Own} (h : R w0 M w (.slice (some ⟨b, off, none⟩) xs.length cap) (.list xs o)) {l u sz : Nat} (hl : l ≤ u) (hu : u ≤ xs.length) (hsz : l = 0 ∨ ∀ y ∈ xs, y.cells.length = sz) (hne : cap ≠ l) :
    R w0 M w (.slice (some ⟨b, off + l * sz, none⟩) (u - l) (cap - l)) (.list ((xs.take u).drop l) .none) := by
  generalize hv : Value.slice (some ⟨b, off, none⟩) xs.length cap = v at h
  cases h with
  | nil ho => cases hv
  | emp ho => cases hv; simp at hu; subst hu; have : l = 0 := by omega
              subst this; exact absurd rfl hne
  | @list b' off' cap' _ _ sz' us hc hm hcell hus ho =>
    cases hv
    have hlen : ((xs.take u).drop l).length = u - l := by simp; omega
    rw [← hlen]
    have eo : ∀ i, i < u - l → off + l * sz + i * sz' = off + (l + i) * sz' := by
      intro i hi
      rcases hsz with rfl | hsz
      · simp
      · have e : sz' = sz := by
          have h1 : (us i).cells.size = sz' := (hcell i (by omega)).1
          rw [← h1, (hus i (by omega)).cells.1, hsz _ (List.getElem_mem _)]
        rw [e, Nat.add_mul]; omega
    refine .list sz' (fun i => us (l + i)) (by rw [hlen]; omega) (by omega) (fun i hi => ?_) (fun i hi => ?_) trivial
    · rw [hlen] at hi
      obtain ⟨h1, h2⟩ := hcell (l + i) (by omega)
      refine ⟨h1, fun j hj => ?_⟩
      rw [eo i hi]
      exact h2 j hj
    · rw [hlen] at hi
      simp only [List.getElem_drop, List.getElem_take]
      exact hus (l + i) (by omega)
theorem ys_slice (h : Rel w0 n M e st a w) (t : TypeId) (x : Operand) (lo hi mx : Option Operand) (hob : (evOp P e true st (.slice t x lo hi mx)).1) :
  Yields' P w0 M (evOp P e true st (.slice t x lo hi mx)).2.2 (evOp P e true st (.slice t x lo hi mx)).2.1 w (do pure (.value (← Instr.sliceAt t (a.eval x) (lo.map a.eval) (hi.map a.eval) (mx.map a.eval)))) := by
 unfold evOp at hob ⊢
 simp only at hob ⊢
 split at hob
 ·
  rename_i id ver o n' hx0
  cases hp : elT P t with
  | none => simp [hp] at hob
  | some p =>
  obtain ⟨el, sz, ag, by8⟩ := p
  cases hvr : vecR st.rows id ver with
  | none => simp [hp, hvr] at hob
  | some q =>
  obtain ⟨sz', cs⟩ := q
  simp only [hp, hvr] at hob ⊢
  obtain ⟨hx, hlo, hhi, hm, h0, h1, h2, h3, rfl⟩ := hob
  have hR := arg_R h hx
  rw [hx0] at hR
  obtain ⟨i, hu, _, _, hty⟩ := elT_spec hp
  cases mx with
  | some _ => cases hm
  | none =>
   obtain ⟨l', el'⟩ := Int.eq_ofNat_of_zero_le h0
   obtain ⟨u', eu'⟩ := Int.eq_ofNat_of_zero_le (Int.le_trans h0 h1)
   rw [el', eu'] at h1
   rw [eu'] at h2
   rw [el'] at h3
   rw [el', eu']
   simp only [Int.toNat_natCast]
   generalize hev : a.eval x = v at hR
   cases hR with
   | @vec _ _ _ _ p cap hid hv hh =>
    obtain ⟨f1, f2, _⟩ := h.st.row id _ (vecR_spec hvr)
    obtain ⟨rfl, hcap, hnc⟩ := hh f1.symm
    have hb := run_bounds (P := P) h true n' cap hnc hlo hhi el' eu' (by omega) (by omega)
    refine .here h.st (v := .slice (if cap = l' then some ⟨M.blk id, o * M.rsz id, none⟩ else (some (⟨M.blk id, o * M.rsz id, none⟩ : Addr)).map (·.add (l' * sz'))) (u' - l') (cap - l')) ?_ ?_
    ·
     simp only [Instr.sliceAt, Instr.slice, Sem.run_bind, run_underlying hu, Result.andThen_ok, Option.map_none, hb, run_sizeOf' hty, Sem.run_pure]
    ·
     refine .vec hid hv fun _ => ⟨?_, by omega, by omega⟩
     by_cases hcl : cap = l'
     ·
      have : l' = 0 := by omega
      rw [if_pos hcl, this]; simp
     ·
      rw [if_neg hcl]
      simp only [Option.map_some, add_none]
      rw [f2, Nat.add_mul]
 ·
  rename_i s hx0
  obtain ⟨hs, hx, hlo, hhi, hm, h0, h1, h2⟩ := hob
  have hR := arg_R h hx
  rw [hx0] at hR
  obtain ⟨ev, hf⟩ := hR.val_inv
  cases mx with
  | some _ => cases hm
  | none =>
   have hb := run_bounds (P := P) h false s.size s.size (Nat.le_refl _) hlo hhi (Int.toNat_of_nonneg h0).symm (Int.toNat_of_nonneg (Int.le_trans h0 h1)).symm (by omega) (by omega)
   refine .here h.st (v := .string (s.extract (bndOf e 0 lo).toNat (bndOf e s.size hi).toNat)) ?_ (.flat ?_)
   ·
    rw [ev]
    simp only [Instr.sliceAt, Instr.slice, Sem.run_bind, run_underlying (strT_spec hs), Result.andThen_ok, Option.map_none, Option.isSome_none, Bool.false_eq_true, if_false, hb, Sem.run_pure]
   ·
    simp only [flatV, decide_eq_true_eq] at hf ⊢
    simp only [ByteArray.size_extract]
    omega
 ·
  rename_i xs o hx0
  cases hp : elT P t with
  | none => simp [hp] at hob
  | some p =>
   obtain ⟨el, sz, ag, by8⟩ := p
   simp only [hp] at hob ⊢
   cases mx with
   | some m =>
    simp only at hob ⊢
    obtain ⟨hx, hlo, hhi, hm, h0, h1, h2⟩ := hob
    have hR := arg_R h hx
    rw [hx0] at hR
    obtain ⟨i, hu, _, _, hty⟩ := elT_spec hp
    have H : ∀ (y : Operand), (argOk e true y ∧ isInt (argV e y) = true) → ∃ k, a.eval y = .int k (intOfA (argV e y)) := fun y hy => ⟨_, ((arg_R h hy.1).int hy.2).1⟩
    cases hi with
    | none => simp [bndOf] at h1
    | some z =>
     obtain ⟨k2, kz⟩ := H z hhi
     obtain ⟨k3, km⟩ := H m hm
     simp only [bndOf] at h1 h2
     rw [h1] at kz
     rw [h2] at km
     have hb : ∀ (ln cap : Nat), ln ≤ cap → (Instr.sliceBounds true ln cap (lo.map a.eval) ((some z).map a.eval) ((some m).map a.eval)).run P w = .ok (0, 0, 0) w := by
      intro ln cap hlc
      have e1 := run_sliceBound (P := P) (k := k3) (q := 0) (y := cap) (code := .slice3Acap) km (Nat.zero_le _) w
      have e2 := run_sliceBound (P := P) (k := k2) (q := 0) (y := 0) (code := .slice3B) kz (Nat.zero_le _) w
      cases lo with
      | none => simp [Instr.sliceBounds, e1, e2]
      | some y =>
       obtain ⟨k, ky⟩ := H y hlo
       simp only [bndOf] at h0
       rw [h0] at ky
       have e3 := run_sliceBound (P := P) (k := k) (q := 0) (y := 0) (code := .slice3C) ky (Nat.zero_le _) w
       simp [Instr.sliceBounds, e1, e2, e3]
     obtain ⟨v, hv⟩ : ∃ v, a.eval x = v := ⟨_, rfl⟩
     rw [hv] at hR
     have fin : ∀ (ad : Option Addr) (ln cap : Nat), ln ≤ cap → v = .slice ad ln cap → R w0 M w (.slice ad 0 0) (.list [] .full) →
       Yields' P w0 M st (.list [] .full) w (do pure (.value (← Instr.sliceAt t (a.eval x) (lo.map a.eval) (Option.map a.eval (some z)) (Option.map a.eval (some m))))) := by
      intro ad ln cap hlc e1 hr
      refine .here h.st ?_ hr
      rw [hv, e1]
      simp only [Instr.sliceAt, Instr.slice, Sem.run_bind, run_underlying hu, Result.andThen_ok, hb ln cap hlc, run_sizeOf' hty, Sem.run_pure]
      simp
     cases hR with
     | nil ho => exact fin none 0 0 (Nat.le_refl _) rfl (by simpa using R.nil (fun id => by simp))
     | @emp ad _ ho => exact fin (some ad) 0 0 (Nat.le_refl _) rfl (.emp (fun id => by simp))
     | @list b off cap _ _ sz' us hc hm' hcell hu' ho =>
      exact fin _ _ cap hc rfl (R.list (xs := []) 0 (fun _ => undef) (Nat.zero_le _) (Nat.zero_le _) (fun i hi => absurd hi (by simp)) (fun i hi => absurd hi (by simp)) rfl)
   | none =>
   obtain ⟨hx, hlo, hhi, h0, h1, h2, h3⟩ := hob
   have hR := arg_R h hx
   rw [hx0] at hR
   obtain ⟨i, hu, _, _, hty⟩ := elT_spec hp
   ·
    obtain ⟨l', el'⟩ := Int.eq_ofNat_of_zero_le h0
    obtain ⟨u', eu'⟩ := Int.eq_ofNat_of_zero_le (Int.le_trans h0 h1)
    rw [el', eu'] at h1
    rw [eu'] at h2
    rw [el'] at h3
    rw [el', eu']
    have hlu : l' ≤ u' := by omega
    have hux : u' ≤ xs.length := by omega
    simp only [Int.toNat_natCast]
    have h3' : l' = 0 ∨ ∀ y ∈ xs, y.cells.length = sz := h3.imp (fun q => by omega) id
    have go : ∀ (ad : Option Addr) (cap : Nat), xs.length ≤ cap → a.eval x = .slice ad xs.length cap →
      R w0 M w (.slice (if cap = l' then ad else ad.map (·.add (l' * sz))) (u' - l') (cap - l')) (.list ((xs.take u').drop l') .none) →
      Yields' P w0 M st (.list ((xs.take u').drop l') .none) w (do pure (.value (← Instr.sliceAt t (a.eval x) (lo.map a.eval) (hi.map a.eval) (Option.map a.eval none)))) := by
     intro ad cap hle ev hr
     have hb := run_bounds (P := P) h true xs.length cap hle hlo hhi el' eu' hlu hux
     refine .here h.st ?_ hr
     rw [ev]
     simp only [Instr.sliceAt, Instr.slice, Sem.run_bind, run_underlying hu, Result.andThen_ok, Option.map_none, hb, run_sizeOf' hty, Sem.run_pure]
    generalize hv : a.eval x = v at hR go
    have hR' := hR
    cases hR with
    | nil ho =>
     have e1 : u' = 0 := by simpa using hux
     have e2 : l' = 0 := by omega
     subst e1; subst e2
     refine go none 0 (Nat.le_refl _) rfl ?_
     simpa using (R.nil (w0 := w0) (M := M) (w := w) (o := .none) (fun id => by simp))
    | @emp ad _ ho =>
     have e1 : u' = 0 := by simpa using hux
     have e2 : l' = 0 := by omega
     subst e1; subst e2
     refine go (some ad) 0 (Nat.le_refl _) rfl ?_
     simpa using (R.emp (w0 := w0) (M := M) (w := w) (a := ad) (o := .none) (fun id => by simp))
    | @list b off cap _ _ sz' us hc hm' hcell hu' ho =>
     refine go (some ⟨b, off, none⟩) cap hc rfl ?_
     by_cases hcl : cap = l'
     ·
      have e1 : u' = l' := by omega
      have : (xs.take u').drop l' = [] := by rw [e1]; simp
      rw [this, if_pos hcl, e1, Nat.sub_self]
      exact R.empty _ _ _ (by omega)
     ·
      rw [if_neg hcl]
      simp only [Option.map_some, add_none]
      exact hR'.sub hlu hux h3' hcl
 ·
  exact hob.elim
theorem ys_min (h : Rel w0 n M e st a w) (x y : Operand) (ts : Array TypeId) (t : TypeId) (hx : argOk e true x) (hy : argOk e true y) (ix : isInt (argV e x) = true) (iy : isInt (argV e y) = true) :
  Yields' P w0 M st (.val (.int (kindOfA (argV e x)) (if intOfA (argV e y) < intOfA (argV e x) then intOfA (argV e y) else intOfA (argV e x)))) w (do pure (.value (← Builtin.min_ ts t #[a.eval x, a.eval y]))) := by
 rw [((arg_R h hx).int ix).1, ((arg_R h hy).int iy).1]
 exact .here h.st (by simp [Builtin.min_, Builtin.min2]) (.flat rfl)
theorem ys_max (h : Rel w0 n M e st a w) (x y : Operand) (ts : Array TypeId) (t : TypeId) (hx : argOk e true x) (hy : argOk e true y) (ix : isInt (argV e x) = true) (iy : isInt (argV e y) = true) :
  Yields' P w0 M st (.val (.int (kindOfA (argV e x)) (if intOfA (argV e x) < intOfA (argV e y) then intOfA (argV e y) else intOfA (argV e x)))) w (do pure (.value (← Builtin.max_ ts t #[a.eval x, a.eval y]))) := by
 rw [((arg_R h hx).int ix).1, ((arg_R h hy).int iy).1]
 exact .here h.st (by simp [Builtin.max_, Builtin.max2]) (.flat rfl)
end
section
variable {P : Program} {w0 : World} {n : Nat} {M : Mem} {e : Env} {st : St} {a : Act} {w : World}
theorem RelSt.box_lt (h : RelSt w0 M st w) {l : Nat} (hl : l < M.N) : M.bx l < w.heap.size := by
 have hl' : l < st.boxes.length := by rw [← h.N]; exact hl
 obtain ⟨_, _, c, ty, hb, _⟩ := h.box l _ (List.getElem?_eq_getElem hl')
 exact (Array.getElem?_eq_some_iff.1 hb).1
theorem RelSt.row_lt (h : RelSt w0 M st w) {i : Nat} (hi : i < M.NR) : M.blk i < w.heap.size := by
 have hi' : i < st.rows.length := by rw [← h.NR]; exact hi
 exact (h.row i _ (List.getElem?_eq_getElem hi')).lt
theorem RelSt.base_le (h : RelSt w0 M st w) : w0.heap.size ≤ w.heap.size := h.below.size
theorem RelSt.drew (h : RelSt w0 M st w) : RelSt w0 M st w.drew ∧ Ext w0 M w M w.drew :=
 have hx : Ext w0 M w M w.drew := ⟨Nat.le_refl _, fun _ _ => rfl, Nat.le_refl _, fun _ _ => ⟨Nat.le_refl _, fun _ => ⟨rfl, rfl, rfl⟩⟩, fun _ _ _ hi hc => ⟨hc, hi⟩, Nat.le_refl _, Nat.le_refl _, fun _ _ => rfl, fun _ _ _ => by omega, fun _ _ h _ _ => h, fun _ _ h => ⟨rfl, h, rfl⟩⟩
 ⟨⟨h.below.drew, h.N, h.NR, h.top, h.inj, fun l cs hl => by
   obtain ⟨a1, a2, c, ty, a3, a4, a5, a6⟩ := h.box l cs hl
   exact ⟨a1, a2, c, ty, a3, a4, a5, fun i h1 h2 => (a6 i h1 h2).mono hx⟩, fun id x hid => (h.row id x hid).keep hx rfl rfl rfl rfl rfl (h.row id x hid).ne rfl, h.rowinj, h.loop.mono hx rfl fun _ _ h _ => h⟩, hx⟩
def Mem.newTop (M : Mem) (b k : Nat) : Mem := { M with top := fun x => if x = b then k else M.top x }
theorem ext_new (M' : Mem) (o : Obj) (hN : M'.N = M.N ∨ M'.N = M.N + 1) (hb : ∀ l, l < M.N → M'.bx l = M.bx l) (hNR : M.NR ≤ M'.NR)
  (hr : ∀ id, id < M.NR → M.fr id ≤ M'.fr id ∧ (M'.fr id = M.fr id → M'.blk id = M.blk id ∧ M'.cap id = M.cap id ∧ M'.rsz id = M.rsz id)) (ht : ∀ b, b < w.heap.size → M'.top b = M.top b) (hf : ∀ b, b < w.heap.size → M.foreign b → M'.foreign b) (hNL : M'.NL = M.NL := by rfl) (hlb : M'.lb = M.lb := by rfl) :
  Ext w0 M w M' (w.alloc o) :=
 ⟨by omega, hb, hNR, hr, fun b off v hi hc => by
  have hlt := World.block_lt_of_cell? w _ hc
  refine ⟨by rw [World.cell?_alloc_lt _ _ _ hlt]; exact hc, ?_⟩
  rcases hi with hi | hi
  ·
   exact .inl hi
  ·
   exact .inr (by rw [ht b hlt]; exact hi), by simp, by omega, fun _ _ => by rw [hlb], fun _ _ _ => by omega, fun b o' h1 h2 _ => KeepsObj.alloc w o b o' h1 h2, fun b h1 h2 => ⟨Below.heap_alloc w o b h1, hf b h1 h2, ht b h1⟩⟩
theorem heap_alloc_lt (w : World) (o : Obj) {k : Nat} (h : k < w.heap.size) : (w.alloc o).heap[k]? = w.heap[k]? := Below.heap_alloc w o k h
theorem RelSt.newTop (h : RelSt w0 M st w) (cs : Array Value) (ty : TypeId) (k : Nat) :
  RelSt w0 (M.newTop w.heap.size k) st (w.alloc (.cells cs ty)) ∧ Ext w0 M w (M.newTop w.heap.size k) (w.alloc (.cells cs ty)) := by
 have tp : ∀ b, b < w.heap.size → (M.newTop w.heap.size k).top b = M.top b := fun b hb => by simp [Mem.newTop]; omega
 have hx : Ext w0 M w (M.newTop w.heap.size k) (w.alloc (.cells cs ty)) :=
  ext_new _ _ (.inl rfl) (fun _ _ => rfl) (Nat.le_refl _) (fun _ _ => ⟨Nat.le_refl _, fun _ => ⟨rfl, rfl, rfl⟩⟩) tp (fun _ _ h => h)
 refine ⟨⟨h.below.alloc h.base_le _, h.N, h.NR, fun b hb => ?_, h.inj, fun l c hl => ?_, fun id x hid => (h.row id x hid).keep hx rfl rfl rfl rfl (tp _ (h.row id x hid).lt) (h.row id x hid).ne (heap_alloc_lt _ _ (h.row id x hid).lt), h.rowinj, h.loop.mono hx rfl (KeepsObj.alloc _ _)⟩, hx⟩
 ·
  simp at hb
  have : (M.newTop w.heap.size k).top b = M.top b := by simp [Mem.newTop]; omega
  rw [this]
  exact h.top b (by omega)
 ·
  obtain ⟨a1, a2, c', ty', a3, a4, a5, a6⟩ := h.box l c hl
  have hlt := (Array.getElem?_eq_some_iff.1 a3).1
  exact ⟨a1, by rw [show (M.newTop w.heap.size k).bx l = M.bx l from rfl, tp _ hlt]; exact a2, c', ty', by rw [show (M.newTop w.heap.size k).bx l = M.bx l from rfl, heap_alloc_lt _ _ hlt]; exact a3, a4, a5, fun i h1 h2 => (a6 i h1 h2).mono hx⟩
theorem RelSt.later (h : RelSt w0 M st w) {w' : World} (hb : Below w.heap.size w w') (b k : Nat) (hw : w.heap.size ≤ b) (hk : b < w'.heap.size ∨ k = 0) :
  RelSt w0 (M.newTop b k) st w' ∧ Ext w0 M w (M.newTop b k) w' := by
 have tp : ∀ x, x < w.heap.size → (M.newTop b k).top x = M.top x := fun x hx => by simp [Mem.newTop]; omega
 have hh : ∀ x, x < w.heap.size → w'.heap[x]? = w.heap[x]? := hb.block
 have hko : KeepsObj w w' := fun x o h1 _ => (hh x (Array.getElem?_eq_some_iff.1 h1).1).trans h1
 have hx : Ext w0 M w (M.newTop b k) w' :=
  ⟨Nat.le_refl _, fun _ _ => rfl, Nat.le_refl _, fun _ _ => ⟨Nat.le_refl _, fun _ => ⟨rfl, rfl, rfl⟩⟩, fun x off v hi hc => by
   have hlt := World.block_lt_of_cell? w _ hc
   refine ⟨?_, hi.imp id fun q => by rw [tp x hlt]; exact q⟩
   unfold World.cell? at hc ⊢
   simp only [hh x hlt] at hc ⊢
   exact hc, hb.size, Nat.le_refl _, fun _ _ => rfl, fun _ h1 h2 => absurd h2 (Nat.not_lt.2 h1), fun x o h1 h2 _ => hko x o h1 h2, fun x h1 h2 => ⟨hh x h1, h2, tp x h1⟩⟩
 refine ⟨⟨h.below.trans (hb.mono h.base_le), h.N, h.NR, fun x hx' => ?_, h.inj, fun l c hl => ?_, fun id x hid => (h.row id x hid).keep hx rfl rfl rfl rfl (tp _ (h.row id x hid).lt) (h.row id x hid).ne (hh _ (h.row id x hid).lt), h.rowinj, h.loop.mono hx rfl hko⟩, hx⟩
 ·
  have := hb.size
  by_cases c : x = b
  ·
   have e : (M.newTop b k).top x = k := by simp [Mem.newTop, c]
   rw [e]
   rcases hk with hk | hk
   ·
    omega
   ·
    exact hk
  ·
   have e : (M.newTop b k).top x = M.top x := by simp [Mem.newTop, c]
   rw [e]
   exact h.top x (by omega)
 ·
  obtain ⟨a1, a2, c', ty', a3, a4, a5, a6⟩ := h.box l c hl
  have hlt := (Array.getElem?_eq_some_iff.1 a3).1
  exact ⟨a1, by rw [show (M.newTop b k).bx l = M.bx l from rfl, tp _ hlt]; exact a2, c', ty', by rw [show (M.newTop b k).bx l = M.bx l from rfl, hh _ hlt]; exact a3, a4, a5, fun i h1 h2 => (a6 i h1 h2).mono hx⟩
def Mem.newBox (M : Mem) (b : Nat) : Mem := { M with N := M.N + 1, bx := fun l => if l = M.N then b else M.bx l }
theorem RelSt.newBox (h : RelSt w0 M st w) (v : Value) (x : AV) (ty : TypeId) (hR : R w0 M w v x) (hn : notTup x = true) :
  RelSt w0 (M.newBox w.heap.size) { st with boxes := st.boxes ++ [x.cells] } (w.alloc (.cells v.cells ty)) ∧ Ext w0 M w (M.newBox w.heap.size) (w.alloc (.cells v.cells ty)) ∧
   R w0 (M.newBox w.heap.size) (w.alloc (.cells v.cells ty)) (.pointer (some ⟨w.heap.size, 0, none⟩)) (.box st.boxes.length 0) := by
 have hbx : ∀ l, l < M.N → (M.newBox w.heap.size).bx l = M.bx l := fun l hl => by simp [Mem.newBox]; omega
 have hnew : (M.newBox w.heap.size).bx M.N = w.heap.size := by simp [Mem.newBox]
 have hx : Ext w0 M w (M.newBox w.heap.size) (w.alloc (.cells v.cells ty)) :=
  ext_new _ _ (.inr rfl) hbx (Nat.le_refl _) (fun _ _ => ⟨Nat.le_refl _, fun _ => ⟨rfl, rfl, rfl⟩⟩) (fun _ _ => rfl) (fun b hb q => ⟨fun l hl => by
   by_cases c : l = M.N
   ·
    subst c; rw [hnew]; omega
   ·
    rw [hbx l (by simp only [Mem.newBox] at hl; omega)]; exact q.1 l (by simp only [Mem.newBox] at hl; omega), q.2⟩)
 have hR' := hR.mono hx
 refine ⟨⟨h.below.alloc h.base_le _, by simp [Mem.newBox, h.N], h.NR, fun b hb => h.top b (by simp at hb; omega), fun l l' hl hl' e => ?_, fun l c hl => ?_, fun id x hid => ?_, h.rowinj, h.loop.mono hx rfl (KeepsObj.alloc _ _)⟩, hx, ?_⟩
 ·
  have hN : (M.newBox w.heap.size).N = M.N + 1 := rfl
  rw [hN] at hl hl'
  by_cases e1 : l = M.N
  ·
   by_cases e2 : l' = M.N
   ·
    omega
   ·
    subst e1
    rw [hnew, hbx l' (by omega)] at e
    have := h.box_lt (l := l') (by omega)
    omega
  ·
   by_cases e2 : l' = M.N
   ·
    subst e2
    rw [hnew, hbx l (by omega)] at e
    have := h.box_lt (l := l) (by omega)
    omega
   ·
    rw [hbx l (by omega), hbx l' (by omega)] at e
    exact h.inj l l' (by omega) (by omega) e
 ·
  by_cases e1 : l = M.N
  ·
   subst e1
   simp only [h.N, List.getElem?_concat_length, Option.some.injEq] at hl
   subst hl
   rw [hnew]
   obtain ⟨hs, hc⟩ := hR'.cells
   refine ⟨h.base_le, h.top _ (Nat.le_refl _), v.cells, ty, heap_alloc_new w _, hs, hR.cellsOne (fun vs e => by subst e; cases hn), hc⟩
  ·
   have hl' : l < M.N := by
    have : l < (st.boxes ++ [x.cells]).length := (List.getElem?_eq_some_iff.1 hl).1
    have hN := h.N
    simp at this
    omega
   rw [List.getElem?_append_left (by rw [← h.N]; exact hl')] at hl
   obtain ⟨a1, a2, c', ty', a3, a4, a5, a6⟩ := h.box l c hl
   have hlt := (Array.getElem?_eq_some_iff.1 a3).1
   rw [hbx l hl']
   exact ⟨a1, a2, c', ty', by rw [heap_alloc_lt _ _ hlt]; exact a3, a4, a5, fun i h1 h2 => (a6 i h1 h2).mono hx⟩
 ·
  have hlt := (h.row id x hid).lt
  refine (h.row id x hid).keep hx rfl rfl rfl rfl rfl (fun l hl => ?_) (heap_alloc_lt _ _ hlt)
  by_cases e1 : l = M.N
  ·
   subst e1
   rw [hnew]
   show w.heap.size ≠ M.blk id
   omega
  ·
   have hN : (M.newBox w.heap.size).N = M.N + 1 := rfl
   rw [hbx l (by omega)]
   exact (h.row id x hid).ne l (by omega)
 ·
  have := R.box (w0 := w0) (M := M.newBox w.heap.size) (w := w.alloc (.cells v.cells ty)) (l := st.boxes.length) (off := 0) (by rw [← h.N]; exact Nat.lt_succ_self _)
  rwa [← h.N, hnew, h.N] at this
theorem zeroT_spec {t : TypeId} {z : List AV} (h : zeroT P t = some z) : ∃ i v, P.info? t = some i ∧ i.zero = some v ∧ constOk v = true ∧ v.cells.size = i.size ∧ z = (ofVal v).cells := by
 unfold zeroT at h
 split at h
 ·
  rename_i i hi
  split at h
  ·
   rename_i v hv
   split at h
   ·
    rename_i hc
    simp only [Bool.and_eq_true, beq_iff_eq] at hc
    exact ⟨i, v, hi, hv, hc.1, hc.2, (Option.some.inj h).symm⟩
   ·
    cases h
  ·
   cases h
 ·
  cases h
theorem notTup_ofVal {v : Value} (h : constOk v = true) : notTup (ofVal v) = true := by
 have hc : ∀ u, notTup (ofCell u) = true := fun u => by unfold ofCell; split <;> rfl
 cases v <;> first | rfl | exact hc _
theorem ys_alloc (h : Rel w0 n M e st a w) (t : TypeId) (hob : (evOp P e true st (.alloc t)).1) :
  Yields' P w0 M (evOp P e true st (.alloc t)).2.2 (evOp P e true st (.alloc t)).2.1 w (do pure (.value (← Instr.alloc t true (.tuple #[])))) := by
 unfold evOp at hob ⊢
 cases hz : zeroT P t with
 | none => simp [hz] at hob
 | some z =>
  simp only [hz]
  obtain ⟨i, v, hi, hv, hc, hs, rfl⟩ := zeroT_spec hz
  obtain ⟨h1, h2, h3⟩ := h.st.newBox v (ofVal v) t (R_ofVal hc) (notTup_ofVal hc)
  refine .value ⟨_, _, _, ?_, h2, h1, h3⟩
  simp [Instr.alloc, zeroValue, typeInfo, hi, hv, newVar, newRow]
theorem ys_box (h : Rel w0 n M e st a w) (t : TypeId) (x : Operand) (hob : (evOp P e true st (.box t x)).1) :
  Yields' P w0 M (evOp P e true st (.box t x)).2.2 (evOp P e true st (.box t x)).2.1 w (do pure (.value (← Instr.box t (a.eval x)))) := by
 obtain ⟨_, hx, hn⟩ := hob
 obtain ⟨h1, h2, h3⟩ := h.st.newBox (a.eval x) (argV e x) t (arg_R h hx) hn
 refine .value ⟨_, _, _, ?_, h2, h1, h3⟩
 simp [Instr.box, newVar, newRow]
theorem foldl_set (vs : List Value) : ∀ (k : Nat) (cs : Array Value) (off : Nat), off + k + vs.length ≤ cs.size →
  ((vs.zipIdx k).foldl (fun cs (x : Value × Nat) => cs.setIfInBounds (off + x.2) x.1) cs).size = cs.size ∧
  ∀ j, ((vs.zipIdx k).foldl (fun cs (x : Value × Nat) => cs.setIfInBounds (off + x.2) x.1) cs)[j]? = if off + k ≤ j ∧ j < off + k + vs.length then vs[j - (off + k)]? else cs[j]? := by
 induction vs with
 | nil => intro k cs off h; exact ⟨rfl, fun j => by simp; omega⟩
 | cons v vs ih =>
  intro k cs off h
  simp only [List.length_cons] at h
  simp only [List.zipIdx_cons, List.foldl_cons, List.length_cons]
  obtain ⟨i1, i2⟩ := ih (k + 1) (cs.setIfInBounds (off + k) v) off (by simp; omega)
  refine ⟨by rw [i1]; simp, fun j => ?_⟩
  rw [i2 j]
  by_cases c1 : off + (k + 1) ≤ j ∧ j < off + (k + 1) + vs.length
  ·
   rw [if_pos c1, if_pos (by omega), show j - (off + k) = (j - (off + (k + 1))) + 1 from by omega]
   simp
  ·
   rw [if_neg c1]
   by_cases c2 : j = off + k
   ·
    subst c2
    have hlt : off + k < cs.size := by omega
    rw [if_pos (by omega)]
    simp [hlt]
   ·
    rw [if_neg (by omega), Array.getElem?_setIfInBounds_ne (by omega)]
theorem splice_length {l xs : List AV} {off : Nat} (h : off + xs.length ≤ l.length) : (splice l off xs).length = l.length := by
 simp [splice]; omega
theorem splice_get {l xs : List AV} {off : Nat} (h : off + xs.length ≤ l.length) (j : Nat) : (splice l off xs)[j]? = if off ≤ j ∧ j < off + xs.length then xs[j - off]? else l[j]? := by
 unfold splice
 rw [List.append_assoc, List.getElem?_append]
 simp only [List.length_take]
 have e : min off l.length = off := by omega
 rw [e]
 by_cases c1 : j < off
 ·
  rw [if_pos c1, if_neg (by omega), List.getElem?_take, if_pos c1]
 ·
  rw [if_neg c1, List.getElem?_append]
  by_cases c2 : j - off < xs.length
  ·
   rw [if_pos c2, if_pos (by omega)]
  ·
   rw [if_neg c2, if_neg (by omega), List.getElem?_drop]
   congr 1
   omega
theorem splice_one {l xs : List AV} {off : Nat} (h1 : ∀ x ∈ l, x.one = true) (h2 : ∀ x ∈ xs, x.one = true) : ∀ x ∈ splice l off xs, x.one = true := by
 intro x hx
 simp only [splice, List.mem_append] at hx
 rcases hx with (hx | hx) | hx
 ·
  exact h1 x (List.mem_of_mem_take hx)
 ·
  exact h2 x hx
 ·
  exact h1 x (List.mem_of_mem_drop hx)
def RowR (w0 : World) (M : Mem) (w : World) (cs : Array Value) (l : List AV) : Prop := cs.size = l.length ∧ ∀ i (h1 : i < cs.size) (h2 : i < l.length), R w0 M w cs[i] l[i]
theorem RowR.get {cs : Array Value} {l : List AV} (h : RowR w0 M w cs l) {i : Nat} {v : Value} {x : AV} (hv : cs[i]? = some v) (hx : l[i]? = some x) : R w0 M w v x := by
 obtain ⟨a1, rfl⟩ := Array.getElem?_eq_some_iff.1 hv
 obtain ⟨a2, rfl⟩ := List.getElem?_eq_some_iff.1 hx
 exact h.2 i a1 a2
theorem RowR.mk {cs : Array Value} {l : List AV} (hs : cs.size = l.length) (h : ∀ (i : Nat) (v : Value) (x : AV), cs[i]? = some v → l[i]? = some x → R w0 M w v x) : RowR w0 M w cs l :=
 ⟨hs, fun i h1 h2 => h i _ _ (Array.getElem?_eq_getElem h1) (List.getElem?_eq_getElem h2)⟩
theorem RowR.put {cs cs' : Array Value} {l : List AV} (h : RowR w0 M w cs l) {v : Value} {x : AV} (hR : R w0 M w v x) {off : Nat} (hoff : off + x.cells.length ≤ l.length) (hs : cs'.size = cs.size)
  (hg : ∀ j, cs'[j]? = if off ≤ j ∧ j < off + v.cells.toList.length then v.cells.toList[j - off]? else cs[j]?) : RowR w0 M w cs' (splice l off x.cells) := by
 obtain ⟨c1, c2⟩ := hR.cells
 refine .mk (by rw [hs, splice_length hoff]; exact h.1) (fun i u y hu hy => ?_)
 rw [hg i] at hu
 rw [splice_get hoff] at hy
 simp only [Array.length_toList] at hu
 rw [← c1] at hy
 by_cases c : off ≤ i ∧ i < off + v.cells.size
 ·
  rw [if_pos c] at hu hy
  rw [Array.getElem?_toList] at hu
  exact RowR.get ⟨c1, c2⟩ hu hy
 ·
  rw [if_neg c] at hu hy
  exact h.get hu hy
theorem ys_fill (t : TypeId) (pl : Nat → Option (Nat × Nat)) (hpl : ∀ i o s, placeT P t i = some (o, s) → pl i = some (o, s)) :
  ∀ (vs : List (Nat × Value)) (xs : List (Nat × AV)) (cs : Array Value) (l : List AV), vs.length = xs.length → (∀ (k : Nat) (p : Nat × Value) (q : Nat × AV), vs[k]? = some p → xs[k]? = some q → p.1 = q.1 ∧ R w0 M w p.2 q.2 ∧ notTup q.2 = true) →
   RowR w0 M w cs l → (∀ y ∈ l, y.one = true) → fillOk P t l.length xs → ∃ cs', Instr.fill pl cs vs = some cs' ∧ RowR w0 M w cs' (fillA P t l xs) ∧ (∀ y ∈ fillA P t l xs, y.one = true)
 | [], [], cs, l, _, _, h, h1, _ => ⟨cs, rfl, h, h1⟩
 | [], _ :: _, _, _, hl, _, _, _, _ => by cases hl
 | _ :: _, [], _, _, hl, _, _, _, _ => by cases hl
 | (i, v) :: vs, (i', x) :: xs, cs, l, hl, hp, h, h1, hf => by
  obtain ⟨rfl, hR, hn⟩ := hp 0 _ _ rfl rfl
  simp only at hR hn
  simp only [fillOk] at hf
  obtain ⟨hf1, hf2⟩ := hf
  simp only [Instr.fill, fillA]
  cases hpp : placeT P t i with
  | none => simp [hpp] at hf1
  | some p =>
   obtain ⟨o, s⟩ := p
   simp only [hpp] at hf1 ⊢
   obtain ⟨a1, a2⟩ := hf1
   obtain ⟨c1, c2⟩ := hR.cells
   rw [hpl i o s hpp]
   have e1 : (decide (v.cells.size ≠ s) || decide (o + v.cells.size > cs.size)) = false := by have := h.1; simp; omega
   simp only [e1, Bool.false_eq_true, if_false]
   have hfl := foldl_set v.cells.toList 0 cs o (by simp; have := h.1; omega)
   have efold : (v.cells.zipIdx.foldl (fun cs (c, j) => cs.setIfInBounds (o + j) c) cs) = (v.cells.toList.zipIdx 0).foldl (fun cs (x : Value × Nat) => cs.setIfInBounds (o + x.2) x.1) cs := by
    rw [← Array.foldl_toList]
    simp
   rw [efold]
   simp only [Nat.add_zero] at hfl
   have hput := h.put hR (off := o) (by omega) hfl.1 hfl.2
   refine ys_fill t pl hpl vs xs _ _ (by simpa using hl) (fun k p q hk hq => hp (k + 1) p q (by simpa using hk) (by simpa using hq)) hput (splice_one h1 (hR.cellsOne (fun vs e => by subst e; cases hn))) ?_
   rw [splice_length (by omega)]
   exact hf2
theorem run_mapM {α β : Type} (f : α → Sem β) (g : α → β) : ∀ (l : List α), (∀ x ∈ l, ∀ w, (f x).run P w = .ok (g x) w) → ∀ w, (l.mapM f).run P w = .ok (l.map g) w
 | [], _, w => by simp
 | x :: l, h, w => by simp [h x (by simp), run_mapM f g l (fun y hy => h y (by simp [hy])) w]
theorem run_amapM {α β : Type} (f : α → Sem β) (g : α → β) (xs : Array α) (h : ∀ x ∈ xs.toList, ∀ w, (f x).run P w = .ok (g x) w) (w : World) : (xs.mapM f).run P w = .ok (xs.map g) w := by
 rw [Array.mapM_eq_mapM_toList]
 simp only [Sem.run_map, run_mapM f g xs.toList h w, Result.andThen_ok]
 congr 1
 apply Array.ext'
 simp
theorem placesOf_spec : ∀ (fs : List Field) (l : List (Nat × Nat)), placesOf P fs = some l →
  l = fs.map (fun f => (f.offset, P.cellsOf f.type)) ∧ ∀ f ∈ fs, ∀ w, (sizeOf f.type).run P w = .ok (P.cellsOf f.type) w
 | [], l, h => by cases h; exact ⟨rfl, fun f hf => by cases hf⟩
 | f :: fs, l, h => by
  simp only [placesOf] at h
  split at h
  ·
   rename_i i r hi hr
   cases h
   obtain ⟨e1, e2⟩ := placesOf_spec fs r hr
   have hc : P.cellsOf f.type = i.size := by simp [Program.cellsOf, hi]
   refine ⟨by simp [hc, ← e1], fun g hg w => ?_⟩
   rcases List.mem_cons.1 hg with rfl | hg
   ·
    simp [sizeOf, typeInfo, hi, hc]
   ·
    exact e2 g hg w
  ·
   cases h
theorem ys_build (h : Rel w0 n M e st a w) (t : TypeId) (ps : Array (Nat × Operand)) (hob : (evOp P e true st (.build t ps)).1) :
  Yields' P w0 M (evOp P e true st (.build t ps)).2.2 (evOp P e true st (.build t ps)).2.1 w (do pure (.value (← Instr.build t (ps.map fun (i, x) => (i, a.eval x))))) := by
 unfold evOp at hob ⊢
 cases hz : zeroT P t with
 | none => simp [hz] at hob
 | some z =>
  simp only [hz] at hob ⊢
  obtain ⟨hpl, hps, hf⟩ := hob
  obtain ⟨i, v, hi, hv, hc, hs, rfl⟩ := zeroT_spec hz
  have hR0 : R w0 M w v (ofVal v) := R_ofVal hc
  have hrow : RowR w0 M w v.cells (ofVal v).cells := hR0.cells
  have hone := hR0.cellsOne (fun vs e => by have := notTup_ofVal hc; rw [e] at this; cases this)
  have harg : ∀ (k : Nat) (p : Nat × Value) (q : Nat × AV), ((ps.map fun (i, x) => (i, a.eval x)).toList)[k]? = some p → (ps.toList.map fun p => (p.1, argV e p.2))[k]? = some q → p.1 = q.1 ∧ R w0 M w p.2 q.2 ∧ notTup q.2 = true := by
   intro k p q hp hq
   simp only [Array.toList_map, List.getElem?_map, Option.map_eq_some_iff] at hp hq
   obtain ⟨p0, h1, rfl⟩ := hp
   obtain ⟨q0, h2, rfl⟩ := hq
   rw [h1] at h2
   cases h2
   have hm : p0 ∈ ps.toList := List.mem_of_getElem? h1
   exact ⟨rfl, arg_R h (hps p0 hm).1, (hps p0 hm).2⟩
  have hlen : ((ps.map fun (i, x) => (i, a.eval x)).toList).length = (ps.toList.map fun p => (p.1, argV e p.2)).length := by simp
  cases hpp : placesT P t with
  | some l =>
   unfold placesT at hpp
   split at hpp
   ·
    rename_i fs hu
    obtain ⟨e1, e2⟩ := placesOf_spec _ _ hpp
    have hpl' : ∀ i o s, placeT P t i = some (o, s) → ((fs.map fun f => (f.offset, P.cellsOf f.type))[·]?) i = some (o, s) := by
     intro i o s hp
     simp only [placeT, placesT, hu, hpp] at hp
     rw [e1] at hp
     simpa using hp
    obtain ⟨cs', f1, f2, f3⟩ := ys_fill t _ hpl' _ _ v.cells _ hlen harg hrow hone hf
    refine .here h.st (v := .agg cs') ?_ (.agg f2.1 f3 f2.2)
    have hm := run_amapM (P := P) (fun (f : Field) => (do pure (f.offset, ← sizeOf f.type) : Sem (Nat × Nat))) (fun f => (f.offset, P.cellsOf f.type)) fs (fun f hf w => by simp [e2 f hf]) w
    simp only [Instr.build, zeroValue, typeInfo, Sem.run_bind, run_program, Result.andThen_ok, hi, hv, Sem.run_pure, run_underlying hu, hm, f1]
   ·
    cases hpp
  | none =>
   cases ha : arrT P t with
   | none => simp [hpp, ha] at hpl
   | some p =>
    obtain ⟨m, s, ag⟩ := p
    obtain ⟨el, hu, hty⟩ := arrT_spec ha
    have hpl' : ∀ i o s', placeT P t i = some (o, s') → (fun i => some (i * s, s)) i = some (o, s') := by
     intro i o s' hp
     simpa [placeT, hpp, ha] using hp
    obtain ⟨cs', f1, f2, f3⟩ := ys_fill t _ hpl' _ _ v.cells _ hlen harg hrow hone hf
    refine .here h.st (v := .agg cs') ?_ (.agg f2.1 f3 f2.2)
    simp only [Instr.build, zeroValue, typeInfo, Sem.run_bind, run_program, Result.andThen_ok, hi, hv, Sem.run_pure, run_underlying hu, run_sizeOf' hty, f1]
theorem fill_seq (sz : Nat) : ∀ (vals : List Value) (k : Nat) (cs : Array Value), (∀ v ∈ vals, v.cells.size = sz) → (k + vals.length) * sz ≤ cs.size →
  ∃ cs', Instr.fill (fun i => some (i * sz, sz)) cs ((vals.zipIdx k).map fun x => (x.2, x.1)) = some cs' ∧ cs'.size = cs.size ∧ (∀ j, j < k * sz → cs'[j]? = cs[j]?) ∧
   ∀ i v, vals[i]? = some v → ∀ j, j < sz → cs'[(k + i) * sz + j]? = v.cells[j]?
 | [], k, cs, _, _ => ⟨cs, rfl, rfl, fun _ _ => rfl, fun i v h => by simp at h⟩
 | v :: vals, k, cs, hv, hl => by
  have h0 := hv v (by simp)
  simp only [List.length_cons] at hl
  have hl' : (k + 1) * sz ≤ cs.size := Nat.le_trans (Nat.mul_le_mul_right _ (by omega)) hl
  rw [Nat.succ_mul] at hl'
  simp only [List.zipIdx_cons, List.map_cons, Instr.fill]
  have e1 : (decide (v.cells.size ≠ sz) || decide (k * sz + v.cells.size > cs.size)) = false := by simp; omega
  simp only [e1, Bool.false_eq_true, if_false]
  have efold : (v.cells.zipIdx.foldl (fun cs (c, j) => cs.setIfInBounds (k * sz + j) c) cs) = (v.cells.toList.zipIdx 0).foldl (fun cs (x : Value × Nat) => cs.setIfInBounds (k * sz + x.2) x.1) cs := by
   rw [← Array.foldl_toList]
   simp
  have hfl := foldl_set v.cells.toList 0 cs (k * sz) (by simp; omega)
  rw [efold]
  simp only [Nat.add_zero, Array.length_toList, h0] at hfl
  obtain ⟨cs', a1, a2, a3, a4⟩ := fill_seq sz vals (k + 1) ((v.cells.toList.zipIdx 0).foldl (fun cs (x : Value × Nat) => cs.setIfInBounds (k * sz + x.2) x.1) cs) (fun u hu => hv u (by simp [hu])) (by rw [hfl.1]; rw [show k + 1 + vals.length = k + (vals.length + 1) from by omega]; exact hl)
  refine ⟨cs', a1, by rw [a2, hfl.1], fun j hj => ?_, fun i u hu j hj => ?_⟩
  ·
   rw [a3 j (by rw [Nat.succ_mul]; omega), hfl.2 j, if_neg (by omega)]
  ·
   cases i with
   | zero =>
    simp only [List.getElem?_cons_zero, Option.some.injEq] at hu
    subst hu
    simp only [Nat.add_zero]
    rw [a3 _ (by rw [Nat.succ_mul]; omega), hfl.2, if_pos (by omega), Array.getElem?_toList]
    congr 1
    omega
   | succ i =>
    have := a4 i u (by simpa using hu) j hj
    rw [← this, show k + (i + 1) = k + 1 + i from by omega]
theorem parts_zip {ps : List (Nat × Operand)} {m : Nat} (h : ps.map (·.1) = List.range m) (f : Operand → Value) :
  (ps.map fun p => (p.1, f p.2)) = ((ps.map fun p => f p.2).zipIdx 0).map fun x => (x.2, x.1) := by
 have hl : ps.length = m := by simpa using congrArg List.length h
 apply List.ext_getElem?
 intro i
 simp only [List.getElem?_map, List.getElem?_zipIdx]
 cases hp : ps[i]? with
 | none => simp
 | some p =>
  have hi : i < m := by rw [← hl]; exact (List.getElem?_eq_some_iff.1 hp).1
  have := congrArg (·[i]?) h
  simp [hp, hi] at this
  simp [this]
theorem R.row {cs : Array Value} {ty : TypeId} {xs : List AV} {sz k : Nat} (us : Nat → Value) (hu : ∀ i (hi : i < xs.length), (us i).cells.size = sz ∧ R w0 M w (us i) xs[i])
  (hc : ∀ i, i < xs.length → ∀ j, j < sz → cs[i * sz + j]? = (us i).cells[j]?) {cap : Nat} (hcap : xs.length ≤ cap) (hm : cap ≤ maxLen) {o : Own} (hk : xs.length * sz ≤ k) (M' : Mem) (hM : M'.top w.heap.size = k)
  (hx : Ext w0 M w M' (w.alloc (.cells cs ty))) (ho : ownOk M' w.heap.size 0 cap xs.length sz o) :
  R w0 M' (w.alloc (.cells cs ty)) (.slice (some ⟨w.heap.size, 0, none⟩) xs.length cap) (.list xs o) := by
 refine .list sz us hcap hm (fun i hi => ⟨(hu i hi).1, fun j hj => ⟨.inr ?_, ?_⟩⟩) (fun i hi => ((hu i hi).2).mono hx) ho
 ·
  rw [hM]
  have : (i + 1) * sz ≤ xs.length * sz := Nat.mul_le_mul_right _ hi
  rw [Nat.succ_mul] at this
  omega
 ·
  rw [Nat.zero_add, World.cell?_alloc_new]
  exact hc i hi j hj
theorem ys_buildSlice (h : Rel w0 n M e st a w) (t : TypeId) (m : Nat) (ps : Array (Nat × Operand)) (hmk : hasMark e t = false) (hob : (evOp P e true st (.buildSlice t m ps)).1) :
  Yields' P w0 M (evOp P e true st (.buildSlice t m ps)).2.2 (evOp P e true st (.buildSlice t m ps)).2.1 w (do pure (.value (← Instr.buildSlice t m (ps.map fun (i, x) => (i, a.eval x))))) := by
 unfold evOp at hob ⊢
 cases he : elT P t with
 | none => simp [he] at hob
 | some p =>
  obtain ⟨el, sz, ag, by8⟩ := p
  simp only [he, hmk] at hob ⊢
  obtain ⟨hps, hr, hbig, hpos, hz, hcs⟩ := hob
  obtain ⟨i, hu, hi, _, hty⟩ := elT_spec he
  obtain ⟨z, hz'⟩ := Option.isSome_iff_exists.1 hz
  obtain ⟨i', v, hi', hv, hc, hs, rfl⟩ := zeroT_spec hz'
  have hl : ps.toList.length = m := by simpa using congrArg List.length hr
  have hcell : ∀ p ∈ ps.toList, (a.eval p.2).cells.size = sz := fun p hp => by
   rw [(arg_R h (hps p hp)).cells.1]
   exact hcs _ (List.mem_map.2 ⟨p, hp, rfl⟩)
  obtain ⟨zc, hzc⟩ : ∃ zc : Array Value, if m * sz = 0 then zc = #[] else zc = v.cells := by
   by_cases h0 : m * sz = 0
   ·
    exact ⟨#[], by rw [if_pos h0]⟩
   ·
    exact ⟨v.cells, by rw [if_neg h0]⟩
  obtain ⟨cs', a1, a2, a3, a4⟩ := fill_seq sz (ps.toList.map fun p => a.eval p.2) 0 ((Array.range (m * sz)).map (zc[· % zc.size]!)) (fun u hu => by obtain ⟨p, hp, rfl⟩ := List.mem_map.1 hu; exact hcell p hp) (by simp [hl])
  obtain ⟨hst', hx⟩ := h.st.newTop cs' el (m * sz)
  have hlen : ((ps.toList.map fun p => argV e p.2).map AV.pub).length = m := by simp [← hl]
  have hrow := R.row (us := fun i => ((ps.toList.map fun p => a.eval p.2).getD i undef)) (xs := (ps.toList.map fun p => argV e p.2).map AV.pub) (cs := cs') (ty := el) (sz := sz) (k := m * sz) (cap := m) (o := .full) ?hu ?hc (by rw [hlen]; exact Nat.le_refl _) ?hm (by rw [hlen]; exact Nat.le_refl _) (M.newTop w.heap.size (m * sz)) (by simp [Mem.newTop]) hx hlen
  case hu =>
   intro k hk
   have hk' : k < ps.toList.length := by simpa using hk
   have e1 : (ps.toList.map fun p => a.eval p.2).getD k undef = a.eval (ps.toList[k]).2 := by simp [List.getD, List.getElem?_eq_getElem hk']
   rw [e1]
   refine ⟨hcell _ (List.getElem_mem _), ?_⟩
   simp only [List.getElem_map]
   exact (arg_R h (hps _ (List.getElem_mem _))).pub
  case hc =>
   intro k hk j hj
   have hk' : k < ps.toList.length := by simpa using hk
   have := a4 k (a.eval (ps.toList[k]).2) (by simp [List.getElem?_eq_getElem hk']) j hj
   rw [Nat.zero_add] at this
   rw [this]
   simp [List.getD, List.getElem?_eq_getElem hk']
  case hm =>
   have : m * 1 ≤ m * sz := Nat.mul_le_mul_left _ hpos
   simp [maxLen]
   omega
  rw [hlen] at hrow
  refine .value ⟨_, _, _, ?_, hx, hst', hrow⟩
  have e0 : ¬ (m * sz > 2 ^ 24) := by omega
  have efl : (ps.map fun (i, x) => (i, a.eval x)).toList = ((ps.toList.map fun p => a.eval p.2).zipIdx 0).map fun x => (x.2, x.1) := by
   rw [Array.toList_map]
   exact parts_zip hr a.eval
  by_cases h0 : m * sz = 0
  ·
   rw [if_pos h0] at hzc
   subst hzc
   simp only [Instr.buildSlice, Sem.run_bind, run_underlying hu, Result.andThen_ok, run_sizeOf' hty, if_neg e0, if_pos h0, Sem.run_pure, efl, a1, newRow, run_newObj]
   rfl
  ·
   rw [if_neg h0] at hzc
   subst hzc
   simp only [Instr.buildSlice, Sem.run_bind, run_underlying hu, Result.andThen_ok, run_sizeOf' hty, if_neg e0, if_neg h0, Sem.run_pure, zeroValue, typeInfo, run_program, hi', hv, efl, a1, newRow, run_newObj]
   rfl
theorem Below.setRow {B : Nat} {x y : World} (h : Below B x y) {g : Nat} (hg : B ≤ g) (cs : Array Value) : Below B x (y.setRow g cs) :=
 h.trans ⟨rfl, rfl, rfl, by simp, fun k hk => setRow_other y g k cs (by omega)⟩
theorem KeepsObj.setRow {g : Nat} {c : Array Value} {ty : TypeId} (hg : w.heap[g]? = some (.cells c ty (0, 0))) (c' : Array Value) : KeepsObj w (w.setRow g c') := by
 intro b o h1 h2
 by_cases q : b = g
 ·
  subst q; rw [hg] at h1; cases h1; cases h2
 ·
  rw [setRow_other w g b c' q]; exact h1
theorem ext_setRow (M' : Mem) (hN : M'.N = M.N) (hb : ∀ l, l < M.N → M'.bx l = M.bx l) (hNR : M'.NR = M.NR)
  (hr : ∀ id, id < M.NR → M.fr id ≤ M'.fr id ∧ (M'.fr id = M.fr id → M'.blk id = M.blk id ∧ M'.cap id = M.cap id ∧ M'.rsz id = M.rsz id)) (ht : ∀ b, M.top b ≤ M'.top b)
  {g : Nat} {c c' : Array Value} {ty : TypeId} (hg : w.heap[g]? = some (.cells c ty (0, 0))) (hg0 : w0.heap.size ≤ g) (hkeep : ∀ j, j < M.top g → c'[j]? = c[j]?) (hown : ¬ M.foreign g) (hfo : ∀ b, M.foreign b → M'.foreign b ∧ M'.top b = M.top b) (hNL : M'.NL = M.NL := by rfl) (hlb : M'.lb = M.lb := by rfl) :
  Ext w0 M w M' (w.setRow g c') :=
 ⟨by omega, hb, by omega, hr, fun b off v hi hc => by
  refine ⟨?_, hi.imp id (fun q => Nat.lt_of_lt_of_le q (ht b))⟩
  by_cases hbg : b = g
  ·
   subst hbg
   have h0 : off < M.top b := hi.resolve_left (by omega)
   rw [cell_of_row w b off c ty _ hg] at hc
   rw [cell_of_row _ b off c' ty _ (setRow_heap w b c c' ty _ hg), hkeep off h0]
   exact hc
  ·
   rw [cell_setRow_other w g c' ⟨b, off, none⟩ hbg]
   exact hc, by simp, by omega, fun _ _ => by rw [hlb], fun _ _ _ => by omega, fun b o h1 h2 _ => KeepsObj.setRow hg c' b o h1 h2, fun b h1 h2 => ⟨setRow_other w g b c' (fun e => hown (e ▸ h2)), hfo b h2⟩⟩
theorem ys_store (h : Rel w0 n M e st a w) (t : TypeId) (x v : Operand) (hob : (evOp P e true st (.store t x v)).1) :
  Yields' P w0 M (evOp P e true st (.store t x v)).2.2 (evOp P e true st (.store t x v)).2.1 w (do Instr.storeAt t (a.eval x) (a.eval v); pure .skip) := by
 unfold evOp at hob ⊢
 cases ht : tyT P t with
 | none => simp [ht] at hob
 | some p =>
  obtain ⟨sz, ag⟩ := p
  simp only [ht] at hob ⊢
  obtain ⟨_, hx, hv, hbx, hr, hn, hl, hle⟩ := hob
  have hRx := arg_R h hx
  have hRv := arg_R h hv
  generalize argV e x = X at hRx hbx hr hle ⊢
  generalize a.eval x = vx at hRx ⊢
  cases X with
  | box l off =>
   cases hRx with
   | box hlN =>
    have hlt : l < st.boxes.length := by simpa [isRef] using hr
    obtain ⟨cs, hcs⟩ : ∃ cs, st.boxes[l]? = some cs := ⟨_, List.getElem?_eq_getElem hlt⟩
    have ecs : st.boxes.getD l [] = cs := by simp [List.getD, hcs]
    obtain ⟨b1, b2, c, ty, b3, b4, b5, b6⟩ := h.st.box l cs hcs
    simp only [cellsAt, offAt, ecs] at hle
    simp only [storeB, ecs]
    obtain ⟨v1, v2⟩ := hRv.cells
    have v3 := hRv.cellsOne (fun vs e => by rw [e] at hn; cases hn)
    have hone : ∀ u ∈ (a.eval v).cells.toList, u.oneCell' = true := by
     intro u hu
     obtain ⟨k, hk, rfl⟩ := List.getElem_of_mem hu
     simp only [Array.length_toList] at hk
     rw [Array.getElem_toList]
     exact (v2 k hk (by omega)).oneCell (v3 _ (List.getElem_mem _))
    have hst := run_storeCells_at P (M.bx l) off ty (a.eval v).cells.toList 0 c w b3 (by simp; omega) hone
    simp only [Nat.add_zero] at hst
    generalize hc' : (c.toList.take off ++ (a.eval v).cells.toList ++ c.toList.drop (off + (a.eval v).cells.toList.length)).toArray = c' at hst
    have hsz' : c'.size = c.size := by rw [← hc']; simp; omega
    have hget : ∀ j, c'[j]? = if off ≤ j ∧ j < off + (a.eval v).cells.toList.length then (a.eval v).cells.toList[j - off]? else c[j]? := by
     intro j
     rw [← hc', List.getElem?_toArray, List.append_assoc, List.getElem?_append]
     simp only [List.length_take, Array.length_toList]
     have e : min off c.size = off := by omega
     rw [e]
     by_cases c1 : j < off
     ·
      rw [if_pos c1, if_neg (by omega), List.getElem?_take, if_pos c1, Array.getElem?_toList]
     ·
      rw [if_neg c1, List.getElem?_append]
      simp only [Array.length_toList]
      by_cases c2 : j - off < (a.eval v).cells.size
      ·
       rw [if_pos c2, if_pos (by omega)]
      ·
       rw [if_neg c2, if_neg (by omega), List.getElem?_drop, Array.getElem?_toList]
       congr 1
       omega
    have hx : Ext w0 M w M (w.setRow (M.bx l) c') := ext_setRow M rfl (fun _ _ => rfl) rfl (fun _ _ => ⟨Nat.le_refl _, fun _ => ⟨rfl, rfl, rfl⟩⟩) (fun _ => Nat.le_refl _) b3 b1 (fun j hj => by rw [b2] at hj; omega) (fun q => q.1 l (by assumption) rfl) (fun _ q => ⟨q, rfl⟩)
    have hrow : RowR w0 M w c' (splice cs off (argV e v).cells) := RowR.put ⟨b4, b6⟩ hRv (by omega) hsz' hget
    refine ⟨undef, _, M, .inr ⟨?_, rfl⟩, hx, ⟨Below.setRow h.st.below b1 _, by simp [h.st.N], h.st.NR, fun b hb => h.st.top b (by simpa using hb), h.st.inj, fun l' cs' hl' => ?_, fun id x hid => (h.st.row id x hid).keep hx rfl rfl rfl rfl rfl (h.st.row id x hid).ne (setRow_other w _ _ _ (Ne.symm ((h.st.row id x hid).ne l hlN))), h.st.rowinj, h.st.loop.mono hx rfl (KeepsObj.setRow b3 _)⟩, R_undef⟩
    ·
     have e0 : ¬ ((a.eval v).cells.size ≠ sz) := by omega
     simp only [Instr.storeAt, Instr.sureAddr, Sem.run_bind, Sem.run_pure, Result.andThen_ok, storeVar, run_sizeOf' ht, if_neg e0, hst]
    ·
     by_cases ell : l' = l
     ·
      subst ell
      rw [List.getElem?_set_self hlt] at hl'
      cases hl'
      exact ⟨b1, b2, c', ty, setRow_heap w _ c c' ty _ b3, hrow.1, splice_one b5 v3, fun i h1 h2 => (hrow.2 i h1 h2).mono hx⟩
     ·
      rw [List.getElem?_set_ne (Ne.symm ell)] at hl'
      obtain ⟨d1, d2, d, ty', d3, d4, d5, d6⟩ := h.st.box l' cs' hl'
      have hl'N : l' < M.N := by rw [h.st.N]; exact (List.getElem?_eq_some_iff.1 hl').1
      have hne : M.bx l' ≠ M.bx l := fun q => ell (h.st.inj l' l hl'N hlN q)
      exact ⟨d1, d2, d, ty', by rw [setRow_other w _ _ _ hne]; exact d3, d4, d5, fun i h1 h2 => (d6 i h1 h2).mono hx⟩
  | vel id ver off =>
   cases hRx with
   | @vel _ _ _ ad hid hver hh =>
    obtain ⟨sz', cs, hvr⟩ := vecR_some (show (vecR st.rows id ver).isSome = true from hr)
    have hrow := vecR_spec hvr
    obtain ⟨f1, f2, b1, b2, f5, f6, f7, c, ty, b3, b4, f10, b5, b6⟩ := h.st.row id _ hrow
    have had := hh f1.symm
    subst had
    simp only [cellsAt, offAt, hvr] at hle
    simp only [storeB, hvr]
    obtain ⟨v1, v2⟩ := hRv.cells
    have v3 := hRv.cellsOne (fun vs e => by rw [e] at hn; cases hn)
    have hone : ∀ u ∈ (a.eval v).cells.toList, u.oneCell' = true := by
     intro u hu
     obtain ⟨k, hk, rfl⟩ := List.getElem_of_mem hu
     simp only [Array.length_toList] at hk
     rw [Array.getElem_toList]
     exact (v2 k hk (by omega)).oneCell (v3 _ (List.getElem_mem _))
    have hst := run_storeCells_at P (M.blk id) off ty (a.eval v).cells.toList 0 c w b3 (by simp; omega) hone
    simp only [Nat.add_zero] at hst
    generalize hc' : (c.toList.take off ++ (a.eval v).cells.toList ++ c.toList.drop (off + (a.eval v).cells.toList.length)).toArray = c' at hst
    have hsz' : c'.size = c.size := by rw [← hc']; simp; omega
    have hget : ∀ j, c'[j]? = if off ≤ j ∧ j < off + (a.eval v).cells.toList.length then (a.eval v).cells.toList[j - off]? else c[j]? := by
     intro j
     rw [← hc', List.getElem?_toArray, List.append_assoc, List.getElem?_append]
     simp only [List.length_take, Array.length_toList]
     have e : min off c.size = off := by omega
     rw [e]
     by_cases c1 : j < off
     ·
      rw [if_pos c1, if_neg (by omega), List.getElem?_take, if_pos c1, Array.getElem?_toList]
     ·
      rw [if_neg c1, List.getElem?_append]
      simp only [Array.length_toList]
      by_cases c2 : j - off < (a.eval v).cells.size
      ·
       rw [if_pos c2, if_pos (by omega)]
      ·
       rw [if_neg c2, if_neg (by omega), List.getElem?_drop, Array.getElem?_toList]
       congr 1
       omega
    have hx : Ext w0 M w M (w.setRow (M.blk id) c') := ext_setRow M rfl (fun _ _ => rfl) rfl (fun _ _ => ⟨Nat.le_refl _, fun _ => ⟨rfl, rfl, rfl⟩⟩) (fun _ => Nat.le_refl _) b3 b1 (fun j hj => by rw [b2] at hj; omega) (fun q => q.2.1 id (by assumption) rfl) (fun _ q => ⟨q, rfl⟩)
    have hidl : id < st.rows.length := (List.getElem?_eq_some_iff.1 hrow).1
    have hsl := splice_length (l := cs) (xs := (argV e v).cells) (off := off) (by omega)
    refine ⟨undef, _, M, .inr ⟨?_, rfl⟩, hx, ⟨Below.setRow h.st.below b1 _, h.st.N, by simp [h.st.NR], fun b hb => h.st.top b (by simpa using hb), h.st.inj, fun l' cs' hl' => ?_, fun id' x hid' => ?_, h.st.rowinj, h.st.loop.mono hx rfl (KeepsObj.setRow b3 _)⟩, R_undef⟩
    ·
     have e0 : ¬ ((a.eval v).cells.size ≠ sz) := by omega
     simp only [Instr.storeAt, Instr.sureAddr, Sem.run_bind, Sem.run_pure, Result.andThen_ok, storeVar, run_sizeOf' ht, if_neg e0, hst]
    ·
     obtain ⟨d1, d2, d, ty', d3, d4, d5, d6⟩ := h.st.box l' cs' hl'
     have hl'N : l' < M.N := by rw [h.st.N]; exact (List.getElem?_eq_some_iff.1 hl').1
     exact ⟨d1, d2, d, ty', by rw [setRow_other w _ _ _ (f5 l' hl'N)]; exact d3, d4, d5, fun i h1 h2 => (d6 i h1 h2).mono hx⟩
    ·
     by_cases ell : id' = id
     ·
      subst ell
      rw [List.getElem?_set_self hidl] at hid'
      cases hid'
      refine ⟨f1, f2, b1, b2, f5, f6, f7, c', ty, setRow_heap w _ c c' ty _ b3, hsz'.trans b4, by omega, splice_one b5 v3, fun i h1 h2 => ?_⟩
      have hput : RowR w0 M w (c'.extract 0 cs.length) (splice cs off (argV e v).cells) := by
       have hex : RowR w0 M w (c.extract 0 cs.length) cs := ⟨by simp; omega, fun i h1 h2 => by rw [Array.getElem_extract]; simp only [Nat.zero_add]; exact b6 i (by omega) h2⟩
       refine RowR.put hex hRv (by omega) (by simp; omega) (fun j => ?_)
       simp only [Array.getElem?_extract, Nat.zero_add, hget]
       by_cases q1 : j < min cs.length c'.size
       ·
        rw [if_pos (by omega)]
        by_cases q2 : off ≤ j ∧ j < off + (a.eval v).cells.toList.length
        ·
         rw [if_pos q2, if_pos q2]
        ·
         rw [if_neg q2, if_neg q2, if_pos (by omega)]
       ·
        rw [if_neg (by omega), if_neg (by simp; omega), if_neg (by omega)]
      have h3 : i < (c'.extract 0 cs.length).size := by simp; omega
      have := (hput.2 i h3 h2).mono hx
      rw [Array.getElem_extract] at this
      simpa using this
     ·
      rw [List.getElem?_set_ne (Ne.symm ell)] at hid'
      have hk := h.st.row id' x hid'
      have hid'N : id' < M.NR := by rw [h.st.NR]; exact (List.getElem?_eq_some_iff.1 hid').1
      have hne : M.blk id' ≠ M.blk id := fun q => ell (h.st.rowinj id' id hid'N hid q)
      exact hk.keep hx rfl rfl rfl rfl rfl hk.ne (setRow_other w _ _ _ hne)
  | _ => cases hbx
end
section
variable {P : Program} {w0 : World} {n : Nat} {M : Mem} {e : Env} {st : St} {a : Act} {w : World}
def SameW (M : Mem) (w w' : World) : Prop := (∀ (b off : Nat) (v : Value), w.cell? ⟨b, off, none⟩ = some v → w'.cell? ⟨b, off, none⟩ = some v) ∧ ∀ (b : Nat) (es : Array MapEntry) (ck : Nat), w.heap[b]? = some (.map es ck) → (∀ k, k < M.NL → M.lb k ≠ b) → w'.heap[b]? = some (.map es ck)
theorem R.same {M : Mem} {w w' : World} (hs : SameW M w w') {v : Value} {x : AV} (h : R w0 M w v x) : R w0 M w' v x := by
 induction h with
 | flat h => exact .flat h
 | agg hl h1 _ ih => exact .agg hl h1 ih
 | tup hl _ ih => exact .tup hl ih
 | nil ho => exact .nil ho
 | emp ho => exact .emp ho
 | @list b off cap xs o sz us hc hm hcell _ ho ih =>
  refine .list sz us hc hm (fun i hi => ⟨(hcell i hi).1, fun j hj => ⟨((hcell i hi).2 j hj).1, ?_⟩⟩) ih ho
  obtain ⟨v, hv⟩ := cells_get (u := us i) (j := j) (by rw [(hcell i hi).1]; exact hj)
  exact (hs.1 _ _ _ ((((hcell i hi).2 j hj).2).trans hv)).trans hv.symm
 | @elem b off x u k hcell _ ih =>
  refine .elem u k (fun j hj => ⟨(hcell j hj).1, ?_⟩) ih
  obtain ⟨v, hv⟩ := cells_get (u := u) (j := j) hj
  exact (hs.1 _ _ _ ((hcell j hj).2.trans hv)).trans hv.symm
 | box hl => exact .box hl
 | clo hl _ ih => exact .clo hl ih
 | yld hk => exact .yld hk
 | mp hk => exact .mp hk
 | tab h hk hn => exact .tab (hs.2 _ _ _ h hn) hk hn
 | vec hi hv h => exact .vec hi hv h
 | vel hi hv h => exact .vel hi hv h
theorem cell_putObj {w : World} {D : Nat} {o o' : Obj} (hD : w.heap[D]? = some o) (ho : o.isCells = false) {b off : Nat} {v : Value} (h : w.cell? ⟨b, off, none⟩ = some v) : (w.putObj D o').cell? ⟨b, off, none⟩ = some v := by
 by_cases c : b = D
 ·
  subst c
  unfold World.cell? at h
  simp only [hD] at h
  cases o with
  | cells c ty fz => simp [Obj.isCells] at ho
  | _ => simp at h
 ·
  unfold World.cell? at h ⊢
  simp only [World.putObj_heap_other c] at h ⊢
  exact h
theorem entryOk.same {M : Mem} {w w' : World} (hs : SameW M w w') {v : Value} {x : Bool × AV} (h : entryOk w0 M w v x) : entryOk w0 M w' v x := by
 unfold entryOk at *
 split
 ·
  rename_i c; rw [if_pos c] at h; exact h.same hs
 ·
  rename_i c; rw [if_neg c] at h; exact h
theorem RowOk.same {M : Mem} {w w' : World} {id : Nat} {x : RowA} (h : RowOk w0 M w id x) (hs : SameW M w w')
  (hc : ∀ {b : Nat} {c : Array Value} {ty : TypeId}, w.heap[b]? = some (.cells c ty (0, 0)) → w'.heap[b]? = some (.cells c ty (0, 0))) (hz : w.heap.size ≤ w'.heap.size) : RowOk w0 M w' id x := by
 cases x with
 | grow n sz =>
  obtain ⟨a1, a2, a3, a4, a5, a6, a7, c, ty, a8, a9⟩ := h
  exact ⟨a1, a2, a3, a4, a5, a6, a7, c, ty, hc a8, a9⟩
 | vec v sz cs =>
  obtain ⟨a1, a2, a3, a4, a5, a6, a7, c, ty, a8, a9, b1, b2, b3⟩ := h
  exact ⟨a1, a2, a3, a4, a5, a6, a7, c, ty, hc a8, a9, b1, b2, fun i h1 h2 => (b3 i h1 h2).same hs⟩
 | dead v =>
  obtain ⟨a1, a2, a3, a4⟩ := h
  exact ⟨a1, a2, a3, Nat.lt_of_lt_of_le a4 hz⟩
theorem Below.putObj {B D : Nat} {x y : World} (h : Below B x y) (hD : B ≤ D) (o : Obj) : Below B x (y.putObj D o) :=
 h.trans ⟨rfl, rfl, rfl, by simp, fun k hk => World.putObj_heap_other (by omega)⟩
theorem RelSt.putObj {M : Mem} {w : World} (h : RelSt w0 M st w) {D : Nat} {d : Option (List Deferred)} (o' : Obj) (hD : w.heap[D]? = some (.deferred d)) (h0 : w0.heap.size ≤ D) (hl : ∀ k, k < M.NL → M.lb k ≠ D) : RelSt w0 M st (w.putObj D o') := by
 have hs : SameW M w (w.putObj D o') := ⟨fun b off v => cell_putObj hD rfl, fun b es ck hb _ => by rw [World.putObj_heap_other (fun e => by subst e; rw [hD] at hb; cases hb)]; exact hb⟩
 have hc : ∀ {b : Nat} {c : Array Value} {ty : TypeId}, w.heap[b]? = some (.cells c ty (0, 0)) → (w.putObj D o').heap[b]? = some (.cells c ty (0, 0)) := by
  intro b c ty hb
  rw [World.putObj_heap_other (fun e => by subst e; rw [hD] at hb; cases hb)]
  exact hb
 refine ⟨Below.putObj h.below h0 _, h.N, h.NR, fun b hb => h.top b (by simpa using hb), h.inj, fun l cs hl' => ?_, fun id x hk => (h.row id x hk).same hs hc (by simp), h.rowinj, ⟨h.loop.NL, h.loop.inj, fun k la hk => ?_⟩⟩
 ·
  obtain ⟨a1, a2, c, ty, a3, a4, a5, a6⟩ := h.box l cs hl'
  exact ⟨a1, a2, c, ty, hc a3, a4, a5, fun i b1 b2 => (a6 i b1 b2).same hs⟩
 ·
  have hk' : k < M.NL := by rw [h.loop.NL]; exact (List.getElem?_eq_some_iff.1 hk).1
  obtain ⟨a1, a2⟩ := h.loop.record k la hk
  exact ⟨a1, a2.map (fun o q _ => by rw [World.putObj_heap_other (hl k hk')]; exact q) fun s x v _ a9 => a9.same hs⟩
def Mem.newMap (M : Mem) (b : Nat) : Mem := { M with NL := M.NL + 1, lb := fun k => if k = M.NL then b else M.lb k }
theorem RelSt.newMap (h : RelSt w0 M st w) :
  RelSt w0 (M.newMap w.heap.size) { st with loops := st.loops ++ [mapA []] } (w.alloc (.map #[] 0)) ∧ Ext w0 M w (M.newMap w.heap.size) (w.alloc (.map #[] 0)) := by
 have hkeep : KeepsObj w (w.alloc (.map #[] 0)) := KeepsObj.alloc _ _
 have hcell : ∀ (b off : Nat) (v : Value), w.cell? ⟨b, off, none⟩ = some v → (w.alloc (.map #[] 0)).cell? ⟨b, off, none⟩ = some v := by
  intro b off v hv
  rw [World.cell?_alloc_lt _ _ _ (World.block_lt_of_cell? w _ hv)]
  exact hv
 have hlb : ∀ k, k < M.NL → (M.newMap w.heap.size).lb k = M.lb k := fun k hk => by simp [Mem.newMap]; omega
 have hnew : (M.newMap w.heap.size).lb M.NL = w.heap.size := by simp [Mem.newMap]
 have hx : Ext w0 M w (M.newMap w.heap.size) (w.alloc (.map #[] 0)) :=
  ⟨Nat.le_refl _, fun _ _ => rfl, Nat.le_refl _, fun _ _ => ⟨Nat.le_refl _, fun _ => ⟨rfl, rfl, rfl⟩⟩, fun b off v h1 h2 => ⟨hcell b off v h2, h1⟩, by simp, Nat.le_succ _, hlb, fun k h1 h2 => by
   have : k = M.NL := by simp only [Mem.newMap] at h2; omega
   rw [this, hnew]; exact Nat.le_refl _, fun b o h1 h2 _ => hkeep b o h1 h2, fun b q1 q => ⟨heap_alloc_lt _ _ q1, ⟨q.1, q.2.1, fun k hk => by
    by_cases c : k = M.NL
    ·
     subst c; rw [hnew]; omega
    ·
     have hk' : k < M.NL := by simp only [Mem.newMap] at hk; omega
     rw [hlb k hk']; exact q.2.2 k hk'⟩, rfl⟩⟩
 have hh : ∀ {b : Nat}, b < w.heap.size → (w.alloc (.map #[] 0)).heap[b]? = w.heap[b]? := fun {b} hb => heap_alloc_lt _ _ hb
 have hlt : ∀ j, j < M.NL → M.lb j < w.heap.size := fun j hj => (h.loop.record j _ (List.getElem?_eq_getElem (by rw [← h.loop.NL]; exact hj))).2.lt
 refine ⟨⟨h.below.alloc h.base_le _, h.N, h.NR, fun b hb => h.top b (by simp at hb; omega), h.inj, fun l cs hl => ?_, fun id x hm => (h.row id x hm).keep hx rfl rfl rfl rfl rfl (h.row id x hm).ne (hh (h.row id x hm).lt), h.rowinj,
  ⟨by simp [Mem.newMap, h.loop.NL], fun k k' hk hk' q => ?_, fun k la hk => ?_⟩⟩, hx⟩
 ·
  obtain ⟨a1, a2, c, ty, a3, a4, a5, a6⟩ := h.box l cs hl
  exact ⟨a1, a2, c, ty, by rw [show (M.newMap w.heap.size).bx l = M.bx l from rfl, hh (Array.getElem?_eq_some_iff.1 a3).1]; exact a3, a4, a5, fun i b1 b2 => (a6 i b1 b2).mono hx⟩
 ·
  simp only [Mem.newMap] at hk hk'
  by_cases c : k = M.NL
  ·
   by_cases c' : k' = M.NL
   ·
    omega
   ·
    subst c
    rw [hnew, hlb k' (by omega)] at q
    have := hlt k' (by omega)
    omega
  ·
   by_cases c' : k' = M.NL
   ·
    subst c'
    rw [hnew, hlb k (by omega)] at q
    have := hlt k (by omega)
    omega
   ·
    rw [hlb k (by omega), hlb k' (by omega)] at q
    exact h.loop.inj k k' (by omega) (by omega) q
 ·
  by_cases c : k = st.loops.length
  ·
   subst c
   simp only [List.getElem?_concat_length, Option.some.injEq] at hk
   subst hk
   rw [← h.loop.NL, hnew]
   exact ⟨h.base_le, rfl, #[], 0, World.alloc_heap_new w _, rfl, by simp, .nil⟩
  ·
   have hk' : k < st.loops.length := by
    have := (List.getElem?_eq_some_iff.1 hk).1
    simp at this; omega
   simp only at hk
   rw [List.getElem?_append_left hk'] at hk
   obtain ⟨a1, a2⟩ := h.loop.record k la hk
   rw [hlb k (by rw [h.loop.NL]; exact hk')]
   exact ⟨a1, a2.map (fun o q1 q2 => hkeep _ _ q1 q2) fun s x v _ a9 => a9.mono hx⟩
theorem RelSt.setMap (h : RelSt w0 M st w) {k : Nat} {la : LoopA} (hk : st.loops[k]? = some la) {ks' : List ByteArray} {es es' : Array MapEntry} {ck ck' : Nat} (hr : w.heap[M.lb k]? = some (.map es ck))
  (h1 : es'.toList.map (·.key) = ks'.map Value.string) (h2 : ∀ e ∈ es'.toList, e.val = .agg #[]) (h3 : ks'.Nodup) :
  RelSt w0 M { st with loops := st.loops.set k (mapA ks') } (w.putObj (M.lb k) (.map es' ck')) ∧ Ext w0 M w M (w.putObj (M.lb k) (.map es' ck')) := by
 have hkl : k < st.loops.length := (List.getElem?_eq_some_iff.1 hk).1
 have hkN : k < M.NL := by rw [h.loop.NL]; exact hkl
 have hlt : M.lb k < w.heap.size := (Array.getElem?_eq_some_iff.1 hr).1
 obtain ⟨g0, _⟩ := h.loop.record k la hk
 have hs : SameW M w (w.putObj (M.lb k) (.map es' ck')) := ⟨fun b off v => cell_putObj hr rfl, fun b es ck hb hn => by rw [World.putObj_heap_other (fun e => hn k hkN e.symm)]; exact hb⟩
 have hc : ∀ {b : Nat} {c : Array Value} {ty : TypeId}, w.heap[b]? = some (.cells c ty (0, 0)) → (w.putObj (M.lb k) (.map es' ck')).heap[b]? = some (.cells c ty (0, 0)) := by
  intro b c ty hb
  rw [World.putObj_heap_other (fun e => by subst e; rw [hr] at hb; cases hb)]
  exact hb
 refine ⟨⟨Below.putObj h.below g0 _, h.N, h.NR, fun b hb => h.top b (by simpa using hb), h.inj, fun l cs hl' => ?_, fun id x hm => (h.row id x hm).same hs hc (by simp), h.rowinj, ⟨by simp [h.loop.NL], h.loop.inj, fun j lj hj => ?_⟩⟩,
  ⟨Nat.le_refl _, fun _ _ => rfl, Nat.le_refl _, fun _ _ => ⟨Nat.le_refl _, fun _ => ⟨rfl, rfl, rfl⟩⟩, fun b off v h1 h2 => ⟨hs.1 b off v h2, h1⟩, by simp, Nat.le_refl _, fun _ _ => rfl, fun _ _ _ => by omega, fun b o h1 _ h3 => ?_, fun b _ q => ⟨World.putObj_heap_other (fun e => q.2.2 k hkN e.symm), q, rfl⟩⟩⟩
 ·
  obtain ⟨a1, a2, c, ty, a3, a4, a5, a6⟩ := h.box l cs hl'
  exact ⟨a1, a2, c, ty, hc a3, a4, a5, fun i b1 b2 => (a6 i b1 b2).same hs⟩
 ·
  by_cases q : j = k
  ·
   subst q
   simp only at hj
   rw [List.getElem?_set_self hkl] at hj
   cases hj
   exact ⟨g0, rfl, es', ck', World.putObj_heap_same hlt, h1, h2, h3⟩
  ·
   simp only at hj
   rw [List.getElem?_set_ne (Ne.symm q)] at hj
   have hjN : j < M.NL := by rw [h.loop.NL]; exact (List.getElem?_eq_some_iff.1 hj).1
   obtain ⟨a1, a2⟩ := h.loop.record j lj hj
   exact ⟨a1, a2.map (fun o z _ => by rw [World.putObj_heap_other (fun e => q (h.loop.inj j k hjN hkN e))]; exact z) fun s x v _ a9 => a9.same hs⟩
 ·
  rw [World.putObj_heap_other (fun e => h3 k hkN e.symm)]
  exact h1
theorem mp_inv {v : Value} {k : Nat} (h : R w0 M w v (.mp k)) : v = .map (some (M.lb k)) ∧ k < M.NL := by cases h; exact ⟨rfl, ‹_›⟩
theorem agg0_inv {v : Value} (h : R w0 M w v (.agg [])) : v = .agg #[] := by
 cases h with
 | agg hl _ _ => rw [Array.eq_empty_of_size_eq_zero hl]
theorem mapT_spec {t : TypeId} (h : mapT P t = true) : ∃ kt et, P.underlying t = some (.map kt et) ∧ P.underlying kt = some .string ∧ zeroT P et = some [] := by
 unfold mapT at h
 split at h
 ·
  rename_i kt et hu
  simp only [Bool.and_eq_true] at h
  obtain ⟨h1, h2⟩ := h
  refine ⟨kt, et, hu, ?_, ?_⟩
  ·
   unfold strT at h1
   split at h1
   ·
    assumption
   ·
    cases h1
  ·
   split at h2
   ·
    assumption
   ·
    cases h2
 ·
  cases h
theorem find_set {ks : List ByteArray} {es : Array MapEntry} (he : es.toList.map (·.key) = ks.map Value.string) (hv : ∀ e ∈ es.toList, e.val = .agg #[]) (s : ByteArray) :
  (Instr.findNow .string (.string s) es.toList 0 = some none ∧ (∀ x ∈ es.toList, x.key ≠ .string s) ∧ s ∉ ks) ∨ ∃ j e, Instr.findNow .string (.string s) es.toList 0 = some (some (j, .agg #[])) ∧ es[j]? = some e ∧ e.key = .string s ∧ s ∈ ks := by
 have hks : ∀ x ∈ es.toList, MapKept.IsKey .string x.key := fun x hx => by
  have : x.key ∈ ks.map Value.string := by rw [← he]; exact List.mem_map_of_mem hx
  obtain ⟨y, _, hy⟩ := List.mem_map.1 this
  rw [← hy]; trivial
 rcases MapKept.findNow_spec (d := .string) (k := .string s) trivial es.toList 0 hks with ⟨h1, h2⟩ | ⟨j, e, h1, h2, h3⟩
 ·
  refine .inl ⟨h1, h2, fun hm => ?_⟩
  have : Value.string s ∈ es.toList.map (·.key) := by rw [he]; exact List.mem_map_of_mem hm
  obtain ⟨x, hx, q⟩ := List.mem_map.1 this
  exact h2 x hx q
 ·
  have hem : e ∈ es.toList := List.mem_of_getElem? h2
  refine .inr ⟨j, e, by rw [h1, hv e hem, Nat.zero_add], by simpa using h2, h3, ?_⟩
  have : Value.string s ∈ ks.map Value.string := by rw [← he, ← h3]; exact List.mem_map_of_mem hem
  obtain ⟨y, hy, q⟩ := List.mem_map.1 this
  cases q
  exact hy
theorem memK_iff {ks : List ByteArray} {s : ByteArray} : memK ks s = true ↔ s ∈ ks := by
 unfold memK
 rw [List.any_eq_true]
 constructor
 ·
  rintro ⟨x, hx, q⟩
  have : x = s := by
   obtain ⟨⟨x⟩⟩ := x
   obtain ⟨⟨s⟩⟩ := s
   simp only [sEq, beq_iff_eq] at q
   rw [show x = s from q]
  exact this ▸ hx
 ·
  exact fun h => ⟨s, h, by simp [sEq]⟩
theorem ys_makeMap (h : Rel w0 n M e st a w) (t : TypeId) (r : Option Operand) (hob : (evOp P e true st (.makeMap t r)).1) :
  Yields' P w0 M (evOp P e true st (.makeMap t r)).2.2 (evOp P e true st (.makeMap t r)).2.1 w (do pure (.value (← Instr.makeMap t (r.map a.eval)))) := by
 obtain ⟨_, hr⟩ := hob
 obtain rfl : r = none := Option.isNone_iff_eq_none.1 hr
 obtain ⟨h1, h2⟩ := h.st.newMap
 refine ⟨.map (some w.heap.size), w.alloc (.map #[] 0), _, .inl rfl, h2, h1, ?_⟩
 have hN := h.st.loop.NL
 have e1 : (M.newMap w.heap.size).lb st.loops.length = w.heap.size := by simp [Mem.newMap, hN]
 have := R.mp (w0 := w0) (M := M.newMap w.heap.size) (w := w.alloc (.map #[] 0)) (k := st.loops.length) (by simp [Mem.newMap, hN])
 rw [e1] at this
 exact this
theorem tabT_spec {t : TypeId} (h : tabT P t = true) : ∃ kt et iz, P.underlying t = some (.map kt et) ∧ P.underlying kt = some (.int .i64) ∧ P.info? et = some iz ∧ iz.zero = some .nilFunc := by
 unfold tabT at h
 split at h
 ·
  rename_i kt et hu
  simp only [Bool.and_eq_true] at h
  obtain ⟨h1, h2⟩ := h
  split at h2
  ·
   rename_i iz hz
   refine ⟨kt, et, iz, hu, ?_, hz, ?_⟩
   ·
    split at h1
    ·
     assumption
    ·
     cases h1
   ·
    split at h2
    ·
     assumption
    ·
     cases h2
  ·
   cases h2
 ·
  cases h
theorem find_tab (i : Int) : ∀ (es : List MapEntry) (l : List (Int × FuncId)) (n : Nat), es.map (fun e => (e.key, e.val)) = l.map (fun x => (Value.int .i64 x.1, Value.func (.func x.2) #[] #[])) →
  (Instr.findNow (.int .i64) (.int .i64 i) es n = some none ∧ tabF l i = (.val .nilFunc, false)) ∨ ∃ j f, Instr.findNow (.int .i64) (.int .i64 i) es n = some (some (j, .func (.func f) #[] #[])) ∧ tabF l i = (.clo f [], true)
 | [], [], _, _ => .inl ⟨rfl, rfl⟩
 | [], _ :: _, _, h => by cases h
 | _ :: _, [], _, h => by cases h
 | e :: es, (k, f) :: l, n, h => by
  simp only [List.map_cons, List.cons.injEq, Prod.mk.injEq] at h
  obtain ⟨⟨h1, h2⟩, h3⟩ := h
  have hkey : MapKept.IsKey (.int .i64) e.key := by rw [h1]; rfl
  obtain ⟨r, hr, hiff⟩ := MapKept.sameNow_of_keys (d := .int .i64) (a := .int .i64 i) rfl hkey
  cases r with
  | true =>
   have q := hiff.1 rfl
   rw [h1] at q
   cases q
   exact .inr ⟨n, f, by simp [Instr.findNow, hr, h2], by simp [tabF]⟩
  | false =>
   have hne : k ≠ i := fun q => by have := hiff.2 (by rw [h1, q]); cases this
   have e1 : tabF ((k, f) :: l) i = tabF l i := by rw [tabF, if_neg hne]
   rw [e1]
   rcases find_tab i es l (n + 1) h3 with ⟨q1, q2⟩ | ⟨j, g, q1, q2⟩
   ·
    exact .inl ⟨by simp [Instr.findNow, hr, q1], q2⟩
   ·
    exact .inr ⟨j, g, by simp [Instr.findNow, hr, q1], q2⟩
theorem ys_lookupT (h : Rel w0 n M e st a w) (t : TypeId) (m k : Operand) {l : List (Int × FuncId)} {i : Int} (em : argV e m = .tab l) (ek : argV e k = .val (.int .i64 i)) (hmt : tabT P t = true) (hm : argOk e true m) (hk : argOk e true k) :
  Yields' P w0 M st (.tup [(tabF l i).1, .val (.bool (tabF l i).2)]) w (do pure (.value (← Instr.lookup t (a.eval m) (a.eval k) true))) := by
 obtain ⟨b, es, ck, vm, g1, g2⟩ : ∃ b es ck, a.eval m = .map (some b) ∧ w.heap[b]? = some (.map es ck) ∧ es.toList.map (fun e => (e.key, e.val)) = l.map (fun x => (Value.int .i64 x.1, Value.func (.func x.2) #[] #[])) := by
  have := em ▸ arg_R h hm
  generalize a.eval m = v at this ⊢
  cases this with
  | tab h1 h2 h3 => exact ⟨_, _, _, rfl, h1, h2⟩
 obtain ⟨vk, _⟩ := (ek ▸ arg_R h hk : R w0 M w (a.eval k) (.val (.int .i64 i))).val_inv
 obtain ⟨kt, et, iz, u1, u2, u3, u4⟩ := tabT_spec hmt
 rw [vm, vk]
 have hK : MapKept.IsKey (.int .i64) (.int .i64 i) := rfl
 have fin : ∀ (v : Value) (x : AV) (c : Bool), R w0 M w v x → R w0 M w (.tuple #[v, .bool c]) (.tup [x, .val (.bool c)]) := fun v x c hv => .tup rfl fun i h1 h2 => by
  match i, h1, h2 with
  | 0, _, _ => exact hv
  | 1, _, _ => exact .flat rfl
 rcases find_tab i es.toList l 0 g2 with ⟨f1, f2⟩ | ⟨j, f, f1, f2⟩
 ·
  rw [f2]
  refine ⟨_, w, M, .inl ?_, Ext.refl _ _ _, h.st, fin .nilFunc _ false (.flat rfl)⟩
  simp [Instr.lookup, run_underlying u1, MapKept.run_getObj_map g1, MapKept.run_checkKey u2 hK, MapKept.run_findKey u2 f1, zeroValue, typeInfo, u3, u4, Result.andThen]
 ·
  rw [f2]
  refine ⟨_, w, M, .inl ?_, Ext.refl _ _ _, h.st, fin _ _ true (.clo (f := f) (cs := #[]) (xs := []) rfl (fun i h1 => absurd h1 (by simp)))⟩
  simp [Instr.lookup, run_underlying u1, MapKept.run_getObj_map g1, MapKept.run_checkKey u2 hK, MapKept.run_findKey u2 f1, Result.andThen]
theorem ys_lookup (h : Rel w0 n M e st a w) (t : TypeId) (m k : Operand) (ok : Bool) (hob : (evOp P e true st (.lookup t m k ok)).1) :
  Yields' P w0 M (evOp P e true st (.lookup t m k ok)).2.2 (evOp P e true st (.lookup t m k ok)).2.1 w (do pure (.value (← Instr.lookup t (a.eval m) (a.eval k) ok))) := by
 simp only [evOp] at hob ⊢
 split at hob
 ·
  rename_i l i em ek
  obtain ⟨hmt, hm, hk, rfl⟩ := hob
  exact ys_lookupT h t m k em ek hmt hm hk
 rotate_left
 ·
  exact hob.elim
 rename_i i s em ek
 cases hks : keysAt st i with
 | none => simp only [hks] at hob
 | some ks =>
  simp only [hks] at hob ⊢
  obtain ⟨hmt, hm, hk, rfl⟩ := hob
  obtain ⟨vm, _⟩ := mp_inv (em ▸ arg_R h hm)
  obtain ⟨vk, _⟩ := (ek ▸ arg_R h hk : R w0 M w (a.eval k) (.val (.string s))).val_inv
  obtain ⟨la, hla, hlk⟩ := keysAt_spec hks
  obtain ⟨g0, gL⟩ := h.st.loop.record i la hla
  unfold LoopOk at gL
  rw [hlk] at gL
  obtain ⟨_, es, ck, g1, g2, g3, g4⟩ := gL
  obtain ⟨kt, et, u1, u2, u3⟩ := mapT_spec hmt
  rw [vm, vk]
  have hag : ∀ w' : World, R w0 M w' (.agg #[]) (.agg []) := fun w' => .agg rfl (by simp) (fun i h1 => absurd h1 (by simp))
  have fin : ∀ (b : Bool), R w0 M w (.tuple #[.agg #[], .bool b]) (.tup [.agg [], .val (.bool b)]) := fun b => .tup rfl fun i h1 h2 => by
   match i, h1, h2 with
   | 0, _, _ => exact hag w
   | 1, _, _ => exact .flat rfl
  rcases find_set g2 g3 s with ⟨f1, _, f3⟩ | ⟨j, e', f1, _, _, f4⟩
  ·
   obtain ⟨iz, v, z1, z2, z3, z4, z5⟩ := zeroT_spec u3
   have hv : v = .agg #[] := by
    have z6 : v.cells.size = 0 := by
     have := (R_ofVal (w0 := w0) (M := M) (w := w) z3).cells.1
     rw [← z5] at this; exact this
    cases v with
    | agg cs => rw [Array.eq_empty_of_size_eq_zero (show cs.size = 0 from z6)]
    | _ => cases z6
   have hb : memK ks s = false := Bool.eq_false_iff.2 fun q => f3 (memK_iff.1 q)
   rw [hb]
   refine ⟨_, w, M, .inl ?_, Ext.refl _ _ _, h.st, fin false⟩
   simp [Instr.lookup, run_underlying u1, MapKept.run_getObj_map g1, MapKept.run_checkKey u2 (show MapKept.IsKey .string (.string s) from trivial), MapKept.run_findKey u2 f1, zeroValue, typeInfo, z1, z2, hv, Result.andThen]
  ·
   have hb : memK ks s = true := memK_iff.2 f4
   rw [hb]
   refine ⟨_, w, M, .inl ?_, Ext.refl _ _ _, h.st, fin true⟩
   simp [Instr.lookup, run_underlying u1, MapKept.run_getObj_map g1, MapKept.run_checkKey u2 (show MapKept.IsKey .string (.string s) from trivial), MapKept.run_findKey u2 f1, Result.andThen]
theorem ys_mapUpdate (h : Rel w0 n M e st a w) (t : TypeId) (m k v : Operand) (hob : (evOp P e true st (.mapUpdate t m k v)).1) :
  Yields' P w0 M (evOp P e true st (.mapUpdate t m k v)).2.2 (evOp P e true st (.mapUpdate t m k v)).2.1 w (do Instr.mapUpdate t (a.eval m) (a.eval k) (a.eval v); pure .skip) := by
 simp only [evOp] at hob ⊢
 split at hob
 rotate_left
 ·
  exact hob.elim
 rename_i i s em ek ev
 cases hks : keysAt st i with
 | none => simp only [hks] at hob
 | some ks =>
  simp only [hks] at hob ⊢
  obtain ⟨_, hmt, hm, hk, hv⟩ := hob
  obtain ⟨vm, _⟩ := mp_inv (em ▸ arg_R h hm)
  obtain ⟨vk, _⟩ := (ek ▸ arg_R h hk : R w0 M w (a.eval k) (.val (.string s))).val_inv
  have vv := agg0_inv (ev ▸ arg_R h hv)
  obtain ⟨la, hla, hlk⟩ := keysAt_spec hks
  obtain ⟨g0, gL⟩ := h.st.loop.record i la hla
  unfold LoopOk at gL
  rw [hlk] at gL
  obtain ⟨_, es, ck, g1, g2, g3, g4⟩ := gL
  obtain ⟨kt, et, u1, u2, u3⟩ := mapT_spec hmt
  rw [vm, vk, vv]
  have hK : MapKept.IsKey .string (.string s) := trivial
  rcases find_set g2 g3 s with ⟨f1, f2, f3⟩ | ⟨j, e', f1, f2, f3, f4⟩
  ·
   have hb : memK ks s = false := Bool.eq_false_iff.2 fun q => f3 (memK_iff.1 q)
   have hi : insK ks s = ks ++ [s] := by unfold insK; rw [hb]; rfl
   rw [hi]
   obtain ⟨r1, r2⟩ := h.st.setMap hla g1 (es' := es.push { key := .string s, val := .agg #[], born := ck }) (ck' := ck + 1) (ks' := ks ++ [s]) (by simp [g2]) (fun e he => by
    simp only [Array.toList_push, List.mem_append, List.mem_singleton] at he
    rcases he with he | rfl
    ·
     exact g3 e he
    ·
     rfl) (List.nodup_append.2 ⟨g4, by simp, fun x hx y hy q => by rw [List.mem_singleton] at hy; subst hy; subst q; exact f3 hx⟩)
   refine ⟨undef, _, M, .inr ⟨?_, rfl⟩, r2, r1, R_undef⟩
   simp [Instr.mapUpdate, run_underlying u1, MapKept.run_getObj_map g1, MapKept.run_checkKey u2 hK, MapKept.run_findKey u2 f1, MapKept.run_setObj_map _ g1, Result.andThen, World.putObj]
  ·
   have hb : memK ks s = true := memK_iff.2 f4
   have hi : insK ks s = ks := by unfold insK; rw [hb]; rfl
   rw [hi]
   have hkey : ∀ e'', es[j]? = some e'' → ({ e'' with key := .string s, val := .agg #[] } : MapEntry).key = e''.key := fun e'' he' => by rw [f2] at he'; cases he'; exact f3.symm
   obtain ⟨r1, r2⟩ := h.st.setMap hla g1 (es' := es.modify j fun e => { e with key := .string s, val := .agg #[] }) (ck' := ck) (ks' := ks) (by rw [MapKept.modify_keys j _ hkey]; exact g2) (fun e he => by
    obtain ⟨i', hi', rfl⟩ := List.mem_iff_getElem.1 he
    simp only [Array.getElem_toList, Array.getElem_modify]
    split
    ·
     rfl
    ·
     exact g3 _ (by simp)) g4
   refine ⟨undef, _, M, .inr ⟨?_, rfl⟩, r2, r1, R_undef⟩
   simp [Instr.mapUpdate, run_underlying u1, MapKept.run_getObj_map g1, MapKept.run_checkKey u2 hK, MapKept.run_findKey u2 f1, f2, f3, MapKept.run_keyThatStays hK, MapKept.run_setObj_map _ g1, Result.andThen, World.putObj]
theorem ys_clear (h : Rel w0 n M e st a w) (x : Operand) (t ty : TypeId) {el sz by8 : Nat} {ag : Bool} (he : elT P t = some (el, sz, ag, by8)) {id ver o n' sz' : Nat} {cs : List AV} (ex : argV e x = .vec id ver o n') (hvr : vecR st.rows id ver = some (sz', cs))
  (hx : argOk e true x) (hs : sz' = sz) (hz : (zeroT P el).isSome = true) (hn : 0 < n') :
  Yields' P w0 M { st with rows := st.rows.set id (.vec ver sz (cs.take (o * sz))) } (.tup []) w (do pure (.value (← Builtin.clear_ #[t] ty #[a.eval x]))) := by
 subst hs
 have hR := ex ▸ arg_R h hx
 generalize a.eval x = vx at hR ⊢
 obtain ⟨i, hu, hi, _, hty⟩ := elT_spec he
 obtain ⟨zz, hzz⟩ := Option.isSome_iff_exists.1 hz
 obtain ⟨i', z, hi', hz1, hz2, hz3, _⟩ := zeroT_spec hzz
 have hrow := vecR_spec hvr
 obtain ⟨f1, f2, b1, b2, f5, f6, f7, c, ty', b3, b4, f10, b5, b6⟩ := h.st.row id _ hrow
 cases hR with
 | @vec _ _ _ _ p cap hid hver hh =>
  obtain ⟨rfl, hcap, hle⟩ := hh f1.symm
  rw [f2]
  have hsz : z.cells.size = sz' := by
   obtain ⟨i2, _, q1, q2, _⟩ := tyT_spec hty
   rw [hz3]
   rw [hi'] at q1
   cases q1
   exact q2
  generalize hl : (Builtin.zeroCells z.cells n').toList = l
  have hlen : l.length = n' * sz' := by rw [← hl, ← hsz]; simp [Builtin.zeroCells]
  have hbound : (o + n') * sz' ≤ c.size := by rw [b4]; exact Nat.mul_le_mul_right _ (by omega)
  have hone : ∀ u ∈ l, u.oneCell' = true := by
   intro u hu'
   rw [← hl] at hu'
   simp only [Builtin.zeroCells, Array.toList_map, List.mem_map, Array.mem_toList_iff, Array.mem_range] at hu'
   obtain ⟨j, hj, rfl⟩ := hu'
   have hlt : j % z.cells.size < z.cells.size := Nat.mod_lt _ (Nat.pos_of_ne_zero fun q => by rw [q] at hj; simp at hj)
   rw [getElem!_pos z.cells _ hlt]
   have hRz := R_ofVal (w0 := w0) (M := M) (w := w) hz2
   have hct := hRz.cellsOne (fun vs q => by have := notTup_ofVal hz2; rw [q] at this; cases this)
   have := hRz.cells
   exact (this.2 _ hlt (by rw [← this.1]; exact hlt)).oneCell (hct _ (List.getElem_mem _))
  have hst := run_storeCells_at P (M.blk id) (o * sz') ty' l 0 c w b3 (by rw [hlen]; rw [Nat.add_mul] at hbound; omega) hone
  simp only [Nat.add_zero] at hst
  generalize hc' : (c.toList.take (o * sz') ++ l ++ c.toList.drop (o * sz' + l.length)).toArray = c' at hst
  have hsz' : c'.size = c.size := by rw [← hc']; rw [Nat.add_mul] at hbound; simp; omega
  have hget : ∀ j, j < o * sz' → c'[j]? = c[j]? := by
   intro j hj
   rw [← hc', List.getElem?_toArray, List.append_assoc, List.getElem?_append_left (by rw [Nat.add_mul] at hbound; simp; omega), List.getElem?_take, if_pos hj, Array.getElem?_toList]
  have hx' : Ext w0 M w M (w.setRow (M.blk id) c') := ext_setRow M rfl (fun _ _ => rfl) rfl (fun _ _ => ⟨Nat.le_refl _, fun _ => ⟨rfl, rfl, rfl⟩⟩) (fun _ => Nat.le_refl _) b3 b1 (fun j hj => by rw [b2] at hj; omega) (Mem.own_row hid) (fun _ q => ⟨q, rfl⟩)
  have hidl : id < st.rows.length := (List.getElem?_eq_some_iff.1 hrow).1
  refine ⟨.tuple #[], _, M, .inl ?_, hx', ⟨Below.setRow h.st.below b1 _, h.st.N, by simp [h.st.NR], fun b hb => h.st.top b (by simpa using hb), h.st.inj, fun l' cs' hl' => ?_, fun id' x hid' => ?_, h.st.rowinj, h.st.loop.mono hx' rfl (KeepsObj.setRow b3 _)⟩, .tup rfl (fun i h1 => absurd h1 (by simp))⟩
  ·
   obtain ⟨m, rfl⟩ : ∃ m, n' = m + 1 := ⟨n' - 1, by omega⟩
   simp [Builtin.clear_, run_underlying hu, zeroValue, typeInfo, hi', hz1, hl, hst]
  ·
   obtain ⟨d1, d2, d, ty'', d3, d4, d5, d6⟩ := h.st.box l' cs' hl'
   have hl'N : l' < M.N := by rw [h.st.N]; exact (List.getElem?_eq_some_iff.1 hl').1
   exact ⟨d1, d2, d, ty'', by rw [setRow_other w _ _ _ (f5 l' hl'N)]; exact d3, d4, d5, fun i h1 h2 => (d6 i h1 h2).mono hx'⟩
  ·
   by_cases ell : id' = id
   ·
    subst ell
    simp only at hid'
    rw [List.getElem?_set_self hidl] at hid'
    cases hid'
    refine ⟨f1, f2, b1, b2, f5, f6, f7, c', ty', setRow_heap w _ c c' ty' _ b3, hsz'.trans b4, by rw [List.length_take]; omega, fun u hu' => b5 u (List.mem_of_mem_take hu'), fun i h1 h2 => ?_⟩
    have h3 : i < o * sz' ∧ i < cs.length := by rw [List.length_take] at h2; omega
    have := hget i h3.1
    rw [Array.getElem?_eq_getElem h1, Array.getElem?_eq_getElem (by omega)] at this
    rw [Option.some.inj this, List.getElem_take]
    exact (b6 i (by omega) h3.2).mono hx'
   ·
    simp only at hid'
    rw [List.getElem?_set_ne (Ne.symm ell)] at hid'
    have hk := h.st.row id' x hid'
    have hid'N : id' < M.NR := by rw [h.st.NR]; exact (List.getElem?_eq_some_iff.1 hid').1
    have hne : M.blk id' ≠ M.blk id := fun q => ell (h.st.rowinj id' id hid'N hid q)
    exact hk.keep hx' rfl rfl rfl rfl rfl hk.ne (setRow_other w _ _ _ hne)
end
end Go.Ev
